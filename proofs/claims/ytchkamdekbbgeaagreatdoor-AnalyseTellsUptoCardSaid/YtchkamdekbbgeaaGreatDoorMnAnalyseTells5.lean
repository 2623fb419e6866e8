/-
  Walks and plain laws that the law rests on, laid together. No conditions but those that each theorem names.
-/
import Derived.Test.YtchkamdekbbgeaaGreatDoorMnAnalyseTells4
set_option linter.unusedVariables false
set_option maxRecDepth 20000
set_option maxHeartbeats 1000000
open Array renaming getElem?_eq_some_iff→cY
open Bool renaming noConfusion→dA,or_eq_false_iff→pd
open Classical renaming byContradiction→tI,not_not→l6
open Go.Calls renaming mono→ju
open Go.Proofs.Tryz renaming prog→au
open Go.Value renaming bool→bO,int→ff,oneCell'→et,ownBlock→iz,slice→bD,tuple→jw
open Go.World renaming ownsRow→bm,ownsRow_nil→dM
open Int renaming toNat_natCast→jx
open List renaming all_cons→xx,all_eq_true→jT,append_assoc→ib,append_nil→eM,count_eq_zero→pw,count_le_length→r4,drop_eq_nil_of_le→kX,eq_nil_of_length_eq_zero→fR,ext_getElem?→nK,getD_eq_getElem?_getD→cM,getElem?_append_left→me,getElem?_append_right→mR,getElem?_cons_zero→xC,getElem?_drop→qA,getElem?_eq_getElem→bZ,getElem?_eq_none_iff→Ix,getElem?_eq_some_iff→eu,getElem?_map→eR,getElem?_set→ki,getElem?_take→mS,getElem?_zip_eq_some→jh,length→mg,length_append→bK,length_cons→bU,length_map→eX,length_nil→gz,length_pos_iff→nL,length_set→tY,length_singleton→ic,length_take→dB,length_zip→xF,map_append→gA,map_cons→nM,mem_cons→dR,mem_cons_self→mV,mem_filter→pB,mem_flatMap→oB,mem_map→gK,mem_of_getElem?→gB,not_mem_nil→uc,of_mem_zip→xI,take_of_length_le→eN,toArray→aX
open Nat renaming le_refl→cw,le_trans→dZ,lt_or_ge→ig
open Prod renaming snd→kA
open Go.Proofs.Tryz
open Go.Hb.dx Go.Proofs Go.Hb.dV Go.Hb.eH Go.Hb.mX Go.Hb.pF Go.Hb.eI

namespace Go.Hb
theorem PY (B:Nat) (H:cj) (F:aB) (rows:List Rw) (ln:Nat) (seen:List Tx) (r:List Tx) (c:Nat) (ar:Option Addr) (cr:Nat) (w:World) (A:St w B H F rows ln seen) (C:Tg w c 9 r.length (.slice ar r.length cr) (r.map str)) (E:∀ x∈r,x.length≤70000) (hw:r.length=width (r.getD 0 [])) (J:jl F seen) (I:width (r.getD 0 [])=2→r.getD 0 []∉seen) (G:F.dj.length+F.aliases.length+F.bz.length+F.rules.length+rows.length < 70000) (hk:r.getD 0 []=iJ):ez au 127 (aX [.pointer (some ⟨H.rb,0,none⟩),.slice ar r.length cr]) w (il B H seen (bX H.eof F seen rows ln r) w) (ik B H (bX H.eof F seen rows ln r) w):=by
 have h:=Q2 B H F rows ln seen r c ar cr w A C (by rw [hw,hk]; decide) E
 rw [show bX H.eof F seen rows ln r=ke F seen rows ln r from by unfold bX; rw [hk]; rfl]
 exact h
theorem P6 (B:Nat) (H:cj) (F:aB) (rows:List Rw) (ln:Nat) (seen:List Tx) (r:List Tx) (c:Nat) (ar:Option Addr) (cr:Nat) (w:World) (A:St w B H F rows ln seen) (C:Tg w c 9 r.length (.slice ar r.length cr) (r.map str)) (E:∀ x∈r,x.length≤70000) (hw:r.length=width (r.getD 0 [])) (J:jl F seen) (I:width (r.getD 0 [])=2→r.getD 0 []∉seen) (G:F.dj.length+F.aliases.length+F.bz.length+F.rules.length+rows.length < 70000) (hk:r.getD 0 []=iT):ez au 128 (aX [.pointer (some ⟨H.rb,0,none⟩),.slice ar r.length cr]) w (il B H seen (bX H.eof F seen rows ln r) w) (ik B H (bX H.eof F seen rows ln r) w):=by
 have h:=L1 B H F rows ln seen r c ar cr w A C (by rw [hw,hk]; decide) E
 rw [show bX H.eof F seen rows ln r=l0 F rows ln r from by unfold bX; rw [hk]; rfl]
 exact h
theorem P8 (B:Nat) (H:cj) (F:aB) (rows:List Rw) (ln:Nat) (seen:List Tx) (r:List Tx) (c:Nat) (ar:Option Addr) (cr:Nat) (w:World) (A:St w B H F rows ln seen) (C:Tg w c 9 r.length (.slice ar r.length cr) (r.map str)) (E:∀ x∈r,x.length≤70000) (hw:r.length=width (r.getD 0 [])) (J:jl F seen) (I:width (r.getD 0 [])=2→r.getD 0 []∉seen) (G:F.dj.length+F.aliases.length+F.bz.length+F.rules.length+rows.length < 70000) (hk:r.getD 0 []=jc):ez au 129 (aX [.pointer (some ⟨H.rb,0,none⟩),.slice ar r.length cr]) w (il B H seen (bX H.eof F seen rows ln r) w) (ik B H (bX H.eof F seen rows ln r) w):=by
 have h:=Vl B H F rows ln seen r c ar cr w A C (by rw [hw,hk]; decide) E
 rw [show bX H.eof F seen rows ln r=l1 F rows ln r from by unfold bX; rw [hk]; rfl]
 exact h
theorem P2 (B:Nat) (H:cj) (F:aB) (rows:List Rw) (ln:Nat) (seen:List Tx) (r:List Tx) (c:Nat) (ar:Option Addr) (cr:Nat) (w:World) (A:St w B H F rows ln seen) (C:Tg w c 9 r.length (.slice ar r.length cr) (r.map str)) (G:∀ x∈r,x.length≤70000) (hw:r.length=width (r.getD 0 [])) (I:jl F seen) (E:width (r.getD 0 [])=2→r.getD 0 []∉seen) (J:F.dj.length+F.aliases.length+F.bz.length+F.rules.length+rows.length < 70000) (hk:r.getD 0 []=jo):ez au 130 (aX [.pointer (some ⟨H.rb,0,none⟩),.slice ar r.length cr]) w (il B H seen (bX H.eof F seen rows ln r) w) (ik B H (bX H.eof F seen rows ln r) w):=by
 have h:=tt B H F rows ln seen r c ar cr w A C (by rw [hw,hk]; decide) G (by rw [hk]; decide)<|I _ (by rw [hk]; decide)<|E<|by rw [hk]; decide
 rw [show bX H.eof F seen rows ln r=jt F rows ln r from by unfold bX; rw [hk]; rfl]
 exact h
theorem PZ (B:Nat) (H:cj) (F:aB) (rows:List Rw) (ln:Nat) (seen:List Tx) (r:List Tx) (c:Nat) (ar:Option Addr) (cr:Nat) (w:World) (A:St w B H F rows ln seen) (C:Tg w c 9 r.length (.slice ar r.length cr) (r.map str)) (G:∀ x∈r,x.length≤70000) (hw:r.length=width (r.getD 0 [])) (I:jl F seen) (E:width (r.getD 0 [])=2→r.getD 0 []∉seen) (J:F.dj.length+F.aliases.length+F.bz.length+F.rules.length+rows.length < 70000) (hk:r.getD 0 []=jM):ez au 130 (aX [.pointer (some ⟨H.rb,0,none⟩),.slice ar r.length cr]) w (il B H seen (bX H.eof F seen rows ln r) w) (ik B H (bX H.eof F seen rows ln r) w):=by
 have h:=tt B H F rows ln seen r c ar cr w A C (by rw [hw,hk]; decide) G (by rw [hk]; decide)<|I _ (by rw [hk]; decide)<|E<|by rw [hk]; decide
 rw [show bX H.eof F seen rows ln r=jt F rows ln r from by unfold bX; rw [hk]; rfl]
 exact h
theorem P0 (B:Nat) (H:cj) (F:aB) (rows:List Rw) (ln:Nat) (seen:List Tx) (r:List Tx) (c:Nat) (ar:Option Addr) (cr:Nat) (w:World) (A:St w B H F rows ln seen) (C:Tg w c 9 r.length (.slice ar r.length cr) (r.map str)) (G:∀ x∈r,x.length≤70000) (hw:r.length=width (r.getD 0 [])) (I:jl F seen) (E:width (r.getD 0 [])=2→r.getD 0 []∉seen) (J:F.dj.length+F.aliases.length+F.bz.length+F.rules.length+rows.length < 70000) (hk:r.getD 0 []=ka):ez au 130 (aX [.pointer (some ⟨H.rb,0,none⟩),.slice ar r.length cr]) w (il B H seen (bX H.eof F seen rows ln r) w) (ik B H (bX H.eof F seen rows ln r) w):=by
 have h:=tt B H F rows ln seen r c ar cr w A C (by rw [hw,hk]; decide) G (by rw [hk]; decide)<|I _ (by rw [hk]; decide)<|E<|by rw [hk]; decide
 rw [show bX H.eof F seen rows ln r=jt F rows ln r from by unfold bX; rw [hk]; rfl]
 exact h
theorem PX (B:Nat) (H:cj) (F:aB) (rows:List Rw) (ln:Nat) (seen:List Tx) (r:List Tx) (c:Nat) (ar:Option Addr) (cr:Nat) (w:World) (A:St w B H F rows ln seen) (C:Tg w c 9 r.length (.slice ar r.length cr) (r.map str)) (G:∀ x∈r,x.length≤70000) (hw:r.length=width (r.getD 0 [])) (I:jl F seen) (E:width (r.getD 0 [])=2→r.getD 0 []∉seen) (J:F.dj.length+F.aliases.length+F.bz.length+F.rules.length+rows.length < 70000) (hk:r.getD 0 []=kr):ez au 130 (aX [.pointer (some ⟨H.rb,0,none⟩),.slice ar r.length cr]) w (il B H seen (bX H.eof F seen rows ln r) w) (ik B H (bX H.eof F seen rows ln r) w):=by
 have h:=tt B H F rows ln seen r c ar cr w A C (by rw [hw,hk]; decide) G (by rw [hk]; decide)<|I _ (by rw [hk]; decide)<|E<|by rw [hk]; decide
 rw [show bX H.eof F seen rows ln r=jt F rows ln r from by unfold bX; rw [hk]; rfl]
 exact h
theorem P3 (B:Nat) (H:cj) (F:aB) (rows:List Rw) (ln:Nat) (seen:List Tx) (r:List Tx) (c:Nat) (ar:Option Addr) (cr:Nat) (w:World) (A:St w B H F rows ln seen) (C:Tg w c 9 r.length (.slice ar r.length cr) (r.map str)) (G:∀ x∈r,x.length≤70000) (hw:r.length=width (r.getD 0 [])) (I:jl F seen) (E:width (r.getD 0 [])=2→r.getD 0 []∉seen) (J:F.dj.length+F.aliases.length+F.bz.length+F.rules.length+rows.length < 70000) (hk:r.getD 0 []=kL):ez au 130 (aX [.pointer (some ⟨H.rb,0,none⟩),.slice ar r.length cr]) w (il B H seen (bX H.eof F seen rows ln r) w) (ik B H (bX H.eof F seen rows ln r) w):=by
 have h:=tt B H F rows ln seen r c ar cr w A C (by rw [hw,hk]; decide) G (by rw [hk]; decide)<|I _ (by rw [hk]; decide)<|E<|by rw [hk]; decide
 rw [show bX H.eof F seen rows ln r=jt F rows ln r from by unfold bX; rw [hk]; rfl]
 exact h
theorem P1 (B:Nat) (H:cj) (F:aB) (rows:List Rw) (ln:Nat) (seen:List Tx) (r:List Tx) (c:Nat) (ar:Option Addr) (cr:Nat) (w:World) (A:St w B H F rows ln seen) (C:Tg w c 9 r.length (.slice ar r.length cr) (r.map str)) (E:∀ x∈r,x.length≤70000) (hw:r.length=width (r.getD 0 [])) (J:jl F seen) (I:width (r.getD 0 [])=2→r.getD 0 []∉seen) (G:F.dj.length+F.aliases.length+F.bz.length+F.rules.length+rows.length < 70000) (hk:r.getD 0 []=lz):ez au 131 (aX [.pointer (some ⟨H.rb,0,none⟩),.slice ar r.length cr]) w (il B H seen (bX H.eof F seen rows ln r) w) (ik B H (bX H.eof F seen rows ln r) w):=by
 have h:=Q6 B H F rows ln seen r c ar cr w A C (by rw [hw,hk]; decide) E
 rw [show bX H.eof F seen rows ln r=kf F rows ln r from by unfold bX; rw [hk]; rfl]
 exact h
theorem P5 (B:Nat) (H:cj) (F:aB) (rows:List Rw) (ln:Nat) (seen:List Tx) (r:List Tx) (c:Nat) (ar:Option Addr) (cr:Nat) (w:World) (A:St w B H F rows ln seen) (C:Tg w c 9 r.length (.slice ar r.length cr) (r.map str)) (E:∀ x∈r,x.length≤70000) (hw:r.length=width (r.getD 0 [])) (J:jl F seen) (I:width (r.getD 0 [])=2→r.getD 0 []∉seen) (G:F.dj.length+F.aliases.length+F.bz.length+F.rules.length+rows.length < 70000) (hk:r.getD 0 []=jb):ez au 132 (aX [.pointer (some ⟨H.rb,0,none⟩),.slice ar r.length cr]) w (il B H seen (bX H.eof F seen rows ln r) w) (ik B H (bX H.eof F seen rows ln r) w):=by
 have h:=Ty B H F rows ln seen r c ar cr w A C (by rw [hw,hk]; decide) E
 rw [show bX H.eof F seen rows ln r=kh H.eof F rows ln r from by unfold bX; rw [hk]; rfl]
 exact h
theorem PW (B:Nat) (H:cj) (F:aB) (rows:List Rw) (ln:Nat) (seen:List Tx) (r:List Tx) (c:Nat) (ar:Option Addr) (cr:Nat) (w:World) (A:St w B H F rows ln seen) (C:Tg w c 9 r.length (.slice ar r.length cr) (r.map str)) (E:∀ x∈r,x.length≤70000) (hw:r.length=width (r.getD 0 [])) (J:jl F seen) (I:width (r.getD 0 [])=2→r.getD 0 []∉seen) (G:F.dj.length+F.aliases.length+F.bz.length+F.rules.length+rows.length < 70000) (hk:r.getD 0 []=iH):ez au 133 (aX [.pointer (some ⟨H.rb,0,none⟩),.slice ar r.length cr]) w (il B H seen (bX H.eof F seen rows ln r) w) (ik B H (bX H.eof F seen rows ln r) w):=by
 have h:=Jv B H F rows ln seen r c ar cr w A C (by rw [hw,hk]; decide) E
 rw [show bX H.eof F seen rows ln r=jG H.eof F seen rows ln r from by unfold bX; rw [hk]; rfl]
 exact h
theorem P4 (B:Nat) (H:cj) (F:aB) (rows:List Rw) (ln:Nat) (seen:List Tx) (r:List Tx) (c:Nat) (ar:Option Addr) (cr:Nat) (w:World) (A:St w B H F rows ln seen) (C:Tg w c 9 r.length (.slice ar r.length cr) (r.map str)) (G:∀ x∈r,x.length≤70000) (hw:r.length=width (r.getD 0 [])) (J:jl F seen) (I:width (r.getD 0 [])=2→r.getD 0 []∉seen) (E:F.dj.length+F.aliases.length+F.bz.length+F.rules.length+rows.length < 70000) (hk:r.getD 0 []=iK):ez au 134 (aX [.pointer (some ⟨H.rb,0,none⟩),.slice ar r.length cr]) w (il B H seen (bX H.eof F seen rows ln r) w) (ik B H (bX H.eof F seen rows ln r) w):=by
 have h:=C5 B H F rows ln seen r c ar cr w A C (by rw [hw,hk]; decide) G E
 rw [show bX H.eof F seen rows ln r=gP H.eof F rows ln r from by unfold bX; rw [hk]; rfl]
 exact h
theorem P7 (B:Nat) (H:cj) (F:aB) (rows:List Rw) (ln:Nat) (seen:List Tx) (r:List Tx) (c:Nat) (ar:Option Addr) (cr:Nat) (w:World) (A:St w B H F rows ln seen) (C:Tg w c 9 r.length (.slice ar r.length cr) (r.map str)) (G:∀ x∈r,x.length≤70000) (hw:r.length=width (r.getD 0 [])) (J:jl F seen) (I:width (r.getD 0 [])=2→r.getD 0 []∉seen) (E:F.dj.length+F.aliases.length+F.bz.length+F.rules.length+rows.length < 70000) (hk:r.getD 0 []=du):ez au 134 (aX [.pointer (some ⟨H.rb,0,none⟩),.slice ar r.length cr]) w (il B H seen (bX H.eof F seen rows ln r) w) (ik B H (bX H.eof F seen rows ln r) w):=by
 have h:=C5 B H F rows ln seen r c ar cr w A C (by rw [hw,hk]; decide) G E
 rw [show bX H.eof F seen rows ln r=gP H.eof F rows ln r from by unfold bX; rw [hk]; rfl]
 exact h
theorem EV (B:Nat) (H:cj) (F:aB) (rows:List Rw) (ln:Nat) (seen:List Tx) (r:List Tx) (A:Nat) (ar:Option Addr) (cr:Nat) (w:World) (C:St w B H F rows ln seen) (E:Tg w A 9 r.length (.slice ar r.length cr) (r.map str)) (J:∀ x∈r,x.length≤70000) (hw:r.length=width (r.getD 0 [])) (O:jl F seen) (I:width (r.getD 0 [])=2→r.getD 0 []∉seen) (G:F.dj.length+F.aliases.length+F.bz.length+F.rules.length+rows.length < 70000) {v:Value} (c:gn (r.getD 0 [])=some v):∃ f:Nat,v= .agg [.int .i64 (width (r.getD 0 []):Nat),.func (.func f) #[] #[]].toArray∧bd au f∧ez au f (aX [.pointer (some ⟨H.rb,0,none⟩),.slice ar r.length cr]) w (il B H seen (bX H.eof F seen rows ln r) w) (ik B H (bX H.eof F seen rows ln r) w):=by
 unfold gn at c
 by_cases hk:r.getD 0 []=du
 · rw [if_pos hk] at c; cases c; exact ⟨_,by rw [hk]; rfl,Cj,P7 B H F rows ln seen r A ar cr w C E J hw O I G hk⟩
 · rw [if_neg hk] at c; clear hk
   by_cases hk:r.getD 0 []=iK
   · rw [if_pos hk] at c; cases c; exact ⟨_,by rw [hk]; rfl,Cj,P4 B H F rows ln seen r A ar cr w C E J hw O I G hk⟩
   · rw [if_neg hk] at c; clear hk
     by_cases hk:r.getD 0 []=iH
     · rw [if_pos hk] at c; cases c; exact ⟨_,by rw [hk]; rfl,Kv,PW B H F rows ln seen r A ar cr w C E J hw O I G hk⟩
     · rw [if_neg hk] at c; clear hk
       by_cases hk:r.getD 0 []=jb
       · rw [if_pos hk] at c; cases c; exact ⟨_,by rw [hk]; rfl,Ku,P5 B H F rows ln seen r A ar cr w C E J hw O I G hk⟩
       · rw [if_neg hk] at c; clear hk
         by_cases hk:r.getD 0 []=lz
         · rw [if_pos hk] at c; cases c; exact ⟨_,by rw [hk]; rfl,Kt,P1 B H F rows ln seen r A ar cr w C E J hw O I G hk⟩
         · rw [if_neg hk] at c; clear hk
           by_cases hk:r.getD 0 []=kL
           · rw [if_pos hk] at c; cases c; exact ⟨_,by rw [hk]; rfl,sy,P3 B H F rows ln seen r A ar cr w C E J hw O I G hk⟩
           · rw [if_neg hk] at c; clear hk
             by_cases hk:r.getD 0 []=kr
             · rw [if_pos hk] at c; cases c; exact ⟨_,by rw [hk]; rfl,sy,PX B H F rows ln seen r A ar cr w C E J hw O I G hk⟩
             · rw [if_neg hk] at c; clear hk
               by_cases hk:r.getD 0 []=ka
               · rw [if_pos hk] at c; cases c; exact ⟨_,by rw [hk]; rfl,sy,P0 B H F rows ln seen r A ar cr w C E J hw O I G hk⟩
               · rw [if_neg hk] at c; clear hk
                 by_cases hk:r.getD 0 []=jM
                 · rw [if_pos hk] at c; cases c; exact ⟨_,by rw [hk]; rfl,sy,PZ B H F rows ln seen r A ar cr w C E J hw O I G hk⟩
                 · rw [if_neg hk] at c; clear hk
                   by_cases hk:r.getD 0 []=jo
                   · rw [if_pos hk] at c; cases c; exact ⟨_,by rw [hk]; rfl,sy,P2 B H F rows ln seen r A ar cr w C E J hw O I G hk⟩
                   · rw [if_neg hk] at c; clear hk
                     by_cases hk:r.getD 0 []=jc
                     · rw [if_pos hk] at c; cases c; exact ⟨_,by rw [hk]; rfl,Ks,P8 B H F rows ln seen r A ar cr w C E J hw O I G hk⟩
                     · rw [if_neg hk] at c; clear hk
                       by_cases hk:r.getD 0 []=iT
                       · rw [if_pos hk] at c; cases c; exact ⟨_,by rw [hk]; rfl,Kr,P6 B H F rows ln seen r A ar cr w C E J hw O I G hk⟩
                       · rw [if_neg hk] at c; clear hk
                         by_cases hk:r.getD 0 []=iJ
                         · rw [if_pos hk] at c; cases c; exact ⟨_,by rw [hk]; rfl,Kq,PY B H F rows ln seen r A ar cr w C E J hw O I G hk⟩
                         · rw [if_neg hk] at c; clear hk
                           cases c
theorem ER {s:Tx} (c:gn s=none):width s=0:=by
 unfold gn at c
 by_cases ab:s=du
 · rw [if_pos ab] at c; cases c
 · rw [if_neg ab] at c
   by_cases Y:s=iK
   · rw [if_pos Y] at c; cases c
   · rw [if_neg Y] at c
     by_cases A:s=iH
     · rw [if_pos A] at c; cases c
     · rw [if_neg A] at c
       by_cases Z:s=jb
       · rw [if_pos Z] at c; cases c
       · rw [if_neg Z] at c
         by_cases J:s=lz
         · rw [if_pos J] at c; cases c
         · rw [if_neg J] at c
           by_cases V:s=kL
           · rw [if_pos V] at c; cases c
           · rw [if_neg V] at c
             by_cases C:s=kr
             · rw [if_pos C] at c; cases c
             · rw [if_neg C] at c
               by_cases I:s=ka
               · rw [if_pos I] at c; cases c
               · rw [if_neg I] at c
                 by_cases G:s=jM
                 · rw [if_pos G] at c; cases c
                 · rw [if_neg G] at c
                   by_cases O:s=jo
                   · rw [if_pos O] at c; cases c
                   · rw [if_neg O] at c
                     by_cases ac:s=jc
                     · rw [if_pos ac] at c; cases c
                     · rw [if_neg ac] at c
                       by_cases aa:s=iT
                       · rw [if_pos aa] at c; cases c
                       · rw [if_neg aa] at c
                         by_cases E:s=iJ
                         · rw [if_pos E] at c; cases c
                         · rw [if_neg E] at c
                           unfold width fQ; simp [E,aa,ac,O,G,I,C,V,J,Z,A,Y,ab]
theorem zg (s:Tx):gn s=none∨∃ (wd f:Nat),gn s=some (Value.agg #[.int .i64 (wd:Nat),.func (.func f) #[] #[]])∧width s=wd∧wd≠0:=by
 by_cases c:s=du
 · exact .inr ⟨4,134,by unfold gn; rw [if_pos c],by rw [c]; decide,ay⟩
 by_cases A:s=iK
 · exact .inr ⟨4,134,by unfold gn; rw [if_neg c,if_pos A],by rw [A]; decide,ay⟩
 by_cases C:s=iH
 · exact .inr ⟨2,133,by unfold gn; rw [if_neg c,if_neg A,if_pos C],by rw [C]; decide,ay⟩
 by_cases E:s=jb
 · exact .inr ⟨2,132,by unfold gn; rw [if_neg c,if_neg A,if_neg C,if_pos E],by rw [E]; decide,ay⟩
 by_cases G:s=lz
 · exact .inr ⟨2,131,by unfold gn; rw [if_neg c,if_neg A,if_neg C,if_neg E,if_pos G],by rw [G]; decide,ay⟩
 by_cases I:s=kL
 · exact .inr ⟨2,130,by unfold gn; rw [if_neg c,if_neg A,if_neg C,if_neg E,if_neg G,if_pos I],by rw [I]; decide,ay⟩
 by_cases J:s=kr
 · exact .inr ⟨2,130,by unfold gn; rw [if_neg c,if_neg A,if_neg C,if_neg E,if_neg G,if_neg I,if_pos J],by rw [J]; decide,ay⟩
 by_cases O:s=ka
 · exact .inr ⟨2,130,by unfold gn; rw [if_neg c,if_neg A,if_neg C,if_neg E,if_neg G,if_neg I,if_neg J,if_pos O],by rw [O]; decide,ay⟩
 by_cases V:s=jM
 · exact .inr ⟨2,130,by unfold gn; rw [if_neg c,if_neg A,if_neg C,if_neg E,if_neg G,if_neg I,if_neg J,if_neg O,if_pos V],by rw [V]; decide,ay⟩
 by_cases Y:s=jo
 · exact .inr ⟨2,130,by unfold gn; rw [if_neg c,if_neg A,if_neg C,if_neg E,if_neg G,if_neg I,if_neg J,if_neg O,if_neg V,if_pos Y],by rw [Y]; decide,ay⟩
 by_cases Z:s=jc
 · exact .inr ⟨2,129,by unfold gn; rw [if_neg c,if_neg A,if_neg C,if_neg E,if_neg G,if_neg I,if_neg J,if_neg O,if_neg V,if_neg Y,if_pos Z],by rw [Z]; decide,ay⟩
 by_cases aa:s=iT
 · exact .inr ⟨2,128,by unfold gn; rw [if_neg c,if_neg A,if_neg C,if_neg E,if_neg G,if_neg I,if_neg J,if_neg O,if_neg V,if_neg Y,if_neg Z,if_pos aa],by rw [aa]; decide,ay⟩
 by_cases ab:s=iJ
 · exact .inr ⟨2,127,by unfold gn; rw [if_neg c,if_neg A,if_neg C,if_neg E,if_neg G,if_neg I,if_neg J,if_neg O,if_neg V,if_neg Y,if_neg Z,if_neg aa,if_pos ab],by rw [ab]; decide,ay⟩
 refine .inl ?_
 unfold gn
 rw [if_neg c,if_neg A,if_neg C,if_neg E,if_neg G,if_neg I,if_neg J,if_neg O,if_neg V,if_neg Y,if_neg Z,if_neg aa,if_neg ab]
theorem PM {α:Type} {l:List α} {i:Nat} {d:α} (h:i < l.length):l.getD i d∈l:=by
 rw [cM,bZ h]; exact List.getElem_mem h
def iU (n:Nat) (c:List (List UInt8)):List (Nat×List UInt8):=(c.zipIdx n).map fun q=>(q.2,q.1)
theorem Sg (n:Nat) (l:List UInt8) (c:List (List UInt8)):iU n (l::c)=(n,l)::iU (n+1) c:=by simp [iU,List.zipIdx_cons]
theorem Sh (n:Nat):iU n []= []:=rfl
theorem zV (n:Nat) (c:List (List UInt8)):(iU n c).map kA=c:=by
 unfold iU; rw [List.map_map]; exact List.zipIdx_map_fst n c
theorem FU (n:Nat) (c:List (List UInt8)):(iU n c).length=c.length:=by simp [iU]
def uZ (x:Nat×List UInt8):Array Value:= #[.int .i64 x.1,str x.2]
theorem zU {c:List (List UInt8)} {n:Nat} {pre:List (Nat×List UInt8)} {x:Nat×List UInt8} {rest:List (Nat×List UInt8)} (h:iU n c=pre++x::rest):pre.length < c.length∧x.1=n+pre.length∧c=pre.map kA++x.2::rest.map kA:=by
 have h1:=congrArg mg h
 rw [FU,bK,bU] at h1
 have h2:=congrArg (List.map kA) h
 rw [zV,gA,nM] at h2
 refine ⟨ab,?_,h2⟩
 have h3:=congrArg (fun l=>l[pre.length]?) h
 simp only [iU,eR,List.getElem?_zipIdx,mR (cw _),Nat.sub_self,xC] at h3
 cases h4:c[pre.length]? with
 | none=>rw [h4] at h3; cases h3
 | some q=>rw [h4] at h3; cases h3; rfl
theorem DC (s:List UInt8) (w:World):
 ba au 125 (aX [str s]) w (fun v w'=> ∃ b,v= .func (.func 189) #[] #[aV b]∧w.heap.size≤b∧w'.heap[b]? =some (.cells [str s].toArray 9 (0,0))∧Wk w w'):=by
 exact enter func125 aa ntmps125 aa<|ak fun c=>e<|sw aa aa fun C J I G E=>aw<|c<|ak fun A=>p zL<|aw<|A<|rt<|a6 aa<|⟨C,aa,ab,E,G.md⟩
theorem Ob (s:List UInt8) (b:Nat) (hs:s.length≤65536) (l:Nat) (A:List (Nat×List UInt8)→World→Prop) (w:World) (Y:A [] w) (aK:∀ pre W,A pre W→W.heap[b]? =some (.cells [str s].toArray 9 (0,0))) (cD:∀ pre C O,A pre C→Wk C O→A pre O) (aP:∀ pre x rest C,(iU 1<|da s)=pre++x::rest→A pre C→YieldAt Fence.wide 0 au l (uZ x) C fun e W'=>e= .returned (.bool true)∧A (pre++ [x]) W'):
 ba au 189 (aX [.func (.yield l) #[] #[],aV b]) w (fun v w'=>A (iU 1<|da s) w'):=by
 have ac:=aK _ _ Y
 refine enter func189 aa ntmps189 aa<|az fun ae=>ak fun ah=>p (ld cB aa<|(bj ac).trans aa)<|p (dv u9 aa aa)<|p (gt aa aa)<|nl<|ah<|cd aa (fun h=>absurd h ab) fun aS=> ?_
 refine aQ<|ae<|ak fun ai=>p (ld cB aa<|(bj ac).trans aa)<|e<|cl Cn (G2 s Fw _ ab ay) aa fun v12 a0 aF=> ?_
 obtain ⟨rfl,ax⟩:=aF
 refine aw<|ai<|ak fun al=>aw<|al<|aE<|lp (fun V G J=> ∃ (r:List UInt8) (pre:List (Nat×List UInt8)),(r.length≤s.length)∧((iU 1<|da s)=pre++iU (pre.length+1) (e6 [] r))∧(A pre J)∧(pre.length≤s.length)∧(G 0= .func (.yield l) #[] #[])∧(G 3=str r)∧(G 4=aj (pre.length+1))∧(r.length=V)) _ ⟨wS s,[],(AY s),aa,(cD _ _ _ Y ax),(Nat.zero_le _),aa,aa,(iv<|by first | rfl | (rw [bK]; rfl)),aa⟩ ?_
 rintro V G J ⟨r,pre,aW,ad,Z,aT,aM,aN,aO,rfl⟩
 refine fx 0 aM<|fx 3 aN<|fx 4 aO<|az fun am=>ak fun an=>ao (str r)<|p (rv aa aa)<|nl<|an<|cd aa (fun E=> ?_) fun E=> ?_
 have I:(iU 1<|da s)=pre++(pre.length+1,jm (la 10 r))::iU (pre.length+2) (e6 []<|mz 10 r):=by rw [ad,Ru E,Sg]
 have aU:=Ni (c:=10) E
 have aR:=Nf 10 r
 refine aQ<|am<|az fun ap=>aE<|ak fun aq=>ao (str r)<|e<|cl KI (Nj r 10 _ ab) aa fun aY a1 aG=> ?_
 obtain ⟨rfl,aA⟩:=aG
 refine p mv<|p (xt aa aa)<|p (xt aa aa)<|p (xt aa aa)<|p aC<|p aC<|p aC<|nl<|aq<|ak fun av=>p mv<|aw<|av<|az fun ag=> ?_
 refine TE ?_
 refine py aa (aH (.func (.yield l) #[] #[]) aa)<|py aa (aH (aj<|pre.length+1) aa)<|py aa mv<|ey aa<|cl Cm (Vi (la 10 r) _ ab) aa fun aZ a2 aI=> ?_
 obtain ⟨rfl,aB⟩:=aI
 have aD:=cD _ _ _ Z<|Md.trans aA aB
 refine V6 aa aa (aP pre (pre.length+1,jm (la 10 r)) _ _ I aD) fun a3 aJ=> ?_
 refine py aa (no aa)<|Sa ?_
 refine ag<|cf (aa)<|aQ<|bn<|ap<|rg aa<|ao (aj<|pre.length+1)<|p (bG ((pre.length+2:Nat):Int) aa aa<|bf ab ab) ?_
 exact p aC<|nl<|tn<|⟨_,ab,mz 10 r,pre++ [(pre.length+1,jm (la 10 r))],ab,(by rw [I,ib,bK]; rfl),aJ,(by have h1:=zU I; have h2:=qa s; rw [bK,ic]; omega),aa,aa,(iv<|by first | rfl | (rw [bK]; rfl)),aa⟩
 refine ext<|bc<|bc<|be<|f0 aa ?_
 show A (iU 1<|da s) J
 have aL:r= []:=Decidable.of_not_not E
 rw [ad,aL,Ft,Sh,eM]
 exact Z
theorem DB (s:List UInt8) (b:Nat) (hs:s.length≤65536):BL au 189 #[.pointer (some ⟨b,0,none⟩)] uZ (iU 1<|da s) (fun W=>W.heap[b]? =some (.cells [str s].toArray 9 (0,0))):=
 fun l c W A C cD G=>ju (Ob s b hs l c W A C cD G) fun e w' ⟨v,he,E⟩=>⟨⟨v,he⟩,E⟩
theorem GN (s:List UInt8) (w:World) (hs:s.length≤1048576):
 ba au 71 (aX [str s]) w (fun v w'=>(∃ a,v= .tuple #[a,.int .i64 (if 65536 < s.length then 10 else 0)]∧(if 65536 < s.length then a= .slice none 0 0 else bm w' w.heap.size 9 1 (a) (da s).length ((da s).map str)))∧Wk w w'):=by
 refine DH [] func71 aa ntmps71 aa ?_
 refine gv<|hY<|rg aa<|p aC<|p aC<|nl<|gF<|gv<|gv<|hY<|rg aa<|p (aH (str s) aa)<|p (dv u9 aa aa)<|p (gt aa aa)<|nl<|gF<|hY<|cd aa (fun aM=> ?_) fun aM=> ?_
 refine sq fun aS aF=>rg aa<|p aC<|p aC<|nl<|tn<|aF _ _<|rt<|prt<|DL aa aa aa ?_
 have J:65536 < s.length:=ab
 exact ⟨⟨.slice none 0 0,by show jw #[.slice none 0 0,.int .i64 10]=_; rw [if_pos J],by rw [if_pos J]⟩,Md.refl _ _⟩
 refine aQ<|gF<|gv<|hY<|rg aa<|e<|iq Wd fun ao aP aY aI av=>nl<|gF<|gv<|gv<|hY<|rg aa<|p (aH (str s) aa)<|e<|cl Ci (DC s _) aa fun v11 an aJ=> ?_
 obtain ⟨ae,rfl,aV,aq,aw⟩:=aJ
 have O:Wk w an:=Md.trans aI.md aw
 have aK:=aw.aE av
 have aW:=(cY.1 aq).1
 have a3:ao < aP.heap.size:=(cY.1 av).1
 have J:s.length≤65536:=ab
 refine nl<|gF ?_
 apply Gj (uZ) (iU 1<|da s) (fun W=>W.heap[ae]? =some (.cells [str s].toArray 9 (0,0))) (fun pre I=> ∃ v,I.heap[ao]? =some (.cells [v].toArray 35 (0,0))∧bm I an.heap.size 9 1 v pre.length ((pre.map kA).map str)∧I.heap[ae]? =some (.cells [str s].toArray 9 (0,0))∧an.heap.size≤I.heap.size∧Wk w I) rfl Cr (fun _=>rfl) (DB s ae J) (⟨.slice none 0 0,aK,dM _ _ _ _,aq,cw _,O⟩) (fun _ _ ⟨_,_,_,h,_⟩=>h) (fun pre A C F ⟨v,h1,h2,h3,h5,h4⟩ hm ac=>⟨v,wm h1 hm ac,GR h2 hm ac,wm h3 hm ac,dZ h5 hm.size,GS h4 hm O.size ac⟩)
 intro l x I K V
 exact rg aa<|p (bV (str x.2) aa)<|nl<|tn<|V
 intro l pre x rest I aN ah
 obtain ⟨v,ad,G,ak,am,ag⟩:=ah
 obtain ⟨a2,a5,a6⟩:=zU aN
 have a0:=qa s
 have a4:=(cY.1 ak).1
 refine aE<|rg aa<|p (ld pL aa<|(bj ad).trans aa)<|p mv<|e<|kG jP aa aa fun aT aO ai E ax=> ?_
 have aA:Wk w aO:=Md.trans ag E.md
 have ai:=E.md.aE ad
 refine e<|ap jP (a8 G E.md) aa (dZ am E.md.size) aa (aG.fO ax) (aa) (aa) ab ab fun v17 a9 al Y a7 aZ=> ?_
 have aB:=Wk.own aA (a8 G E.md) Y O.size
 have aL:=Y.aE (E.md.aE ak) fun h=>by have :=dd (a8 G E.md) h; omega
 have aj:=Y.aE ai fun h=>dS (a8 G E.md) ai ay h
 refine e<|dQ Nu aa aa (eQ al) aj (by simp) fun aR Z az=> ?_
 have aD:Wk w aR:=Md.trans' aB Z fun k hk h=>by omega
 exact nl<|bn<|⟨(jk.wk E.md).trans ((jk.md Y<|td<|a8 G E.md).trans<|jk.md Z fun k hk=>⟨_,_,_,hk ▸ aj⟩),v17,az,cz (by rw [gA,gA,bK]; exact al) Z (fun k hk h=>dS al aj ay<|h ▸ hk),Z.aE aL (fun h=>by omega),dZ am (dZ E.md.size<|dZ Y.size Z.size),aD⟩
 intro D I aU ah V
 obtain ⟨v,ad,G,ak,am,ag⟩:=ah
 have a1:=(cY.1 V).1
 refine gF<|gv<|hY<|rg aa<|p (ld pL aa<|(bj ad).trans aa)<|p aC<|p aC<|nl<|gF<|Am<|DM aa aa aa V ?_
 have J:¬65536 < s.length:=ab
 rw [zV,FU] at G
 exact ⟨⟨v,by show jw #[v,.int .i64 0]=_; rw [if_neg J],by rw [if_neg J]; exact fk (cz G (rp _ _ _) fun k hk h=>by obtain ⟨c,e,z,h1⟩:=td G k hk; rw [h,V] at h1; cases h1) O.size⟩,Md.trans' ag (rp _ _ _) fun k hk h=>by have :=O.size; omega⟩
set_option maxHeartbeats 1000000 in
theorem Gn (s:List UInt8) (w:World) (hs:s.length≤1048576):
 ba au 70 (aX [str s]) w (fun v w'=>(∃ a,v= .tuple #[a,.int .i64 (if 65536 < s.length then 10 else 0)]∧(if 65536 < s.length then a= .slice none 0 0 else ∃ vs,bm w' w.heap.size 181 2 a (eK s).length (lE vs)∧gU w' w.heap.size 9 vs (eK s)))∧Wk w w'):=by
 refine DH [] func70 aa ntmps70 aa ?_
 refine gv<|hY<|rg aa<|p aC<|p aC<|nl<|gF<|gv<|gv<|hY<|rg aa<|p (aH (str s) aa)<|p (dv u9 aa aa)<|p (gt aa aa)<|nl<|gF<|hY<|cd aa (fun bB=> ?_) fun bB=> ?_
 refine sq fun aR aj=>rg aa<|p aC<|p aC<|nl<|tn<|aj _ _<|rt<|prt<|DL aa aa aa ?_
 have Y:65536 < s.length:=ab
 exact ⟨⟨.slice none 0 0,by show jw #[.slice none 0 0,.int .i64 10]=_; rw [if_pos Y],by rw [if_pos Y]⟩,Md.refl _ _⟩
 refine aQ<|gF<|gv<|hY<|rg aa<|e<|iq V9 fun ao b2 ce bv aV=>nl<|gF<|gv<|gv<|hY<|rg aa<|p (aH (str s) aa)<|e<|cl Ci (DC s _) aa fun cs ax bw=> ?_
 obtain ⟨aB,rfl,cb,aT,aY⟩:=bw
 have ae:Wk w ax:=Md.trans bv.md aY
 have cm:ao < b2.heap.size:=(cY.1 aV).1
 have bz:=aY.aE aV
 have cc:=(cY.1 aT).1
 have Y:s.length≤65536:=ab
 refine nl<|gF ?_
 apply Gj (uZ) (iU 1<|da s) (fun W=>W.heap[aB]? =some (.cells [str s].toArray 9 (0,0))) (fun pre J=> ∃ v vs,J.heap[ao]? =some (.cells [v].toArray 156 (0,0))∧bm J ax.heap.size 181 2 v (kQ 1<|pre.map kA).length (lE vs)∧gU J ax.heap.size 9 vs (kQ 1<|pre.map kA)∧J.heap[aB]? =some (.cells [str s].toArray 9 (0,0))∧ax.heap.size≤J.heap.size∧Wk w J) rfl Cr (fun _=>rfl) (DB s aB Y) (⟨.slice none 0 0,[],bz,dM _ _ _ _,gU.nil _ _ _,aT,cw _,ae⟩) (fun _ _ ⟨_,_,_,_,_,h,_⟩=>h) (fun pre A C F ⟨v,vs,h1,h2,bd,h3,h5,h4⟩ hm ai=>⟨v,vs,wm h1 hm ai,GR h2 hm ai,bd.md hm (fun k hk cur z=>(ai k hk).2 cur _ z),wm h3 hm ai,dZ h5 hm.size,GS h4 hm ae.size ai⟩)
 intro l x J K ag
 exact sq fun aR aj=>rg aa<|p (bV (.int .i64 x.1) aa)<|nl<|tn<|aj _ _<|rg aa<|p (bV (str x.2) aa)<|nl<|tn<|ag
 intro l pre x rest J bY aI
 obtain ⟨v,vs,aN,am,av,aM,aw,aF⟩:=aI
 obtain ⟨ck,bZ,b0⟩:=zU bY
 have ci:=qa s
 have cn:=(cY.1 aM).1
 have co:x.2.length≤s.length:=Fl<|by rw [b0]; simp
 have ch:=yZ x.2 []
 have bJ:=Gk (pre.map kA) 1
 rw [eX] at bJ
 refine aE<|sq fun aR aj=>rg aa<|p mv<|e<|cl Kp (OR x.2 _ ab) aa fun ct a5 bx=> ?_
 obtain ⟨al,bi⟩:=bx
 obtain ⟨E,aq,rfl⟩:=cQ al
 have aZ:=(aU al).2
 have bC:=(aU al).1
 refine p aC<|nl<|tn<|aj _ _ ?_
 refine eV (fun aA az=> ∃ (n cp:Nat),(n≤(dC [] x.2).length)∧(n≤cp)∧(od (dC [] x.2)=(dC [] x.2).take n)∧(Wk a5 az)∧(aA 4= .pointer (some ⟨ao,0,none⟩))∧(aA 5= .int .i64 x.1)∧(aA 7= .slice E n cp)) ?_ ?_
 refine sq fun bb aJ=>rg aa<|p mv<|p (bM e8 aa aa)<|p mv<|nl<|tn<|aJ _ _<|aE<|lp (fun aS ac a9=> ∃ (i:Nat),(i≤(dC [] x.2).length)∧(∀ q,q < i→vM ((dC [] x.2).getD q [])=false)∧(Wk a5 a9)∧(ac 4= .pointer (some ⟨ao,0,none⟩))∧(ac 5= .int .i64 x.1)∧(ac 7= .slice E (dC [] x.2).length aq)∧(ac 19= .slice E (dC [] x.2).length aq)∧(ac 20= .int .i64 (dC [] x.2).length)∧(ac 21= .int .i64 i)∧((dC [] x.2).length - i=aS)) _ ⟨0,ab,(fun q bI=>by omega),(Md.refl _ _),aa,aa,aa,aa,aa,aa,aa⟩ ?_
 rintro aS ac a9 ⟨i,hi,aP,ah,bU,bW,bX,bR,bS,bT,rfl⟩
 refine fx 4 bU<|fx 5 bW<|fx 7 bX<|fx 19 bR<|fx 20 bS<|fx 21 bT<|sq fun b4 bp=>rg aa<|p (lt aa aa)<|nl<|tn<|bp _ _<|sq fun b5 bq=>cd aa (fun bD=> ?_) fun bD=> ?_
 refine aQ<|tn<|bq _ _<|sq fun b6 br=>aE<|sq fun b7 bs=>rg aa<|p (aH (.int .i64 i) aa)<|p (a7 c8 aa aa ab<|aG.ok (aZ.wk ah)<|cX ab)<|p (ld cB aa<|dt.get (i:=i) (aZ.wk ah) ab)<|p (bV (.int .i64 i) aa)<|p aC<|nl<|tn<|bs _ _<|sq fun b8 bt=>rg aa<|p mv<|p (mE 0 u9 aa aa<|nL.2 (Ee _ _ _<|PM ab).1)<|p (cg aa aa)<|nl<|tn<|bt _ _<|cd aa (fun bF=> ?_) fun bF=> ?_
 exact sq fun b9 bu=>rg aa<|p (aH (.slice E (dC [] x.2).length aq) aa)<|p (aH (.int .i64 i) aa)<|p (aH (.int .i64 i) aa)<|p (Ml c8 aa aa aa ab)<|p aC<|nl<|tn<|bu _ _<|ext<|na ay<|te _<|te _<|be<|tn<|⟨i,i,hi,(cw _),(E6 hi aP<|.inr<|decide_eq_true ab),ah,aa,aa,aa⟩
 exact aQ<|bn<|tn<|br _ _<|rg aa<|p (ad aa aa<|cH ab)<|p mv<|nl<|tn<|⟨_,ab,i+1,ab,(fun q bI=>by rcases ig q i with h | h <;> first | exact aP q h | (rw [show q=i by omega]; exact decide_eq_false ab)),ah,aa,aa,aa,aa,aa,aa,aa⟩
 exact ext<|te _<|te _<|be<|tn<|⟨(dC [] x.2).length,aq,(cw _),bC,(by have h:=E6 hi aP (.inl ab); rwa [show i=(dC [] x.2).length from by omega] at h),ah,aa,aa,aa⟩
 rintro aA az ⟨n,cp,hn,bH,a1,aD,bO,bP,bQ⟩
 refine fx 4 bO<|fx 5 bP<|fx 7 bQ ?_
 have G:Wk J az:=Md.trans bi aD
 have aL:=G.aE aN
 have a3:=a8 am G
 have a4:=av.wk G
 have a0:=G.aE aM
 have aW:Wk w az:=Md.trans aF G
 refine sq fun bb aJ=>rg aa<|p (aH (.slice E n cp) aa)<|p (bM e8 aa aa)<|p (gt aa aa)<|nl<|tn<|aJ _ _<|cd aa (fun bG=> ?_) fun bG=> ?_
 have an:oW x.2 (1 +pre.length)= [(x.1,(dC [] x.2).take n)]:=by unfold oW; rw [a1,if_neg (fun h=>by have h:=congrArg mg h; rw [dB,gz] at h; omega),← bZ]
 refine rg aa<|p (ld qJ aa<|(bj aL).trans aa)<|p (aH (.int .i64 x.1) aa)<|p (aH (.slice E n cp) aa)<|p (c7 (ps:= [(0,.int .i64 x.1),(1,.slice E n cp)]) (L:= [.int .i64 x.1,.slice E n cp]) Ux aa<|aa)<|e<|oN GK aa aa aa fun bc a6 aK I bf=> ?_
 have bg:bE a6.heap bc [.int .i64 x.1,.slice E n cp]:=bf
 have bk:Wk w a6:=Md.trans aW I.md
 have Z:=a8 a3 I.md
 have aK:=I.md.aE aL
 refine e<|ap GK (Z) aa (by have :=I.size; have :=G.size; omega) aa (aG.fO bg) (aa) (aa) ab ab fun b1 cu aO O cq cf=> ?_
 have bl:=Wk.own bk Z O ae.size
 have bA:=O.aE (I.md.aE a0) fun h=>by have :=dd Z h; omega
 have ak:=O.aE aK fun h=>dS Z aK ay h
 have bL:=(a4.wk I.md).md O<|jd Z ay
 have a2:=cz (a8 (a8 al aD) I.md) O fun k hk=>nv (a8 (a8 al aD) I.md) Z ay hk
 refine e<|dQ Dl aa aa (eQ aO) ak (by simp) fun b3 V bh=> ?_
 have bo:Wk w b3:=Md.trans' bl V fun k hk h=>by omega
 have bN:=(bL.md V<|gW ak ay).snoc (n:=x.1) (r:=(dC [] x.2).take n) (v:= .slice E n cp)<|by rw [dB,Nat.min_eq_left hn,List.map_take]; exact (Tg.kg<|fk (cz a2 V fun k hk h=>dS a2 ak ay<|h ▸ hk) aw).clip bH
 exact nl<|bn<|⟨(jk.wk G).trans ((jk.wk I.md).trans<|(jk.md O<|td Z).trans<|jk.md V fun k hk=>⟨_,_,_,hk ▸ ak⟩),b1,vs++ [(x.1,.slice E n cp)],bh,(by rw [gA,show [x].map kA= [x.2] from aa,vN,eX,an]; rw [bK,TS]; exact cz aO V fun k hk h=>dS aO ak ay<|h ▸ hk),(by rw [gA,show [x].map kA= [x.2] from aa,vN,eX,an]; exact bN),V.aE bA (fun h=>by omega),dZ aw (dZ G.size<|dZ I.md.size<|dZ O.size V.size),bo⟩
 have an:oW x.2 (1 +pre.length)= []:=by unfold oW; rw [a1,if_pos (by rw [show n=0 by omega]; rfl)]
 exact aQ<|bn<|⟨jk.wk G,v,vs,aL,(by rw [gA,show [x].map kA= [x.2] from aa,vN,eX,an]; rw [eM]; exact a3),(by rw [gA,show [x].map kA= [x.2] from aa,vN,eX,an]; rw [eM]; exact a4),a0,dZ aw G.size,aW⟩
 intro D J ca aI ag
 obtain ⟨v,vs,aN,am,av,aM,aw,aF⟩:=aI
 have cj:=(cY.1 ag).1
 refine gF<|gv<|hY<|rg aa<|p (ld qJ aa<|(bj aN).trans aa)<|p aC<|p aC<|nl<|gF<|Am<|DM aa aa aa ag ?_
 have Y:¬65536 < s.length:=ab
 rw [zV] at am av
 exact ⟨⟨v,by show jw #[v,.int .i64 0]=_; rw [if_neg Y],by rw [if_neg Y]; exact ⟨vs,fk (cz am (rp _ _ _) fun k hk h=>by obtain ⟨c,e,z,h1⟩:=td am k hk; rw [h,ag] at h1; cases h1) ae.size,(av.md (rp _ _ _) fun k hk cur z=>by rw [hk,ag]; simp).mono ae.size⟩⟩,Md.trans' aF (rp _ _ _) fun k hk h=>by have :=ae.size; omega⟩
end Go.Hb
section
namespace Go.Hb.gi
theorem sZ {eof ln:Nat} {F F':aB} {hs:List Tx} {rows rows':List Rw} {row:List Tx} (c:bX eof F hs rows ln row= .ok (F',rows')):rows'.length≤rows.length:=by
 unfold bX at c
 repeat' split at c
 · unfold jt at c; split at c; cases c; cases c; exact cw _
 · unfold ke at c; repeat' split at c
   all_goals first | (cases c; done) | (cases c; exact cw _)
 · unfold l0 at c; split at c; cases c; cases c; exact cw _
 · unfold l1 at c; split at c; cases c; cases c; exact cw _
 · unfold kf at c; repeat' split at c
   all_goals first | (cases c; done) | (cases c; exact cw _)
 · unfold kh at c; repeat' split at c
   all_goals first | (cases c; done) | (cases c; exact (sY _ _ _<|by assumption).1)
 · unfold jG at c; repeat' split at c
   all_goals first | (cases c; done) | (cases c; exact (sY _ _ _<|by assumption).1)
 · unfold gP at c; repeat' split at c
   all_goals first | (cases c; done) | (cases c; exact (sY _ _ _<|by assumption).1)
theorem Gi {eof k:Nat} {F:aB} {hs:List Tx} :gH eof k F hs []= .ok F:=by cases k <;> simp [gH]
section
variable {eof k n:Nat} {F:aB} {hs:List Tx} {r:List Tx} {rest:List Rw} {T:Except (Nat×Nat) aB} (h:gH eof k F hs ((n,r)::rest)=T) (hk:rest.length+1≤k)
include h hk
theorem Ti (c:width (r.getD 0 [])=0):T= .error (n,110):=by
 obtain ⟨m,rfl⟩:∃ m,k=m+1:=⟨k - 1,ab⟩
 rw [← h,gH,if_pos c]
theorem Tj (c:width (r.getD 0 [])≠0) (h1:r.length≠width (r.getD 0 [])):T= .error (n,111):=by
 obtain ⟨m,rfl⟩:∃ m,k=m+1:=⟨k - 1,ab⟩
 rw [← h,gH,if_neg c,if_pos h1]
theorem Gf (c:width (r.getD 0 [])≠0) (h1:r.length=width (r.getD 0 [])) (h2:width (r.getD 0 [])≠4) (h3:r.getD 0 []∈hs):T= .error (n,112):=by
 obtain ⟨m,rfl⟩:∃ m,k=m+1:=⟨k - 1,ab⟩
 have hw:width (r.getD 0 [])=2:=by
  unfold width at c h2 ⊢
  split
  · rfl
  · rename_i hn
    rw [if_neg hn] at c h2
    split at h2
    · exact absurd aa h2
    · rename_i A; rw [if_neg A] at c; exact absurd rfl c
 rw [← h,gH,if_neg c,if_neg (fun h4=>h4 h1),if_pos ⟨hw,h3⟩]
theorem Gg {e:Nat×Nat} (c:width (r.getD 0 [])≠0) (h1:r.length=width (r.getD 0 [])) (h2:width (r.getD 0 [])=2→r.getD 0 []∉hs) (h3:bX eof F hs rest n r= .error e):T= .error e:=by
 obtain ⟨m,rfl⟩:∃ m,k=m+1:=⟨k - 1,ab⟩
 rw [← h,gH,if_neg c,if_neg (fun h4=>h4 h1),if_neg (fun h4=>h2 h4.1 h4.2),h3]
theorem Gh {F':aB} {rows':List Rw} (c:width (r.getD 0 [])≠0) (h1:r.length=width (r.getD 0 [])) (h2:width (r.getD 0 [])=2→r.getD 0 []∉hs) (h3:bX eof F hs rest n r= .ok (F',rows')):gH eof (k - 1) F' (hs++ [r.getD 0 []]) rows'=T∧rows'.length≤k - 1:=by
 obtain ⟨m,rfl⟩:∃ m,k=m+1:=⟨k - 1,ab⟩
 refine ⟨?_,by have :=sZ h3; omega⟩
 rw [← h,gH,if_neg c,if_neg (fun h4=>h4 h1),if_neg (fun h4=>h2 h4.1 h4.2),h3]; rfl
end
theorem Jo {s:Tx} (h:65536 < s.length):fF s= .error (0,10):=by unfold fF; rw [if_pos h]
theorem qI {s:Tx} {e:Nat×Nat} (h:¬65536 < s.length) (h1:gH ((da s).length+1) (eK s).length im [] (eK s)= .error e):fF s= .error e:=by unfold fF; rw [if_neg h,h1]
theorem Jn {s:Tx} {F:aB} {q:cC} (h:¬65536 < s.length) (h1:gH ((da s).length+1) (eK s).length im [] (eK s)= .ok F) (h2:F.rules.find? (mZ F)=some q):fF s= .error (q.line,118):=by unfold fF; rw [if_neg h,h1]; simp only; rw [h2]
theorem Jp {s:Tx} {F:aB} (h:¬65536 < s.length) (h1:gH ((da s).length+1) (eK s).length im [] (eK s)= .ok F) (h2:F.rules.find? (mZ F)=none):fF s= .ok F:=by unfold fF; rw [if_neg h,h1]; simp only; rw [h2]
def oT (s:Tx):Value:=match gn s with | some (.agg cs)=>cs.getD 1 .nilFunc | _=> .nilFunc
theorem Qa (s:Tx):(gn s).getD (.agg #[.int .i64 0,.nilFunc])= .agg [.int .i64 (width s:Nat),oT s].toArray∧(gn s).isSome=decide (width s≠0):=by
 rcases zg s with h | ⟨wd,f,h,hw,c⟩
 · have c:=ER h
   unfold oT
   rw [h,c]; exact ⟨rfl,rfl⟩
 · unfold oT
   rw [h,hw,decide_eq_true c]; exact ⟨rfl,rfl⟩
theorem Qh (s:Tx):[ff .i64 (width s:Nat),oT s].all et=true :=by
 rcases zg s with h | ⟨wd,f,h,hw,c⟩ <;> unfold oT <;> rw [h] <;> rfl
theorem EP {s:Tx} (h:width s≠0):∃ v,gn s=some v∧∀ (wd:Nat) (f:Nat),v= .agg [.int .i64 (wd:Nat),.func (.func f) #[] #[]].toArray→oT s= .func (.func f) #[] #[]:=by
 rcases zg s with h1 | ⟨wd,f,h1,hw,A⟩
 · exact absurd (ER h1) h
 · refine ⟨_,h1,fun C c he=> ?_⟩
   unfold oT
   rw [h1,he]; rfl
theorem Gy {f:Value→Option Value} {seen:List Tx} (k:Tx) (c:∀ s:Tx,(f<|str s).getD (.int .i64 0)= .int .i64 (seen.count s:Nat)) (s:Tx):(bu f (str k) (.int .i64 (seen.count k+1:Nat))<|str s).getD (.int .i64 0)= .int .i64 ((seen++ [k]).count s:Nat):=by
 rw [List.count_append]
 by_cases h:s=k
 · subst h; rw [lV]; simp
 · rw [ky (fun h2=>h<|str_inj.1 h2),c s,List.count_singleton,show (k==s)=false from by simpa using fun h2=>h h2.symm]; rfl
theorem cx.Gx {w w':World} {B:Nat} {H:cj} {F:aB} {R:fT} {rows:List Rw} {ln:Nat} {seen C:List Tx} {f:Value→Option Value} (h:cx w B H F R rows ln seen) (hm:Md (fun k=>k=H.ms) w w') (E:bQ w'.heap H.ms hU f) (hd:∀ s:Tx,(f<|str s).getD (.int .i64 0)= .int .i64 (C.count s:Nat)):cx w' B H F R rows ln C:=by
 obtain ⟨g,I,J⟩:=h.tm
 obtain ⟨f0,G,_⟩:=h.sm
 have c:TF w [1] (fun k=>k=H.ms):=TF.eq (dD G) ay
 exact ⟨hm.jH c h.cells ay,h.rws.md hm (fun k hk cur z A=>c.no (dO A) ay hk),h.rt.md hm (fun k hk cur z A=>c.no (dO A) ay hk),⟨f,E,hd⟩,⟨g,I.md hm (fun h2=>h.ne.1 h2.symm),J⟩,c5 h.on hm c ay,h.lo,h.ne⟩
theorem cV.ms {w w':World} {B:Nat} {H:cj} {F c:aB} {V:dU} {R:fT} {rows:List Rw} {ln:Nat} {seen:List Tx} (h:cV w B H.fb H.mc c V) (A:cx w B H F R rows ln seen) (hm:Md (fun k=>k=H.ms) w w'):cV w' B H.fb H.mc c V:=by
 obtain ⟨g,C,_⟩:=A.sm
 exact h.md (L:= [1]) hm (TF.eq (dD C) ay) ay fun h=>A.ne.2.1 h.symm
theorem ew.ms {w w':World} {B:Nat} {H:cj} {F:aB} {R:fT} {rows:List Rw} {ln:Nat} {seen:List Tx} (c:cx w B H F R rows ln seen) (hm:Md (fun k=>k=H.ms) w w'):ew B H w w':=hm.mono fun k _ hk=>⟨hk ▸ c.lo.2.1,.inl hk⟩
structure nV (w0 w:World) (H:cj) (b2 b3 bt:Nat):Prop where
 c2:w.heap[b2]? =some (.cells [.pointer none].toArray 88 (0,0))
 c3:w.heap[b3]? =some (.cells [.int .i64 0,.int .i64 0,.int .i64 0].toArray 45 (0,0))
 lo:w0.heap.size≤b2∧w0.heap.size≤b3∧b2≠b3
 tb:∃ f,bQ w.heap bt hU f∧∀ s,f (str s)=gn s
 ne:bt≠H.ms∧bt≠H.mt∧bt≠H.mc
 wk:Wk w0 w
theorem nV.md {w0 w w':World} {H:cj} {c A C:Nat} (h:nV w0 w H c A C) (hm:Wk w w'):nV w0 w' H c A C:=by
 obtain ⟨f,E,G⟩:=h.tb
 exact ⟨Wk.aE hm h.c2,Wk.aE hm h.c3,h.lo,⟨f,E.wk hm,G⟩,h.ne,h.wk.trans hm⟩
theorem nV.mw {w0 w w':World} {H:cj} {c A C:Nat} {F:aB} {R:fT} {V:dU} {rows:List Rw} {ln:Nat} {seen:List Tx} (h:nV w0 w H c A C) (I:cV w w0.heap.size H.fb H.mc F V) (E:cx w w0.heap.size H F R rows ln seen) (hm:ew w0.heap.size H w w'):nV w0 w' H c A C:=by
 obtain ⟨f,G,O⟩:=h.tb
 obtain ⟨f1,J,_⟩:=E.sm
 obtain ⟨f2,Y,_⟩:=E.tm
 obtain ⟨f3,Z,_⟩:=I.cm
 have hn:=fun e (aa:([169,166,191,53,194,136,5]:List Nat).contains (e+2)=false)=>Wr.ne (B:=w0.heap.size) (dD J) (dD Y) (dD Z) aa
 refine ⟨hm.aE h.c2 (fun hk=>hn 88 ay _ hk _ _ h.c2),hm.aE h.c3 (fun hk=>hn 45 ay _ hk _ _ h.c3),h.lo,⟨f,G.md hm ?_,O⟩,h.ne,hm.wk h.wk<|cw _⟩
 rintro ⟨_,h1 | h1 | h1 | h1⟩
 · exact h.ne.1 h1
 · exact h.ne.2.1 h1
 · exact h.ne.2.2 h1
 · rw [dD G] at h1; exact absurd h1 ay
def I5 (w':World) (B:Nat) (F:aB) (v:Value):Prop := ∃ fb mc V,v= .tuple #[.pointer (some ⟨fb,0,none⟩),.agg [.int .i64 0,.int .i64 0,.int .i64 0].toArray]∧cV w' B fb mc F V∧(∃ seen,jz F [] seen)∧Nx F
def I4 (e:Nat×Nat) (v:Value):Prop :=v= .tuple #[.pointer none,.agg [.int .i64 1,.int .i64 (e.1:Nat),.int .i64 (e.2:Nat)].toArray]
def nZ (s:Tx) (w:World) (v:Value) (w':World):Prop :=(match fF s with | .ok F=>I5 w' w.heap.size F v | .error e=>I4 e v)∧Wk w w'
theorem nZ.no {s:Tx} {w w':World} {l e:Nat} (h:fF s= .error (l,e)) (hm:Wk w w'):nZ s w (.tuple #[.pointer none,.agg [.int .i64 1,.int .i64 (l:Nat),.int .i64 (e:Nat)].toArray]) w':=by
 unfold nZ; rw [h]; exact ⟨rfl,hm⟩
theorem qf {n:Nat} {G:List Nat} {fn:Func} {σ:Nat→Value} {s:Tx} {w W:World} {H:cj} {A C E l e:Nat} (J:fn.results= #[.cell 2 88,.cell 3 45]) (I:3 < n) (O:σ 2= .pointer (some ⟨A,0,none⟩)) (V:σ 3= .pointer (some ⟨C,0,none⟩)) (c:nV w W H A C E) (Y:fF s= .error (l,e)):qb ⟨n,[{target:= .fn (.func 72) #[.pointer (some ⟨A,0,none⟩),.pointer (some ⟨C,0,none⟩)],args:= #[]}],G,none⟩ (oH au fn<|nZ s w) (.panic<|gZ 45 l (e:Nat)) σ W:=
 Tl J I O V ⟨_,c.c2⟩ ⟨_,rfl,c.c3⟩ c.lo.2.2 (fun w' hm=>nZ.no Y<|c.wk.trans' hm fun k hk h=>by rcases h with rfl | rfl; have :=c.lo.1; omega; have :=c.lo.2.1; omega)
theorem NI {x:Nat} (h:x≠0):ea im x=false :=by
 unfold ea im dE
 simp [h]
theorem Wk.dr {w:World} :Wk w w.drew:=(Md.refl _ _).drew
theorem Jm (s:Tx) (w:World) (hs:s.length≤1048576):
 ba au 39 (aX [str s]) w (nZ s w):=by
 refine Ou [2,3] func39 aa ntmps39 aa ?_
 refine gv<|hY<|rg aa<|e<|iq We fun aO fj eH cq cS=>e<|iq nG fun aP eo eL bv c0=> ?_
 have e0:=cq.size
 have e4:=bv.size
 have df:Wk w eo:=cq.md.trans bv.md
 have d5:=Wk.aE bv.md cS
 refine nl<|gF<|gv<|hY<|rg aa<|p (aH (str s) aa)<|e<|cl CR (Gn s _ hs) aa fun ff fi dE=> ?_
 obtain ⟨⟨eC,rfl,cv⟩,hE15⟩:=dE
 have cb:=df.trans hE15
 have cE:=Wk.aE hE15 d5
 have cF:=Wk.aE hE15 c0
 have eZ:=hE15.size
 refine p mv<|p (xt aa aa)<|p (xt aa aa)<|p aC<|p aC<|nl<|gF<|gv<|gv<|hY<|rg aa<|p mv<|p (gu aa aa)<|nl<|gF<|hY<|cd aa (fun bD=> ?_) fun bD=> ?_
 have cu:65536 < s.length:=tI fun h=>bD<|by rw [if_neg h]
 exact sq fun cJ bq=>rg aa<|p mv<|p (c7 (ps:= [(0,.int .i64 1),(2,.int .i64 (if 65536 < s.length then 10 else 0))]) (L:= [.int .i64 1,.int .i64 0,.int .i64 (if 65536 < s.length then 10 else 0)]) rD aa<|aa)<|e<|dQ yD aa aa (v:= .pointer none) aa cE ay fun ft co c6=>e<|gw iF aa aa aa aa (co.aE cF fun h=>by omega) ay fun fu cp c9=>nl<|tn<|bq _ _<|rt<|prt<|ON (vO aa (lY<|Al aa aa<|(bj<|cp.aE c6 fun h=>by omega).trans aa)<|lY<|dN aa aa aa fun j eR=>by rw [Nat.zero_add,bj c9,if_pos cu]; simp)<|nZ.no (Jo cu)<|(cb.trans' co fun k hk h=>by omega).trans' cp fun k hk h=>by omega
 have ao:¬65536 < s.length:=fun h=>bD<|by rw [if_pos h]; decide
 rw [if_neg ao] at cv
 obtain ⟨vs,cC,d6⟩:=cv
 obtain ⟨ar,cr,rfl⟩:=cQ cC
 refine aQ<|gF<|gv<|hY<|rg aa<|p (aH (str s) aa)<|e<|cl CS (GN s _ hs) aa fun v24 cI dF=> ?_
 obtain ⟨⟨a24,rfl,cy⟩,hE24⟩:=dF
 rw [if_neg ao] at cy
 obtain ⟨e9,pT,rfl⟩:=cQ cy
 have de:=cb.trans hE24
 have eS:=qa s
 have e1:=hE24.size
 refine p mv<|p (xt aa aa)<|p (xt aa aa)<|p aC<|p aC<|nl<|gF<|gv<|hY<|rg aa<|e<|qd fun O fl eI cs cY=> ?_
 have e2:=cs.size
 refine p (c7 (ps:= [(1,.map (some O))]) (L:= [.int .i64 0,.string ⟨⟨[]⟩⟩,.string ⟨⟨[]⟩⟩,.int .u16 0,.int .u16 0,.int .u16 0,.int .u16 0,.int .u16 0,.int .i64 0,.slice none 0 0,.slice none 0 0,.slice none 0 0,.slice none 0 0,.map (some O)]) Uv aa<|aa)<|e<|pR aa fun I fo eJ bu cZ=> ?_
 have e3:=bu.size
 refine p mv<|p mv<|p (bM e8 aa aa)<|p (bG (((da s).length+1:Nat):Int) aa aa<|bf ab ab)<|e<|qd fun Z fq eM bh c4=> ?_
 have e5:=bh.size
 refine e<|qd fun ac fr eN a0 c5=> ?_
 have e6:=a0.size
 refine p (c7 (ps:= [(0,.pointer (some ⟨I,0,none⟩)),(1,.slice ar (eK s).length cr),(3,.int .i64 ((da s).length+1:Nat)),(4,.map (some Z)),(5,.map (some ac))]) (L:= [.pointer (some ⟨I,0,none⟩),.slice ar (eK s).length cr,.int .i64 0,.int .i64 ((da s).length+1:Nat),.map (some Z),.map (some ac),.slice none 0 0]) Uw aa<|aa)<|e<|pR aa fun A aL eO aT bo=> ?_
 have e7:=aT.size
 have dV:=Wk.aE (bh.md.trans<|a0.md.trans aT.md) cZ
 refine p aC<|nl<|gF<|gv<|hY ?_
 have aj:(fun w'=>Md (fun k=>k=I) aL w') aL.drew:=(Md.refl _ _).drew
 refine cD (fun w'=>Md (fun k=>k=I) aL w') aa wide aj<|hp 0 aa ag (fun _ _=>mv) aj<|hp 1 aa ag (fun _ _=>nc aa) aj<|hp 2 aa ag (fun _ _=>fa fY aa) aj<|hp 3 aa ag (fun w' J=>ld eT aa<|Md.aM J ((bj bo).trans aa) fun h=>by omega) aj<|hp 4 aa ag (fun _ _=>mv) aj<|hp 5 aa ag (fun _ _=>nc aa) aj<|hp 6 aa ag (fun _ _=>fa fY aa) aj<|hp 7 aa ag (fun w' J=>ld eT aa<|Md.aM J ((bj bo).trans aa) fun h=>by omega) aj<|hp 8 aa ag (fun _ _=>nc aa) aj<|hp 9 aa ag (fun _ _=>fa fI aa) aj<|hp 10 aa ag (fun _ _=>fa q8 aa) aj<|he 11 aa ag<|dQ j6 aa aa (v:= .int .i64 (1:Nat)) aa dV (by show 0 +0 +0 < 14; decide) fun es dv dc=> ?_
 have a1:(fun w'=>Md (fun k=>k=I) aL w') es:=aj.trans' dv fun _ _ h=>h
 refine ⟨a1,?_⟩
 refine hp 12 aa ag (fun _ _=>nc aa) a1<|hp 13 aa ag (fun _ _=>fa fI aa) a1<|hp 14 aa ag (fun _ _=>fa y0 aa) a1<|he 15 aa ag<|dQ j6 aa aa (v:= .int .i64 (3:Nat)) aa dc (by show _ < 14; decide) fun et dx dd=> ?_
 have bC:(fun w'=>Md (fun k=>k=I) aL w') et:=a1.trans' dx fun _ _ h=>h
 refine ⟨bC,?_⟩
 refine hn ag<|gF<|gv<|NU Re #[.pointer (some ⟨aO,0,none⟩),.pointer (some ⟨aP,0,none⟩)] aa ay ?_
 refine gv<|hY<|rg aa<|e<|cl LG (Qe _) aa fun v53 an dH=> ?_
 obtain ⟨aF,rfl,eQ,ef,cc⟩:=dH
 have dg:Wk cI aL:=cs.md.trans<|bu.md.trans<|bh.md.trans<|a0.md.trans aT.md
 have aS:Md (fun k=>k=I) aL an:=bC.trans' cc fun _ _ h=>h.elim
 have aZ:Wk cI an:=Md.trans' dg aS fun k hk h=>by omega
 have eX:=aS.size
 have dh:=de.trans aZ
 have dS:an.heap[I]? =some (.cells (nk im ⟨.slice none 0 0,.slice none 0 0,.slice none 0 0,.slice none 0 0,[],[]⟩ O).toArray 164 (0,0)):=Wk.aE cc dd
 have dU:an.heap[A]? =some (.cells (ti (⟨A,I,Z,ac,O,(da s).length+1⟩:cj) ⟨.slice ar (eK s).length cr,vs,.slice none 0 0⟩ 0).toArray 167 (0,0)):=aS.aE bo fun h=>by omega
 have d0:bQ an.heap O (jn .u16) (fun _=>none):=bQ.md (bQ.wk (bQ.nil cY)<|bu.md.trans<|bh.md.trans<|a0.md.trans aT.md) aS fun h=>by omega
 have d1:bQ an.heap Z hU (fun _=>none):=bQ.md (bQ.wk (bQ.nil c4)<|a0.md.trans aT.md) aS fun h=>by omega
 have d2:bQ an.heap ac (jn .u16) (fun _=>none):=bQ.md (bQ.wk (bQ.nil c5) aT.md) aS fun h=>by omega
 have di:cV an w.heap.size I O im ⟨.slice none 0 0,.slice none 0 0,.slice none 0 0,.slice none 0 0,[],[]⟩:=⟨dS,dM _ _ _ _,dM _ _ _ _,dw.nil _ _ _,dM _ _ _ _,dM _ _ _ _,dw.nil _ _ _,⟨_,d0,fun _=>rfl⟩,⟨ab,ab⟩,rfl⟩
 have dA:cx an w.heap.size (⟨A,I,Z,ac,O,(da s).length+1⟩:cj) im ⟨.slice ar (eK s).length cr,vs,.slice none 0 0⟩ (eK s) 0 []:=⟨dU,(((Tg.kg cC).mono ab).wk<|hE24.trans aZ).Vb,(d6.mono ab).wk (hE24.trans aZ),⟨_,d1,fun _=>rfl⟩,⟨_,d2,fun x b3=>by rw [NI b3]; rfl⟩,dM _ _ _ _,⟨by show w.heap.size≤A; omega,by show w.heap.size≤Z; omega,by show w.heap.size≤ac; omega⟩,⟨by show Z≠ac; omega,by show Z≠O; omega,by show ac≠O; omega⟩⟩
 have eW:=Gl s
 have dL:St an w.heap.size (⟨A,I,Z,ac,O,(da s).length+1⟩:cj) im (eK s) 0 []:=⟨_,_,di,dA,⟨by show 0 +0 +0 +0 +(eK s).length≤70000; omega,by show 0 +(eK s).length≤70000; omega,fun q bW=>by have h:=Gm bW; exact ⟨h.2.2.1,ab,fun x b3=>by have :=(h.2.2.2.2 x b3).2; omega⟩,.inl rfl,fun l a8=>by cases a8⟩⟩
 have ee:jl im []:=fun k hk _=>by have h:∀ k∈fQ,im.sp.getD (fQ.idxOf k) 0=0:=ay
                                  exact h k hk
 have d3:Nx im:=⟨fun l a8=>(by cases a8),fun l a8=>by cases a8⟩
 have eY:=bC.size
 have d4:nV w an (⟨A,I,Z,ac,O,(da s).length+1⟩:cj) aO aP aF:=⟨Wk.aE (hE24.trans aZ) cE,Wk.aE (hE24.trans aZ) cF,⟨ab,ab,ab⟩,ef,⟨by show aF≠Z; omega,by show aF≠ac; omega,by show aF≠O; omega⟩,dh⟩
 refine p aC<|nl<|gF<|gv<|hY<|aE<|lp (fun b9 bd bb=> ∃ (k:Nat) (F:aB) (rows:List Rw) (ln:Nat) (seen:List Tx),(gH (⟨A,I,Z,ac,O,(da s).length+1⟩:cj).eof k F seen rows=gH ((da s).length+1) (eK s).length im [] (eK s))∧(rows.length≤k)∧(St bb w.heap.size (⟨A,I,Z,ac,O,(da s).length+1⟩:cj) F rows ln seen)∧(jl F seen)∧(Nx F)∧(nV w bb (⟨A,I,Z,ac,O,(da s).length+1⟩:cj) aO aP aF)∧(bd 2= .pointer (some ⟨aO,0,none⟩))∧(bd 3= .pointer (some ⟨aP,0,none⟩))∧(bd 8= .pointer (some ⟨A,0,none⟩))∧(bd 9= .map (some aF))∧(rows.length=b9)) _ ⟨(eK s).length,im,eK s,0,[],aa,(cw _),dL,ee,d3,d4,aa,aa,aa,aa,aa⟩ ?_
 rintro b9 bd bb ⟨k,F,rows,ln,seen,ak,hk,J,bl,bk,bS,d8,d9,ea,eb,rfl⟩
 refine fx 2 d8<|fx 3 d9<|fx 8 ea<|fx 9 eb ?_
 obtain ⟨V,R,Y,aw,aR⟩:=J
 obtain ⟨vr,vs,vn⟩:=R
 obtain ⟨b7,b8,eg⟩:=aw.rws.slice
 obtain rfl :vr= .slice b7 rows.length b8:=eg
 refine sq fun cJ bq=>sq fun eu dl=>rg aa<|p (aH (.pointer<|some ⟨A,0,none⟩) aa)<|p (nc aa)<|p (fa sR aa)<|p (ld qJ aa<|(bj aw.cells).trans aa)<|p (bM wz aa aa)<|p (gt aa aa)<|nl<|tn<|dl _ _<|cd aa (fun bE=> ?_) fun bE=> ?_
 obtain ⟨⟨n,r⟩,rest,rfl⟩:∃ q rest,rows=q::rest:=by
  cases rows with
  | nil=>exact absurd bE<|by simp
  | cons q rest=>exact ⟨q,rest,rfl⟩
 have b0:=aR.row (n,r)<|mV ..
 have dP:=aR.len
 have dR:=aR.sl
 simp only [bU] at dP dR hk
 refine aQ<|tn<|bq _ _<|aE<|sq fun ev dn=>rg aa<|p (aH (.pointer<|some ⟨A,0,none⟩) aa)<|e<|cl CT (GZ w.heap.size (⟨A,I,Z,ac,O,(da s).length+1⟩:cj) F ⟨.slice b7 (rest.length+1) b8,vs,vn⟩ n r rest ln seen bb aw) aa fun fg ep dI=> ?_
 obtain ⟨⟨R1,dB⟩,hT1,hM1⟩:=dI
 obtain ⟨b6,c1,rfl⟩:=hT1.slice
 have dj:=Y.rb aw hM1
 have cA:=bS.mw Y aw<|ew.rb aw hM1
 have eV:0 < r.length:=nL.2 b0.1
 have ca:=jz.qZ aR
 have cG:=Qa<|r.getD 0 []
 obtain ⟨eD,dZ,cz⟩:=cA.tb
 refine p aC<|nl<|tn<|dn _ _<|sq fun ex dp=>rg aa<|p (aH (.map<|some aF) aa)<|p mv<|p (a7 c8 aa aa ab<|aG.ok (hT1.dy.2)<|cX ab)<|p (ld cB aa<|dt.get (i:=0) hT1.dy.2 ab)<|p (Fq kV Wi gE (dZ) aa aa (⟨_,aa⟩) ((congrArg (fun o=>Option.getD o _)<|cz<|r.getD 0 []).trans cG.1)<|(congrArg Option.isSome<|cz<|r.getD 0 []).trans cG.2)<|p mv<|p (xt aa aa)<|p (xt aa aa)<|e<|iq Wa fun cN fh eG dz cP=>e<|gw Nq aa aa aa (Qh _) cP ay fun b5 du cR=> ?_
 have bg:Wk ep b5:=dz.md.trans' du fun k hk h=>by omega
 have bi:b5.heap[cN]? =some (.cells [.int .i64 (width (r.getD 0 []):Nat),oT (r.getD 0 [])].toArray 174 (0,0)):=cR
 have aA:=dj.wk bg
 have ad:=dB.wk bg
 have aU:=hT1.wk bg
 have aD:=cA.md bg
 refine p aC<|nl<|tn<|dp _ _<|sq fun ey dq=>rg aa<|p (aH (.pointer<|some ⟨A,0,none⟩) aa)<|p mv ?_
 refine eP aa (cU gj (gr A n _ 110 b5 ad.dX ay) aa fun v72 er dJ=> ?_) (fun c w' ah aW Y=>by
  obtain ⟨rfl,ax,rfl⟩:=ah
  exact qf aa ay ((Y 2<|.head _).trans aa) ((Y 3<|.tail _<|.head _).trans aa) aD (qI ao<|Ti ak hk<|l6.1<|of_decide_eq_false ax))
 obtain ⟨rfl,am,rfl⟩:=dJ
 have am:width (r.getD 0 [])≠0:=of_decide_eq_true am
 refine nl<|tn<|dq _ _<|sq fun ez ds=>rg aa<|p (aH (.pointer<|some ⟨A,0,none⟩) aa)<|p mv<|p (bM e8 aa aa)<|p (fa El aa)<|p (ld bR aa<|(bj bi).trans aa)<|p (cg aa aa) ?_
 refine eP aa (cU gj (gr A n _ 111 er ad.dX ay) aa fun v79 az dK=> ?_) (fun c w' ah aW Y=>by
  obtain ⟨rfl,ax,rfl⟩:=ah
  exact qf aa ay ((Y 2<|.head _).trans aa) ((Y 3<|.tail _<|.head _).trans aa) aD (qI ao<|Tj ak hk am fun h=>of_decide_eq_false ax<|by rw [h]))
 obtain ⟨rfl,ap,rfl⟩:=dK
 have ap:r.length=width (r.getD 0 []):=by have :=of_decide_eq_true ap; omega
 refine nl<|tn<|ds _ _<|sq fun eA ch=> ?_
 obtain ⟨fd,ec,ed⟩:=ad.sm
 have C:(fun w'=>Wk az w') az.drew:=(Md.refl _ _).drew
 refine cD (fun w'=>Wk az w') aa wide C<|hp 0 aa ag (fun _ _=>aH (.pointer<|some ⟨A,0,none⟩) aa) C<|hp 1 aa ag (fun _ _=>fa El aa) C<|hp 2 aa ag (fun w' J=>ld bR aa<|Wk.aM J<|(bj bi).trans aa) C<|hp 3 aa ag (fun _ _=>cg aa aa) C<|hp 4 aa ag (fun _ _=>mv) C<|j9 (t:=84) aa (fun a6=> ?_) fun a6=> ?_
 refine nn 5 aa ag aa aa aa aa C<|nn 6 aa ag aa aa aa aa C<|nn 7 aa ag aa aa aa aa C<|nn 8 aa ag aa aa aa aa C<|nn 9 aa ag aa aa aa aa C<|nn 10 aa ag aa aa aa aa C<|nn 11 aa ag aa aa aa aa C<|nn 12 aa ag aa aa aa aa C<|nn 13 aa ag aa aa aa aa C<|hp 14 aa ag (fun _ _=>bN aa) C ?_
 refine ri 15 aa ag aa (cU gj (gr A n _ 112 az.drew (Wk.aM C ad.dX) ay) aa fun em aN bA=> ?_) (fun c w' ah aW Y=>by
  obtain ⟨rfl,ax,rfl⟩:=ah
  first
   | exact absurd ax ay
   | exact qf rfl ay ((Y 2<|.head _).trans rfl) ((Y 3<|.tail _<|.head _).trans rfl) (aD.md Wk.dr) (qI ao<|Gf ak hk am ap (fun h=>a6<|by rw [h]; rfl)<|l6.1 fun h=>of_decide_eq_false ax<|by rw [pw.2 h]; rfl))
 obtain ⟨rfl,b4,a9⟩:=bA
 have aJ:width (r.getD 0 [])=2→r.getD 0 []∉seen:=by
  first
   | exact fun h=>absurd a6 ab
   | exact fun _=>pw.1<|by have :=of_decide_eq_true b4; omega
 have E:Wk az aN:=by rw [a9]; exact Wk.dr
 obtain ⟨eh,bO,bJ⟩:=EP am
 obtain ⟨cO,b2,bF,bI⟩:=EV w.heap.size (⟨A,I,Z,ac,O,(da s).length+1⟩:cj) F rest n seen r w.heap.size b6 c1 aN ⟨_,_,aA.wk E,ad.wk E,ca⟩ (aU.wk E) b0.2.2 ap bl aJ ab bO
 have bL:=bJ _ _ b2
 have bB:(fun w'=>Wk az w') aN:=by rw [a9]; exact C
 refine ⟨bB,?_⟩
 refine hn ag<|tn<|ch _ _<|sq fun cK br=>rg aa<|p (fa Em aa)<|p (ld BO aa<|(bj<|Wk.aE E bi).trans<|congrArg some bL)<|p (aH (.pointer<|some ⟨A,0,none⟩) aa)<|p mv ?_
 refine eP aa (Hu bF aa bI aa fun el aK bx=> ?_) (fun c w' ah aW Y=>by
  obtain ⟨l,e,ae,rfl,av⟩:=ah
  exact qf aa ay ((Y 2<|.head _).trans aa) ((Y 3<|.tail _<|.head _).trans aa) ((aD.md E).mw (aA.wk E) (ad.wk E) av) (qI ao<|Gg ak hk am ap aJ ae))
 obtain ⟨rfl,F',rows',ln',ae,⟨cL,bm,aY,ai,aq⟩,av⟩:=bx
 have bV:=(aD.md E).mw (aA.wk E) (ad.wk E) av
 obtain ⟨ei,bX,_⟩:=ad.sm
 obtain ⟨ej,bY,_⟩:=ad.tm
 obtain ⟨ek,bZ,_⟩:=aA.cm
 have a2:=(aU.wk E).md av<|Wr.ne (dD<|bX.wk E) (dD<|bY.wk E) (dD<|bZ.wk E) ay
 obtain ⟨fs,a4,a5⟩:=ai.sm
 have dT:=r4 (a:=r.getD 0 []) (l:=seen)
 have a3:=Gh ak hk am ap aJ ae
 refine nl<|tn<|br _ _ ?_
 have G:(fun w'=>Wk aK w') aK.drew:=(Md.refl _ _).drew
 refine eF (fun w'=>Wk aK w') 9 aa wide G<|lq 0 aa ag (fun _ _=>aH (.pointer<|some ⟨A,0,none⟩) aa) G<|lq 1 aa ag (fun _ _=>nc aa) G<|lq 2 aa ag (fun _ _=>fa ra aa) G<|lq 3 aa ag (fun w' J=>ld qK aa<|Wk.aM J<|(bj ai.cells).trans aa) G<|lq 4 aa ag (fun _ _=>mv) G<|lq 5 aa ag (fun _ _=>a7 c8 aa aa ab<|aG.ok (aG.wk a2.dy.2 G)<|cX ab) G<|lq 6 aa ag (fun w' J=>ld cB aa<|Wk.aM J<|dt.get (i:=0) a2.dy.2 ab) G<|lq 7 aa ag (fun w' J=>kN o5 l5 gE (bQ.md (a4) J id) aa aa (⟨_,aa⟩)<|a5<|r.getD 0 []) G<|lq 8 aa ag (fun _ _=>bG ((seen.count (r.getD 0 [])+1:Nat):Int) aa aa<|bf ab ab) G<|db 9 aa ag ag<|qn o5 gE (a4.wk G) aa aa aa (⟨_,aa⟩) fun bc bs bw=> ?_
 have aI:=iN bs
 have bz:cx bc w.heap.size (⟨A,I,Z,ac,O,(da s).length+1⟩:cj) F' bm rows' ln' (seen++ [r.getD 0 []]):=cx.Gx ai aI bw<|Gy _ a5
 have bp:=cV.ms aY ai aI
 have bT:=bV.mw aY ai<|ew.ms ai aI
 have d7:=sZ ae
 have G:St bc w.heap.size (⟨A,I,Z,ac,O,(da s).length+1⟩:cj) F' rows' ln' (seen++ [r.getD 0 []]):=⟨_,_,bp,bz,⟨aq.len,by rw [bK,ic]; omega,aq.row,aq.kd,aq.al⟩⟩
 have b1:=ET bl ae
 have bP:=zh bk ae
 exact eE ag<|bn<|tn<|⟨_,by simp only [bU]; have :=sZ ae; omega,k - 1,F',rows',ln',seen++ [r.getD 0 []],a3.1,a3.2,G,b1,bP,bT,aa,aa,aa,aa,aa⟩
 refine nm 5 aa ag aa aa aa (fun _ _=>aH (.pointer<|some ⟨A,0,none⟩) aa) C<|nm 6 aa ag aa aa aa (fun _ _=>nc aa) C<|nm 7 aa ag aa aa aa (fun _ _=>fa ra aa) C<|nm 8 aa ag aa aa aa (fun w' J=>ld qK aa<|Wk.aM J<|(bj ad.cells).trans aa) C<|nm 9 aa ag aa aa aa (fun _ _=>mv) C<|nm 10 aa ag aa aa aa (fun _ _=>a7 c8 aa aa ab<|aG.ok (aG.wk aU.dy.2 C)<|cX ab) C<|nm 11 aa ag aa aa aa (fun w' J=>ld cB aa<|Wk.aM J<|dt.get (i:=0) aU.dy.2 ab) C<|nm 12 aa ag aa aa aa (fun w' J=>kN o5 l5 gE (bQ.md (ec) J id) aa aa (⟨_,aa⟩)<|ed<|r.getD 0 []) C<|nm 13 aa ag aa aa aa (fun _ _=>cg aa aa) C<|hp 14 aa ag (fun _ _=>bH aa) C ?_
 refine ri 15 aa ag aa (cU gj (gr A n _ 112 az.drew (Wk.aM C ad.dX) ay) aa fun em aN bA=> ?_) (fun c w' ah aW Y=>by
  obtain ⟨rfl,ax,rfl⟩:=ah
  first
   | exact absurd ax ay
   | exact qf rfl ay ((Y 2<|.head _).trans rfl) ((Y 3<|.tail _<|.head _).trans rfl) (aD.md Wk.dr) (qI ao<|Gf ak hk am ap (fun h=>a6<|by rw [h]; rfl)<|l6.1 fun h=>of_decide_eq_false ax<|by rw [pw.2 h]; rfl))
 obtain ⟨rfl,b4,a9⟩:=bA
 have aJ:width (r.getD 0 [])=2→r.getD 0 []∉seen:=by
  first
   | exact fun h=>absurd a6 ab
   | exact fun _=>pw.1<|by have :=of_decide_eq_true b4; omega
 have E:Wk az aN:=by rw [a9]; exact Wk.dr
 obtain ⟨eh,bO,bJ⟩:=EP am
 obtain ⟨cO,b2,bF,bI⟩:=EV w.heap.size (⟨A,I,Z,ac,O,(da s).length+1⟩:cj) F rest n seen r w.heap.size b6 c1 aN ⟨_,_,aA.wk E,ad.wk E,ca⟩ (aU.wk E) b0.2.2 ap bl aJ ab bO
 have bL:=bJ _ _ b2
 have bB:(fun w'=>Wk az w') aN:=by rw [a9]; exact C
 refine ⟨bB,?_⟩
 refine hn ag<|tn<|ch _ _<|sq fun cK br=>rg aa<|p (fa Em aa)<|p (ld BO aa<|(bj<|Wk.aE E bi).trans<|congrArg some bL)<|p (aH (.pointer<|some ⟨A,0,none⟩) aa)<|p mv ?_
 refine eP aa (Hu bF aa bI aa fun el aK bx=> ?_) (fun c w' ah aW Y=>by
  obtain ⟨l,e,ae,rfl,av⟩:=ah
  exact qf aa ay ((Y 2<|.head _).trans aa) ((Y 3<|.tail _<|.head _).trans aa) ((aD.md E).mw (aA.wk E) (ad.wk E) av) (qI ao<|Gg ak hk am ap aJ ae))
 obtain ⟨rfl,F',rows',ln',ae,⟨cL,bm,aY,ai,aq⟩,av⟩:=bx
 have bV:=(aD.md E).mw (aA.wk E) (ad.wk E) av
 obtain ⟨ei,bX,_⟩:=ad.sm
 obtain ⟨ej,bY,_⟩:=ad.tm
 obtain ⟨ek,bZ,_⟩:=aA.cm
 have a2:=(aU.wk E).md av<|Wr.ne (dD<|bX.wk E) (dD<|bY.wk E) (dD<|bZ.wk E) ay
 obtain ⟨fs,a4,a5⟩:=ai.sm
 have dT:=r4 (a:=r.getD 0 []) (l:=seen)
 have a3:=Gh ak hk am ap aJ ae
 refine nl<|tn<|br _ _ ?_
 have G:(fun w'=>Wk aK w') aK.drew:=(Md.refl _ _).drew
 refine eF (fun w'=>Wk aK w') 9 aa wide G<|lq 0 aa ag (fun _ _=>aH (.pointer<|some ⟨A,0,none⟩) aa) G<|lq 1 aa ag (fun _ _=>nc aa) G<|lq 2 aa ag (fun _ _=>fa ra aa) G<|lq 3 aa ag (fun w' J=>ld qK aa<|Wk.aM J<|(bj ai.cells).trans aa) G<|lq 4 aa ag (fun _ _=>mv) G<|lq 5 aa ag (fun _ _=>a7 c8 aa aa ab<|aG.ok (aG.wk a2.dy.2 G)<|cX ab) G<|lq 6 aa ag (fun w' J=>ld cB aa<|Wk.aM J<|dt.get (i:=0) a2.dy.2 ab) G<|lq 7 aa ag (fun w' J=>kN o5 l5 gE (bQ.md (a4) J id) aa aa (⟨_,aa⟩)<|a5<|r.getD 0 []) G<|lq 8 aa ag (fun _ _=>bG ((seen.count (r.getD 0 [])+1:Nat):Int) aa aa<|bf ab ab) G<|db 9 aa ag ag<|qn o5 gE (a4.wk G) aa aa aa (⟨_,aa⟩) fun bc bs bw=> ?_
 have aI:=iN bs
 have bz:cx bc w.heap.size (⟨A,I,Z,ac,O,(da s).length+1⟩:cj) F' bm rows' ln' (seen++ [r.getD 0 []]):=cx.Gx ai aI bw<|Gy _ a5
 have bp:=cV.ms aY ai aI
 have bT:=bV.mw aY ai<|ew.ms ai aI
 have d7:=sZ ae
 have G:St bc w.heap.size (⟨A,I,Z,ac,O,(da s).length+1⟩:cj) F' rows' ln' (seen++ [r.getD 0 []]):=⟨_,_,bp,bz,⟨aq.len,by rw [bK,ic]; omega,aq.row,aq.kd,aq.al⟩⟩
 have b1:=ET bl ae
 have bP:=zh bk ae
 exact eE ag<|bn<|tn<|⟨_,by simp only [bU]; have :=sZ ae; omega,k - 1,F',rows',ln',seen++ [r.getD 0 []],a3.1,a3.2,G,b1,bP,bT,aa,aa,aa,aa,aa⟩
 obtain rfl :rows= []:=by
  cases rows with
  | nil=>rfl
  | cons q rest=>exact absurd (by simp only [bU]; omega) bE
 rw [Gi] at ak
 refine ext<|te _<|te _<|be<|gF<|gv<|hY<|rg aa<|p (aH (.pointer<|some ⟨A,0,none⟩) aa) ?_
 refine eP aa (cU LH (L7 w.heap.size (⟨A,I,Z,ac,O,(da s).length+1⟩:cj) F [] ln seen bb ⟨_,_,Y,aw,aR⟩ bk.2) aa fun fe cH dC=> ?_) (fun c w' ah aW ce=>by
  obtain ⟨q,bW,rfl,bt⟩:=ah
  exact qf aa ay ((ce 2<|.head _).trans aa) ((ce 3<|.tail _<|.head _).trans aa) (bS.mw Y aw bt) (Jn ao ak.symm bW))
 obtain ⟨rfl,dW,⟨cM,eB,fc,cf,dG⟩,bt⟩:=dC
 have aV:=bS.mw Y aw bt
 have eU:=aV.lo
 refine nl<|gF<|gv<|hY<|rg aa<|p (aH (.pointer<|some ⟨A,0,none⟩) aa)<|p (nc aa)<|p (fa fY aa)<|p (ld eT aa<|(bj dG.cells).trans aa)<|p (c7 (ps:= []) (L:= [.int .i64 0,.int .i64 0,.int .i64 0]) rD aa<|aa)<|e<|dQ yD aa aa (v:= .pointer<|some ⟨I,0,none⟩) aa aV.c2 ay fun fk ci cT=>e<|gw iF aa aa aa aa (ci.aE aV.c3 fun h=>by omega) ay fun en ck cW=> ?_
 have cn:Md (fun k=>k=aO∨k=aP) cH en:=(ci.mono fun _ _ h=> .inl h).trans' ck fun _ _ h=> .inr h
 refine nl<|gF<|Am ?_
 have ct:TF cH [90,47] (fun k=>k=aO∨k=aP):=TF.or (TF.eq (dO aV.c2) ay)<|TF.eq (dO aV.c3) ay
 obtain ⟨fm,dY,_⟩:=cf.cm
 have dk:=cf.md cn ct ay<|ct.no (dD dY) ay
 exact Tm aa ay aa aa (ck.aE cT fun h=>by omega) cW aa (fun w' hm=>by
  unfold nZ
  rw [Jp ao ak.symm dW]
  exact ⟨⟨I,O,cM,aa,dk.wk hm,⟨seen,aR⟩,bk⟩,(aV.wk.trans' cn fun k hk h=>by omega).trans hm⟩)
end Go.Hb.gi
end
namespace Go.Hb.fU
def kn (F:aB) (V:dU):List Value:= [.int .i64 (F.kind:Nat),str F.sA,str F.tr,aT (F.sp.getD 0 0),aT (F.sp.getD 1 0),aT (F.sp.getD 2 0),aT (F.sp.getD 3 0),aT (F.sp.getD 4 0),.int .i64 (F.least:Nat),V.v9,V.v10,V.v11,V.v12]
structure nU (w:World) (B:Nat) (F:aB) (V:dU):Prop where
 o9:bm w B 189 2 V.v9 F.dj.length (mI F.dj)
 gG:bm w B 51 1 V.v10 F.aliases.length V.sa
 al:dw w B 95 V.sa F.aliases
 fN:bm w B 192 5 V.v11 F.bz.length (lO F.bz)
 ej:bm w B 134 7 V.v12 F.rules.length (fP<|F.rules.zip V.rn)
 nx:dw w B 95 V.rn (F.rules.map (·.next))
theorem uy {w:World} {B e:Nat} {vs:List Value} {E:List (List Nat)} (h:dw w B e vs E):vs.all et=true :=by
 rw [jT]
 intro v C
 obtain ⟨i,hi⟩:=List.getElem?_of_mem C
 have h1:=(eu.1 hi).1
 obtain ⟨u,hu,A⟩:=dw.get h (i:=i)<|by rw [← h.1]; exact h1
 rw [hi] at hu; cases hu
 obtain ⟨a,c,rfl⟩:=A.slice; rfl
theorem TM {w:World} {B e:Nat} {rs:List cC} {vs:List Value} {C:List (List Nat)} (h:dw w B e vs C):(fP<|rs.zip vs).all et=true :=by
 rw [jT]
 intro v c
 obtain ⟨q,A,c⟩:=oB.1 c
 have h1:=jT.1 (uy h) q.2 (xI A).2
 simp only [dG,dR,uc,or_false] at c
 rcases c with rfl | rfl | rfl | rfl | rfl | rfl | rfl <;> first | rfl | exact h1
theorem TN {rs:List cC} {vs:List Value} {i:Nat} {v:Value} (hi:i < rs.length) (G:i < vs.length):(fP<|rs.zip vs).set (i*7 +6) v=fP (rs.zip<|vs.set i v):=by
 obtain ⟨r,E⟩:∃ r,rs[i]? =some r:=⟨_,bZ hi⟩
 obtain ⟨u,hu⟩:∃ u,vs[i]? =some u:=⟨_,bZ G⟩
 have I:(rs.zip vs)[i]? =some (r,u):=jh.2 ⟨E,hu⟩
 have Y:rs.zip (vs.set i v)=(rs.zip vs).set i (r,v):=by
  apply nK
  intro j
  rw [ki]
  by_cases C:i=j
  · subst C
    rw [if_pos rfl,if_pos (eu.1 I).1]
    exact jh.2 ⟨E,by simp [G]⟩
  · rw [if_neg C]
    cases h1:(rs.zip vs)[j]? with
    | none=>
      rw [Ix,xF] at h1 ⊢
      rw [tY]; exact h1
    | some q=>
      have h2:=jh.1 h1
      exact jh.2 ⟨h2.1,by rw [ki,if_neg C]; exact h2.2⟩
 have Z:(rs.zip vs).length=min rs.length vs.length:=xF
 have A:(fP<|rs.zip vs).length=(rs.zip vs).length*7:=lR (f:=dG) (m:=7) (fun _=>rfl) _
 rw [Y,show fP ((rs.zip vs).set i (r,v))=(fP<|rs.zip vs).take (i*7)++dG (r,v)++(fP<|rs.zip vs).drop (i*7 +7) from Ed (f:=dG) (m:=7) (fun _=>rfl) _ ab]
 apply nK
 intro j
 have J:=fun c A=>vf (f:=dG) (m:=7) (fun _=>rfl) (c:=c) I A
 have O:∀ c,c < 7→(fP<|rs.zip vs)[i*7 +c]? =(dG (r,u))[c]? :=fun c h=>J c h
 have V:((fP<|rs.zip vs).take<|i*7).length=i*7:=by rw [dB,A]; omega
 rw [ki]
 by_cases h1:j < i*7
 · rw [if_neg ab,ib,me ab,mS,if_pos h1]
 · rw [ib,mR ab,V]
   by_cases h2:j < i*7 +7
   · rw [me (by show _ < 7; omega)]
     obtain ⟨c,rfl⟩:∃ c,j=i*7 +c:=⟨j - i*7,ab⟩
     have h3:c < 7:=ab
     rw [O c h3,show i*7 +c - i*7=c by omega]
     match c,h3 with
     | 0,_=>rw [if_neg ab]; rfl
     | 1,_=>rw [if_neg ab]; rfl
     | 2,_=>rw [if_neg ab]; rfl
     | 3,_=>rw [if_neg ab]; rfl
     | 4,_=>rw [if_neg ab]; rfl
     | 5,_=>rw [if_neg ab]; rfl
     | 6,_=>rw [if_pos rfl,if_pos ab]; rfl
   · rw [if_neg ab,mR (by show 7≤_; omega),show (dG (r,v)).length=7 from rfl,qA]
     congr 1; omega
theorem lZ {l:List (cC×Value)} {i:Nat} {q:cC×Value} (h:l[i]? =some q):fP l≠[]:=fun h2=>by
 have h3:(fP l).length=l.length*7:=lR (f:=dG) (m:=7) (fun _=>rfl) _
 have h4:=(eu.1 h).1
 rw [h2] at h3
 have h5:0=l.length*7:=h3
 omega
theorem x4 {F:aB} {V:dU} (G:V.v9.oneCell'=true) (A:V.v10.oneCell'=true) (C:V.v11.oneCell'=true) (E:V.v12.oneCell'=true):(kn F V).all et=true :=by
 rw [jT]
 intro v c
 simp only [kn,dR,uc,or_false] at c
 rcases c with rfl | rfl | rfl | rfl | rfl | rfl | rfl | rfl | rfl | rfl | rfl | rfl | rfl <;> first | rfl | assumption
theorem JT {w:World} {B fb mc:Nat} {F:aB} {V:dU} (h:cV w B fb mc F V):(kn F V).all et=true :=x4 (eQ h.o9) (eQ h.gG) (eQ h.fN)<|eQ h.ej
theorem yH {α:Type} {l m:List α} {i:Nat} (h:l.drop i=m.drop i):l[i]? =m[i]? :=by
 have h1:=congrArg (·[0]?) h
 simpa using h1
theorem As {α:Type} {l:List α} {i:Nat} {x:α} (h:i < l.length):(l.set i x).take (i+1)=l.take i++ [x]:=by
 rw [List.take_add_one,List.take_set_of_le (cw i)]; simp [h]
theorem set_drop {α:Type} {l m:List α} {i:Nat} {x:α} (h:l.drop i=m.drop i):(l.set i x).drop (i+1)=m.drop (i+1):=by
 rw [List.drop_set_of_lt (Nat.lt_succ_self i),show i.succ=i+1 from rfl]
 simpa [List.drop_drop] using congrArg (List.drop 1) h
theorem B2 {w:World} {B e i:Nat} {vs:List Value} {c:List (List Nat)} {v:Value} (h:dw w B e (vs.take i) (c.take i)) (hi:i < c.length) (C:i < vs.length) (A:Tg w B e (c.getD i []).length v ((c.getD i []).map aT)):dw w B e ((vs.set i v).take<|i+1) (c.take<|i+1):=by
 rw [As C,kT c i [] hi]; exact h.snoc A
theorem Mt (a:Option Addr) (n c:Nat) (xs:List Value) (w:World) (Y:aG w.heap a xs) (ai:xs.length=n*2) (ad:a=none→n=0) (h1:xs.all et=true) (hn:n≤1048576):
 ba au 80 (aX [.slice a n c]) w (fun al w'=>bm w' w.heap.size 189 2 al n xs∧Wk w w'):=by
 refine enter func80 aa ntmps80 aa<|ak fun I=>aw<|I<|az fun J=>ak fun O=>ao (.slice a n c)<|p (oQ Vq aa aa)<|nl<|O<|cb aa (fun E=> ?_) fun E=> ?_
 have ae:a=none:=by simpa using E
 refine ak fun A=>aw<|A<|rt<|tr<|a6 aa ?_
 have ag:=ad ae
 subst ag
 obtain rfl :=fR (show xs.length=0 by omega)
 exact ⟨dM _ _ _ _,Md.refl _ _⟩
 refine aQ<|J<|ak fun A=>e<|oM wa fun aq aA av C V=> ?_
 have G:=V w.heap.size ab
 refine ao (.slice a n c)<|e<|ap wa (G) aa (by have :=C.size; omega) aa (Y.wk C.md) (ai) (h1) ab ab fun am an ah ac ay ax=> ?_
 have Z:=Wk.own C.md G ac<|cw _
 refine aw<|A<|rt<|a6 aa ?_
 have aj:bm an w.heap.size 189 2 am n xs:=by simpa using ah
 exact ⟨aj,Z⟩
theorem Ms (v:Value) (n:Nat) (xs:List Value) (w:World) (E:Rd w.heap v n 2 xs) (h1:xs.all et=true) (hn:n≤1048576):ba au 80 [v].toArray w (fun v w'=>bm w' w.heap.size 189 2 v n xs∧Wk w w'):=by
 obtain ⟨a,c,rfl,A,G,C⟩:=E
 exact Mt a n c xs w A G C h1 hn
theorem Mn (a:Option Addr) (n c:Nat) (xs:List Value) (w:World) (Y:aG w.heap a xs) (ai:xs.length=n*5) (ad:a=none→n=0) (h1:xs.all et=true) (hn:n≤1048576):
 ba au 81 (aX [.slice a n c]) w (fun al w'=>bm w' w.heap.size 192 5 al n xs∧Wk w w'):=by
 refine enter func81 aa ntmps81 aa<|ak fun I=>aw<|I<|az fun J=>ak fun O=>ao (.slice a n c)<|p (oQ Hd aa aa)<|nl<|O<|cb aa (fun E=> ?_) fun E=> ?_
 have ae:a=none:=by simpa using E
 refine ak fun A=>aw<|A<|rt<|tr<|a6 aa ?_
 have ag:=ad ae
 subst ag
 obtain rfl :=fR (show xs.length=0 by omega)
 exact ⟨dM _ _ _ _,Md.refl _ _⟩
 refine aQ<|J<|ak fun A=>e<|oM wg fun aq aA av C V=> ?_
 have G:=V w.heap.size ab
 refine ao (.slice a n c)<|e<|ap wg (G) aa (by have :=C.size; omega) aa (Y.wk C.md) (ai) (h1) ab ab fun am an ah ac ay ax=> ?_
 have Z:=Wk.own C.md G ac<|cw _
 refine aw<|A<|rt<|a6 aa ?_
 have aj:bm an w.heap.size 192 5 am n xs:=by simpa using ah
 exact ⟨aj,Z⟩
theorem Mm (v:Value) (n:Nat) (xs:List Value) (w:World) (E:Rd w.heap v n 5 xs) (h1:xs.all et=true) (hn:n≤1048576):ba au 81 [v].toArray w (fun v w'=>bm w' w.heap.size 192 5 v n xs∧Wk w w'):=by
 obtain ⟨a,c,rfl,A,G,C⟩:=E
 exact Mn a n c xs w A G C h1 hn
theorem My (a:Option Addr) (n c:Nat) (xs:List Value) (w:World) (Y:aG w.heap a xs) (ai:xs.length=n*1) (ad:a=none→n=0) (h1:xs.all et=true) (hn:n≤1048576):
 ba au 82 (aX [.slice a n c]) w (fun al w'=>bm w' w.heap.size 51 1 al n xs∧Wk w w'):=by
 refine enter func82 aa ntmps82 aa<|ak fun I=>aw<|I<|az fun J=>ak fun O=>ao (.slice a n c)<|p (oQ wP aa aa)<|nl<|O<|cb aa (fun E=> ?_) fun E=> ?_
 have ae:a=none:=by simpa using E
 refine ak fun A=>aw<|A<|rt<|tr<|a6 aa ?_
 have ag:=ad ae
 subst ag
 obtain rfl :=fR (show xs.length=0 by omega)
 exact ⟨dM _ _ _ _,Md.refl _ _⟩
 refine aQ<|J<|ak fun A=>e<|oM wc fun aq aA av C V=> ?_
 have G:=V w.heap.size ab
 refine ao (.slice a n c)<|e<|ap wc (G) aa (by have :=C.size; omega) aa (Y.wk C.md) (ai) (h1) ab ab fun am an ah ac ay ax=> ?_
 have Z:=Wk.own C.md G ac<|cw _
 refine aw<|A<|rt<|a6 aa ?_
 have aj:bm an w.heap.size 51 1 am n xs:=by simpa using ah
 exact ⟨aj,Z⟩
theorem Mx (v:Value) (n:Nat) (xs:List Value) (w:World) (E:Rd w.heap v n 1 xs) (h1:xs.all et=true) (hn:n≤1048576):ba au 82 [v].toArray w (fun v w'=>bm w' w.heap.size 51 1 v n xs∧Wk w w'):=by
 obtain ⟨a,c,rfl,A,G,C⟩:=E
 exact My a n c xs w A G C h1 hn
theorem Mv (a:Option Addr) (n c:Nat) (xs:List Value) (w:World) (Y:aG w.heap a xs) (ai:xs.length=n*7) (ad:a=none→n=0) (h1:xs.all et=true) (hn:n≤1048576):
 ba au 83 (aX [.slice a n c]) w (fun al w'=>bm w' w.heap.size 134 7 al n xs∧Wk w w'):=by
 refine enter func83 aa ntmps83 aa<|ak fun I=>aw<|I<|az fun J=>ak fun O=>ao (.slice a n c)<|p (oQ o4 aa aa)<|nl<|O<|cb aa (fun E=> ?_) fun E=> ?_
 have ae:a=none:=by simpa using E
 refine ak fun A=>aw<|A<|rt<|tr<|a6 aa ?_
 have ag:=ad ae
 subst ag
 obtain rfl :=fR (show xs.length=0 by omega)
 exact ⟨dM _ _ _ _,Md.refl _ _⟩
 refine aQ<|J<|ak fun A=>e<|oM vV fun aq aA av C V=> ?_
 have G:=V w.heap.size ab
 refine ao (.slice a n c)<|e<|ap vV (G) aa (by have :=C.size; omega) aa (Y.wk C.md) (ai) (h1) ab ab fun am an ah ac ay ax=> ?_
 have Z:=Wk.own C.md G ac<|cw _
 refine aw<|A<|rt<|a6 aa ?_
 have aj:bm an w.heap.size 134 7 am n xs:=by simpa using ah
 exact ⟨aj,Z⟩
theorem Mu (v:Value) (n:Nat) (xs:List Value) (w:World) (E:Rd w.heap v n 7 xs) (h1:xs.all et=true) (hn:n≤1048576):ba au 83 [v].toArray w (fun v w'=>bm w' w.heap.size 134 7 v n xs∧Wk w w'):=by
 obtain ⟨a,c,rfl,A,G,C⟩:=E
 exact Mv a n c xs w A G C h1 hn
theorem Mp (a:Option Addr) (n c:Nat) (xs:List Value) (w:World) (Y:aG w.heap a xs) (ai:xs.length=n*2) (ad:a=none→n=0) (h1:xs.all et=true) (hn:n≤1048576):
 ba au 84 (aX [.slice a n c]) w (fun al w'=>bm w' w.heap.size 53 2 al n xs∧Wk w w'):=by
 refine enter func84 aa ntmps84 aa<|ak fun I=>aw<|I<|az fun J=>ak fun O=>ao (.slice a n c)<|p (oQ wy aa aa)<|nl<|O<|cb aa (fun E=> ?_) fun E=> ?_
 have ae:a=none:=by simpa using E
 refine ak fun A=>aw<|A<|rt<|tr<|a6 aa ?_
 have ag:=ad ae
 subst ag
 obtain rfl :=fR (show xs.length=0 by omega)
 exact ⟨dM _ _ _ _,Md.refl _ _⟩
 refine aQ<|J<|ak fun A=>e<|oM vW fun aq aA av C V=> ?_
 have G:=V w.heap.size ab
 refine ao (.slice a n c)<|e<|ap vW (G) aa (by have :=C.size; omega) aa (Y.wk C.md) (ai) (h1) ab ab fun am an ah ac ay ax=> ?_
 have Z:=Wk.own C.md G ac<|cw _
 refine aw<|A<|rt<|a6 aa ?_
 have aj:bm an w.heap.size 53 2 am n xs:=by simpa using ah
 exact ⟨aj,Z⟩
theorem Mo (v:Value) (n:Nat) (xs:List Value) (w:World) (E:Rd w.heap v n 2 xs) (h1:xs.all et=true) (hn:n≤1048576):ba au 84 [v].toArray w (fun v w'=>bm w' w.heap.size 53 2 v n xs∧Wk w w'):=by
 obtain ⟨a,c,rfl,A,G,C⟩:=E
 exact Mp a n c xs w A G C h1 hn
theorem Mr (a:Option Addr) (n c:Nat) (xs:List Value) (w:World) (Y:aG w.heap a xs) (ai:xs.length=n*1) (ad:a=none→n=0) (h1:xs.all et=true) (hn:n≤1048576):
 ba au 215 (aX [.slice a n c]) w (fun al w'=>bm w' w.heap.size 3 1 al n xs∧Wk w w'):=by
 refine enter func215 aa ntmps215 aa<|ak fun I=>aw<|I<|az fun J=>ak fun O=>ao (.slice a n c)<|p (oQ rK aa aa)<|nl<|O<|cb aa (fun E=> ?_) fun E=> ?_
 have ae:a=none:=by simpa using E
 refine ak fun A=>aw<|A<|rt<|tr<|a6 aa ?_
 have ag:=ad ae
 subst ag
 obtain rfl :=fR (show xs.length=0 by omega)
 exact ⟨dM _ _ _ _,Md.refl _ _⟩
 refine aQ<|J<|ak fun A=>e<|oM mK fun aq aA av C V=> ?_
 have G:=V w.heap.size ab
 refine ao (.slice a n c)<|e<|ap mK (G) aa (by have :=C.size; omega) aa (Y.wk C.md) (ai) (h1) ab ab fun am an ah ac ay ax=> ?_
 have Z:=Wk.own C.md G ac<|cw _
 refine aw<|A<|rt<|a6 aa ?_
 have aj:bm an w.heap.size 3 1 am n xs:=by simpa using ah
 exact ⟨aj,Z⟩
theorem Mq (v:Value) (n:Nat) (xs:List Value) (w:World) (E:Rd w.heap v n 1 xs) (h1:xs.all et=true) (hn:n≤1048576):ba au 215 [v].toArray w (fun v w'=>bm w' w.heap.size 3 1 v n xs∧Wk w w'):=by
 obtain ⟨a,c,rfl,A,G,C⟩:=E
 exact Mr a n c xs w A G C h1 hn
theorem uu (B fb mc:Nat) (F:aB) (V:dU) (w:World) (aR:cV w B fb mc F V) (dY:F.dj.length+F.aliases.length+F.bz.length+F.rules.length≤70000) (b0:Nx F):
 ba au 41 (aX [aV fb]) w (fun v w'=>(∃ bD,v= .agg (kn F bD).toArray∧nU w' w.heap.size F bD)∧Wk w w'):=by
 refine enter func41 aa ntmps41 aa<|ak fun ct=>e<|iq HB fun bi ah dZ bq bH=> ?_
 have d3:=bq.size
 have an:=aR.wk bq.md
 refine nl<|ct<|az fun cB=>ak fun cC=>ao (aV fb)<|p (lf tx aa aa)<|nl<|cC<|cf (aa)<|aQ<|cB<|ak fun cD=>ao (aV fb)<|p (nc aa) ?_
 refine p (fa fI aa)<|p (cK xT aa (aa) (show ∀ j,j < 13→Hb.aM ah.heap fb (0 +j)=(kn F V)[j]? from fun j a0=>(bj an.cells).trans<|by match j,a0 with | 0,_=>rfl | 1,_=>rfl | 2,_=>rfl | 3,_=>rfl | 4,_=>rfl | 5,_=>rfl | 6,_=>rfl | 7,_=>rfl | 8,_=>rfl | 9,_=>rfl | 10,_=>rfl | 11,_=>rfl | 12,_=>rfl))<|e<|iq HB fun ae E d0 bQ cP=> ?_
 have d6:=bQ.size
 refine e<|gw yC aa aa aa (JT an) cP ay fun a9 bP cR=> ?_
 have bI:Wk ah a9:=bQ.md.trans' bP fun q c h=>by omega
 have d7:=bP.size
 have c0:=an.wk bI
 have aY:a9.heap[ae]? =some (.cells (kn F ⟨V.v9,V.v10,V.v11,V.v12,V.sa,V.rn⟩).toArray 102 (0,0)):=cR
 refine nl<|cD<|ak fun cE=>p (fa vk aa)<|p (ld BT aa<|(bj aY).trans aa)<|e<|cl LK (Ms V.v9 F.dj.length (mI F.dj) a9 (Rd.kg c0.o9) (yY (fun _=>rfl) _) ab) aa fun Z cn c2=> ?_
 obtain ⟨b3,bk⟩:=c2
 have d2:=bk.size
 have b5:=fk b3 (show E.heap.size≤a9.heap.size by omega)
 refine p (fa vk aa)<|e<|dQ Dq aa aa (v:=Z) (eQ b3) (bk.aE aY) (by show _ < 13; omega) fun bb bl cS=> ?_
 have bK:Wk ah bb:=(bI.trans bk).trans' bl fun q c h=>by omega
 have d8:=bl.size
 have c1:=an.wk bK
 have b6:=cz b5 bl fun q c h=>by have :=(dd b5 c).1; omega
 have bU:bb.heap[ae]? =some (.cells (kn F ⟨Z,V.v10,V.v11,V.v12,V.sa,V.rn⟩).toArray 102 (0,0)):=cS
 refine nl<|cE<|ak fun cF=>p (fa q9 aa)<|p (ld uw aa<|(bj bU).trans aa)<|e<|cl LL (Mm V.v11 F.bz.length (lO F.bz) bb (Rd.kg c1.fN) (yY (fun _=>rfl) _) ab) aa fun v20 eg c3=> ?_
 obtain ⟨b8,aI⟩:=c3
 have d4:=aI.size
 have b9:=fk b8 (show E.heap.size≤bb.heap.size by omega)
 refine p (fa q9 aa)<|e<|dQ Ds aa aa (v:=v20) (eQ b8) (aI.aE bU) (by show _ < 13; omega) fun bd aW cT=> ?_
 have bL:Wk ah bd:=(bK.trans aI).trans' aW fun q c h=>by omega
 have ea:=aW.size
 have bO:=an.wk bL
 have b7:=cz (a8 b6 aI) aW fun q c h=>by have :=(dd (a8 b6 aI) c).1; omega
 have ca:=cz b9 aW fun q c h=>by have :=(dd b9 c).1; omega
 have bW:bd.heap[ae]? =some (.cells (kn F ⟨Z,V.v10,v20,V.v12,V.sa,V.rn⟩).toArray 102 (0,0)):=cT
 refine nl<|cF<|ak fun cG=>p (fa n9 aa)<|p (ld pM aa<|(bj bW).trans aa)<|e<|cl LM (Mx V.v10 F.aliases.length V.sa bd (Rd.kg bO.gG) (uy bO.al) ab) aa fun v24 eh c4=> ?_
 obtain ⟨cb,aq⟩:=c4
 have d5:=aq.size
 have cc:=fk cb (show E.heap.size≤bd.heap.size by omega)
 refine p (fa n9 aa)<|e<|dQ Dr aa aa (v:=v24) (eQ cb) (aq.aE bW) (by show _ < 13; omega) fun cp aK cU=> ?_
 have cZ:Wk ah cp:=(bL.trans aq).trans' aK fun q c h=>by omega
 have eb:=aK.size
 have dz:=cz (a8 b7 aq) aK fun q c h=>by have :=(dd (a8 b7 aq) c).1; omega
 have dr:=cz (a8 ca aq) aK fun q c h=>by have :=(dd (a8 ca aq) c).1; omega
 have b1:=cz cc aK fun q c h=>by have :=(dd cc c).1; omega
 have bX:cp.heap[ae]? =some (.cells (kn F ⟨Z,v24,v20,V.v12,V.sa,V.rn⟩).toArray 102 (0,0)):=cU
 obtain ⟨ai,kH,rfl⟩:=cQ b1
 have dR:=aR.al.1
 refine nl<|cG<|az fun cI=>ak fun cJ=>p (fa n9 aa)<|p (ld pM aa<|(bj bX).trans aa)<|p (bM wP aa aa)<|p mv<|nl<|cJ<|aE<|lp (fun aF aC G=> ∃ (i:Nat) (sa:List Value),(i≤F.aliases.length)∧(sa.length=F.aliases.length)∧(sa.drop i=V.sa.drop i)∧(dw G E.heap.size 95 (sa.take i)<|F.aliases.take i)∧(bm G E.heap.size 51 1 (.slice ai F.aliases.length kH) F.aliases.length<|sa)∧(bm G E.heap.size 189 2 (Z) F.dj.length<|mI F.dj)∧(bm G E.heap.size 192 5 (v20) F.bz.length<|lO F.bz)∧(G.heap[ae]? =some (.cells (kn F ⟨Z,.slice ai F.aliases.length kH,v20,V.v12,V.sa,V.rn⟩).toArray 102 (0,0)))∧(Wk ah G)∧(E.heap.size≤G.heap.size)∧(aC 2=aV bi)∧(aC 3=aV ae)∧(aC 27= .slice ai F.aliases.length kH)∧(aC 28=aj (F.aliases.length))∧(aC 29=aj i)∧(F.aliases.length - i=aF)) _ ⟨0,V.sa,ab,dR,aa,(dw.nil _ _ _),b1,dz,dr,bX,cZ,(ab),aa,aa,aa,aa,aa,aa⟩ ?_
 rintro aF aC G ⟨i,sa,hi,aN,cj,bu,Y,a5,a3,aL,aP,ec,dF,dK,dH,dI,dJ,rfl⟩
 refine fx 2 dF<|fx 3 dK<|fx 27 dH<|fx 28 dI<|fx 29 dJ<|ak fun cu=>p (lt aa aa)<|nl<|cu<|az fun cv=>cd aa (fun aY=> ?_) fun aY=> ?_
 refine aQ<|cv<|az fun bf=>aE<|az fun bg=> ?_
 obtain ⟨ef,dS,bs⟩:=dw.get (an.wk aP).al (show i < F.aliases.length by omega)
 obtain ⟨cL,ci,rfl⟩:=bs.slice
 refine rg aa<|ao (aj i)<|p (a7 yO aa aa ab<|aG.ok ((aU Y).2) fun h=>by rw [h] at aN; simp at aN; omega)<|p (ld lL aa<|aG.iD (aU Y).2<|(yH cj).trans dS)<|p (bV (aj i) aa)<|aw<|bg ?_
 have ap:(fun w'=>Wk G w') G.drew:=(Md.refl _ _).drew
 refine eF (fun w'=>Wk G w') 6 aa wide ap<|lq 0 aa ag (fun _ _=>fa n9 aa) ap<|lq 1 aa ag (fun w' aA=>ld pM aa<|Wk.aM aA<|(bj aL).trans aa) ap<|lq 2 aa ag (fun _ _=>aH (aj i) aa) ap<|lq 3 aa ag (fun _ _=>mv) ap<|iL 4 aa ag<|cl qR (qU cL (F.aliases.getD i []).length ci ((F.aliases.getD i []).map aT) G.drew (aG.wk bs.dy.2 ap) (by simp) (fun h=>Tg.ry bs (by simp) h) (qM _)<|by have :=b0.1 _ (fg (d:= []) (show i < F.aliases.length by omega)); omega) aa fun dV co c5=> ?_
 obtain ⟨bw,bJ⟩:=c5
 have I:Wk G co:=ap.trans bJ
 have c8:=I
 have bR:(fun w'=>Wk G w') co:=ap.trans bJ
 refine ⟨bR,?_⟩
 refine lq 5 aa ag (fun _ _=>a7 yO aa aa ab<|aG.ok ((aU Y).2) fun h=>by rw [h] at aN; simp at aN; omega) bR<|db 6 aa ag ag<|rE (j:=i) (a8 Y I) qW aa aa (eQ bw) (by simp) ab fun dW av dk=> ?_
 have cW:Wk ah dW:=Wk.own (aP.trans I) (a8 Y I) av ab
 have dt:=cz (fk bw (show E.heap.size≤G.heap.size by omega)) av fun q c=>nv bw (a8 Y I) ay c
 have da:=(bu.wk I).md av<|jd (a8 Y I) ay
 have dv:=cz (a8 a5 I) av fun q c=>nv (a8 a5 I) (a8 Y I) ay c
 have dp:=cz (a8 a3 I) av fun q c=>nv (a8 a3 I) (a8 Y I) ay c
 have dg:=av.aE (Wk.aE I aL) fun h=>by have :=(dd (a8 Y I) h).1; omega
 exact eE ag<|bn<|bf<|rg aa<|p (ad aa aa<|cH ab)<|p mv<|nl<|tn<|⟨_,ab,i+1,sa.set i dV,ab,(by rw [tY]; exact aN),(set_drop cj),(B2 da ab ab<|Tg.kg dt),dk,dv,dp,dg,cW,(by have :=c8.size; have :=av.size; omega),aa,aa,aa,aa,aa,aa⟩
 refine ext<|bc<|bc<|be<|cI<|ak fun bf=>p (fa mC aa)<|p (ld k5 aa<|(bj aL).trans aa)<|e<|cl LN (Mu V.v12 F.rules.length (fP<|F.rules.zip V.rn) G (Rd.kg (an.wk aP).ej) (TM aR.nx) ab) aa fun ck ei c6=> ?_
 obtain ⟨ce,ac⟩:=c6
 have d9:=ac.size
 have cg:=fk ce (show E.heap.size≤G.heap.size by omega)
 rw [eN ab,eN ab] at bu
 refine p (fa mC aa)<|e<|dQ Dj aa aa (v:=ck) (eQ ce) (Wk.aE ac aL) (by show _ < 13; omega) fun cm ax cN=> ?_
 have cX:Wk ah cm:=(aP.trans ac).trans' ax fun q c h=>by omega
 have d1:=ax.size
 have dA:=cz (a8 a5 ac) ax fun q c h=>by have :=(dd (a8 a5 ac) c).1; omega
 have dn:=cz (a8 Y ac) ax fun q c h=>by have :=(dd (a8 Y ac) c).1; omega
 have ds:=cz (a8 a3 ac) ax fun q c h=>by have :=(dd (a8 a3 ac) c).1; omega
 have b2:=cz cg ax fun q c h=>by have :=(dd cg c).1; omega
 have de:=(bu.wk ac).md ax<|gW (Wk.aE ac aL) ay
 have bT:cm.heap[ae]? =some (.cells (kn F ⟨Z,.slice ai F.aliases.length kH,v20,ck,V.sa,V.rn⟩).toArray 102 (0,0)):=cN
 obtain ⟨a12,aD,rfl⟩:=cQ b2
 have dD:V.rn.length=F.rules.length:=by have :=aR.nx.1; rwa [eX] at this
 refine nl<|bf<|az fun bg=>ak fun cw=>p (fa mC aa)<|p (ld k5 aa<|(bj bT).trans aa)<|p (bM o4 aa aa)<|p mv<|nl<|cw<|aE<|lp (fun aF aO C=> ∃ (i:Nat) (rn:List Value),(i≤F.rules.length)∧(rn.length=F.rules.length)∧(rn.drop i=V.rn.drop i)∧(dw C E.heap.size 95 (rn.take i)<|(F.rules.map (·.next)).take i)∧(bm C E.heap.size 134 7 (.slice a12 F.rules.length aD) F.rules.length<|fP<|F.rules.zip rn)∧(bm C E.heap.size 189 2 (Z) F.dj.length<|mI F.dj)∧(bm C E.heap.size 51 1 (.slice ai F.aliases.length kH) F.aliases.length<|sa)∧(dw C E.heap.size 95 sa F.aliases)∧(bm C E.heap.size 192 5 (v20) F.bz.length<|lO F.bz)∧(C.heap[ae]? =some (.cells (kn F ⟨Z,.slice ai F.aliases.length kH,v20,.slice a12 F.rules.length aD,V.sa,V.rn⟩).toArray 102 (0,0)))∧(Wk ah C)∧(E.heap.size≤C.heap.size)∧(aO 2=aV bi)∧(aO 3=aV ae)∧(aO 47=aj (F.rules.length))∧(aO 48=aj i)∧(F.rules.length - i=aF)) _ ⟨0,V.rn,ab,dD,aa,(dw.nil _ _ _),b2,dA,dn,de,ds,bT,cX,(ab),aa,aa,aa,aa,aa⟩ ?_
 rintro aF aO C ⟨i,rn,hi,dE,ch,bv,J,a6,a2,bS,a4,aZ,aJ,ee,dL,dM,dO,dP,rfl⟩
 refine fx 2 dL<|fx 3 dM<|fx 47 dO<|fx 48 dP<|ak fun cx=>p (lt aa aa)<|nl<|cx<|az fun cy=>cd aa (fun df=> ?_) fun df=> ?_
 refine aQ<|cy<|az fun bh=>aE<|az fun cA=> ?_
 obtain ⟨vn,dT,bt⟩:=dw.get (an.wk aJ).nx (show i < (F.rules.map (·.next)).length by rw [eX]; omega)
 obtain ⟨bF,bG,rfl⟩:=bt.slice
 obtain ⟨q,bA⟩:∃ q,F.rules[i]? =some q:=⟨_,bZ ab⟩
 have dC:(F.rules.map (·.next)).getD i []=q.next:=by rw [cM,eR,bA]; rfl
 have dB:=b0.2 q<|gB bA
 rw [← dC] at dB
 have bC:(F.rules.zip rn)[i]? =some (q,.slice bF ((F.rules.map (·.next)).getD i []).length bG):=jh.2 ⟨bA,(yH ch).trans dT⟩
 refine rg aa<|ao (aj i)<|p (bV (aj i) aa)<|nl<|cA ?_
 have O:(fun w'=>Wk C w') C.drew:=(Md.refl _ _).drew
 refine eF (fun w'=>Wk C w') 12 aa wide O<|bB 0 aa (fun _=>fa mC aa) (fun _=>O)<|ed 1 aa (fun w' aA=>ld k5 aa<|Wk.aM aA<|(bj aZ).trans aa) O<|bo 2 aa (aj i) O<|bB 3 aa (fun _=>fa mC aa) (fun _=>O)<|ed 4 aa (fun w' aA=>ld k5 aa<|Wk.aM aA<|(bj aZ).trans aa) O<|bo 5 aa (aj i) O<|bB 6 aa (fun _=>a7 lg aa aa ab<|aG.ok ((aU J).2)<|lZ bC) (fun _=>O)<|bB 7 aa (fun _=>fa oS aa) (fun _=>O)<|ed 8 aa (fun w' aA=>ld lL aa<|Wk.aM aA<|gY (f:=dG) (m:=7) (fun _=>rfl) (aU J).2 bC 6 ay) O<|iL 9 aa ag<|cl qR (qU bF ((F.rules.map (·.next)).getD i []).length bG (((F.rules.map (·.next)).getD i []).map aT) C.drew (aG.wk bt.dy.2 O) (by simp) (fun h=>Tg.ry bt (by simp) h) (qM _) ab) aa fun v60 cq c7=> ?_
 obtain ⟨bx,bN⟩:=c7
 have A:Wk C cq:=O.trans bN
 have c9:=A
 have br:(fun w'=>Wk C w') cq:=O.trans bN
 refine ⟨br,?_⟩
 refine bB 10 aa (fun _=>a7 lg aa aa ab<|aG.ok ((aU J).2)<|lZ bC) (fun _=>br)<|bB 11 aa (fun _=>fa oS aa) (fun _=>br)<|db 12 aa ag ag<|rE (j:=i*7 +6) (a8 J A) qW aa aa (eQ bx) (by rw [jx]; omega) ab fun cn am b4=> ?_
 rw [TN ab ab] at b4
 have cY:Wk ah cn:=Wk.own (aJ.trans A) (a8 J A) am ab
 have du:=cz (fk bx (show E.heap.size≤C.heap.size by omega)) am fun q c=>nv bx (a8 J A) ay c
 have di:=(bv.wk A).md am<|jd (a8 J A) ay
 have dc:=(bS.wk A).md am<|jd (a8 J A) ay
 have dx:=cz (a8 a6 A) am fun q c=>nv (a8 a6 A) (a8 J A) ay c
 have dl:=cz (a8 a2 A) am fun q c=>nv (a8 a2 A) (a8 J A) ay c
 have dq:=cz (a8 a4 A) am fun q c=>nv (a8 a4 A) (a8 J A) ay c
 have dh:=am.aE (Wk.aE A aZ) fun h=>by have :=(dd (a8 J A) h).1; omega
 exact eE ag<|bn<|bh<|rg aa<|p (ad aa aa<|cH ab)<|p mv<|nl<|tn<|⟨_,ab,i+1,rn.set i v60,ab,(by rw [tY]; exact dE),(set_drop ch),(B2 di (by rw [eX]; omega) ab<|Tg.kg du),b4,dx,dl,dc,dq,dh,cY,(by have :=c9.size; have :=am.size; omega),aa,aa,aa,aa,aa⟩
 refine ext<|bc<|bc<|be<|bg<|ak fun bh=>p (cK xT aa (aa) (show ∀ j,j < 13→Hb.aM C.heap ae (0 +j)=(kn F ⟨Z,.slice ai F.aliases.length kH,v20,.slice a12 F.rules.length aD,V.sa,V.rn⟩)[j]? from fun j a0=>(bj aZ).trans<|by match j,a0 with | 0,_=>rfl | 1,_=>rfl | 2,_=>rfl | 3,_=>rfl | 4,_=>rfl | 5,_=>rfl | 6,_=>rfl | 7,_=>rfl | 8,_=>rfl | 9,_=>rfl | 10,_=>rfl | 11,_=>rfl | 12,_=>rfl))<|e<|gw yC aa aa aa (x4 (eQ a6) (eQ a2) (eQ a4)<|eQ J) (Wk.aE aJ bH) ay fun dX aS cO=>nl<|bh<|rt<|sL aa (dN (cs:=kn F ⟨Z,.slice ai F.aliases.length kH,v20,.slice a12 F.rules.length aD,V.sa,V.rn⟩) aa xT aa fun j a0=>(bE.bp ⟨_,cO⟩ j).trans aa) ?_
 have a1:∀ {t s n:Nat} {v:Value} {xs:List Value},bm C E.heap.size t s v n xs→bm dX w.heap.size t s v n xs:=fun h=>fk (cz h aS fun q c h2=>by have :=(dd h c).1; omega) ab
 rw [eN ab,eN (by rw [eX]; omega)] at bv
 have bY:∀ k,k=bi→∀ cur z,C.heap[k]?≠some (.cells cur 95 z):=gW (Wk.aE aJ bH) ay
 exact ⟨⟨⟨Z,.slice ai F.aliases.length kH,v20,.slice a12 F.rules.length aD,sa,rn⟩,aa,⟨a1 a6,a1 a2,(bS.md aS bY).mono ab,a1 a4,a1 J,(bv.md aS bY).mono ab⟩⟩,(bq.md.trans aJ).trans' aS fun q c h=>by omega⟩
end Go.Hb.fU
section
namespace Go.Hb
open Go.Hb.gi Go.Hb.fU
noncomputable def kK (r:List Tx):Nat×Int:=if r.length≠1 then (0,111) else fj (r.getD 0 []) 8192
def I8 (w0 w':World) (X:Except Nat bh) (v:Value):Prop :=(∃ x a,X= .ok x∧v= .tuple #[.agg [str x.1,a].toArray,.int .i64 (0:Nat)]∧bm w' w0.heap.size 95 1 a x.2.length (x.2.map aT))∨(∃ e,X= .error e∧e≠0∧v= .tuple #[.agg [str [],.slice none 0 0].toArray,.int .i64 (e:Nat)])
theorem F2 {s:Tx} {i:Nat} (hi:i < s.length):(s.take<|i+1).drop i= [s.getD i 0]:=by
 rw [Ax 0 (cw i) hi,kX (by rw [dB]; omega),List.nil_append]
theorem Hm (b:UInt8):oq [b]=ir b:=by unfold oq; rw [Kl]; cases ir b <;> rfl
theorem Dw {F:aB} {x:Nat} (h:(dE F.bz x).isSome=true∨x∈F.sp):ea F x=true :=by
 unfold ea; rcases h with h | h
 · rw [h,Bool.or_true]
 · rw [decide_eq_true h]; rfl
theorem NH {F:aB} {x:Nat} (h:(dE F.bz x).isSome=false) (h1:x∉F.sp):ea F x=false :=by
 unfold ea; rw [h,decide_eq_false h1]; rfl
theorem Ul {F:aB} (h:F.sp.length=5):[F.sp.getD 0 0,F.sp.getD 1 0,F.sp.getD 2 0,F.sp.getD 3 0,F.sp.getD 4 0]=F.sp:=by
 match F.sp,h with
 | [a,b,c,d,e],_=>rfl
theorem Qs (a:Option Addr) (c:Nat) (l:List Nat) (x:Nat) (w:World) (G:aG w.heap a (l.map aT)) (ay:l.length≤1048576):
 ba au 207 (aX [.slice a l.length c,aT x]) w (fun v w'=>(∃ k:Int,v= .int .i64 k∧(0≤k↔x∈l)∧ -1≤k∧k≤1048576)∧Wk w w'):=by
 refine enter func207 aa ntmps207 aa<|ak fun Y=>aw<|Y<|az fun Z=>ak fun ac=>ao (.slice a l.length c)<|p (bM nA aa aa)<|p mv<|nl<|ac<|aE<|lp (fun E A V=> ∃ (i:Nat),(i≤l.length)∧(∀ j,j < i→l.getD j 0≠x)∧(V=w)∧(A 0= .slice a l.length c)∧(A 1=aT x)∧(A 7=aj (l.length))∧(A 8=aj i)∧(l.length - i=E)) _ ⟨0,ab,(fun j J=>by omega),aa,aa,aa,aa,aa,aa⟩ ?_
 rintro E A V ⟨i,hi,O,am,ap,aq,av,ax,rfl⟩
 refine fx 0 ap<|fx 1 aq<|fx 7 av<|fx 8 ax ?_
 subst am
 refine ak fun ae=>p (lt aa aa)<|nl<|ae<|az fun ag=>cd aa (fun an=> ?_) fun an=> ?_
 refine aQ<|ag<|az fun C=>aE<|ak fun ah=>ao (aj i)<|p (bV (aj i) aa)<|nl<|ah<|ak fun ai=>ao (aT x)<|ao (.slice a l.length c)<|ao (aj i)<|p (a7 bI aa aa ab<|aG.ok (G)<|cX ab)<|p (ld bW aa<|aG.iD G (show (l.map aT)[i]? =some (aT<|l.getD i 0) by rw [eR,cM,bZ (by omega :i < l.length)]; rfl)) ?_
 refine p (cg aa aa)<|nl<|ai<|cd aa (fun I=> ?_) fun I=> ?_
 exact ak fun al=>ao (aj i)<|p (bV (aj i) aa)<|nl<|al<|rt<|br<|tr<|tr<|br<|tr<|a6 aa<|⟨⟨(i:Nat),aa,⟨fun _=>by obtain rfl :x=l.getD i 0:=ab; exact fg ab,fun _=>by omega⟩,ab,ab⟩,Md.refl _ _⟩
 exact aQ<|bn<|C<|rg aa<|p (ad aa aa<|cH ab)<|p mv<|nl<|tn<|⟨_,ab,i+1,ab,(fun j J=>by rcases ig j i with h | h <;> first | exact O j h | (rw [show j=i by omega]; exact fun h2=>I<|by rw [h2])),aa,aa,aa,aa,aa,aa⟩
 exact ext<|bc<|bc<|be<|Z<|ak fun C=>p aC<|nl<|C<|rt<|a6 aa<|⟨⟨-1,aa,⟨fun h=>absurd h ab,fun h=>by obtain ⟨j,J,e⟩:=og 0 h; exact absurd e<|O j ab⟩,ab,ab⟩,Md.refl _ _⟩
theorem M1 (a:Option Addr) (c:Nat) (l:List Nat) (x:Nat) (w:World) (E:aG w.heap a (l.map aT)) (J:l.length≤1048576):
 ba au 141 (aX [.slice a l.length c,aT x]) w (fun v w'=>v= .bool (decide (x∈l))∧Wk w w'):=by
 refine enter func141 aa ntmps141 aa<|ak fun A=>aw<|A<|ak fun C=>ao (.slice a l.length c)<|ao (aT x)<|e<|cl KM (Qs a c l x w E J) aa fun Y Z G=> ?_
 obtain ⟨⟨O,rfl,I,V⟩,hE7⟩:=G
 exact p (ge aa aa)<|aw<|C<|rt<|a6 aa<|⟨by show bO (decide (O≥0))=_; exact congrArg bO (decide_eq_decide.2 I),hE7⟩
theorem qX (ln er:Int) (w:World):
 ba au 77 (aX [.int .i64 ln,.int .i64 er]) w (fun v w'=>v= .agg [.int .i64 2,.int .i64 ln,.int .i64 er].toArray∧Wk w w'):=by
 exact enter func77 aa ntmps77 aa<|ak fun c=>e<|al nG fun J Z O I E=>nl<|c<|ak fun A=>ao (.int .i64 ln)<|ao (.int .i64 er)<|p (c7 (ps:= [(0,.int .i64 2),(1,.int .i64 ln),(2,.int .i64 er)]) (L:= [.int .i64 2,.int .i64 ln,.int .i64 er]) rD aa<|aa)<|e<|cG iF aa aa aa aa (E) (by simp) fun ab G C=>nl<|A<|rt<|sL aa (dN (cs:= [.int .i64 2,.int .i64 ln,.int .i64 er]) aa j4 aa fun j V=>C.bp j)<|⟨aa,I.md.trans' G fun q Y h=>by omega⟩
theorem NX (n:Nat) (r:List Tx) (B:Nat) (a:Option Addr) (c:Nat) (w:World) (Z:Tg w B 9 r.length (.slice a r.length c) (r.map str)) (ad:∀ x∈r,x.length≤70000) (ai:r.length≤70000):
 ba au 78 (aX [.agg [aj n,.slice a r.length c].toArray]) w (fun v w'=>v= .tuple #[aj ((kK r).1),.int .i64 (kK r).2]∧Wk w w'):=by
 refine enter func78 aa ntmps78 aa<|ak fun I=>e<|iQ aa fun ag ae ah C E=> ?_
 have G:=Z.wk C.md
 refine p aC<|aw<|I<|az fun J=>ak fun O=>p (fa sT aa)<|p (ld pL aa<|(E.aM 1).trans aa)<|p (bM e8 aa aa)<|p (gu aa aa)<|nl<|O<|cd aa (fun ac=> ?_) fun ac=> ?_
 refine ak fun A=>p aC<|aw<|A<|rt<|tr<|f2 aa aa aa ?_
 have h1:r.length≠1:=ab
 exact ⟨by unfold kK; rw [if_pos h1]; rfl,C.md⟩
 refine aQ<|J<|ak fun A=>p (fa sT aa)<|p (ld pL aa<|(E.aM 1).trans aa)<|p (a7 c8 aa aa ab<|aG.ok (G.dy.2)<|cX ab)<|p (ld cB aa<|dt.get (i:=0) G.dy.2 ab)<|e<|cl uG (vI (r.getD 0 []) 8192 ae (by have :=ad _ (fg (d:= []) (show 0 < r.length by omega)); omega) ab) aa fun v12 al Y=> ?_
 obtain ⟨rfl,V⟩:=Y
 refine p (xt aa aa)<|p (xt aa aa)<|p aC<|aw<|A<|rt<|f2 aa aa aa ?_
 have h1:¬r.length≠1:=ab
 exact ⟨by unfold kK; rw [if_neg h1]; rfl,C.md.trans V⟩
theorem NO (B fb mc:Nat) (F:aB) (V:dU) (n:Nat) (r:List Tx) (bC:Nat) (ar:Option Addr) (cr:Nat) (w:World) (a3:cV w B fb mc F V) (cc:∃ seen,jz F [] seen) (cy:Tg w bC 9 r.length (.slice ar r.length cr) (r.map str)) (cO:∀ x∈r,x.length≤70000) (dp:r.length≤70000):
 ba au 79 (aX [aV fb,.agg [aT (F.sp.getD 0 0),aT (F.sp.getD 1 0),aT (F.sp.getD 2 0),aT (F.sp.getD 3 0),aT (F.sp.getD 4 0)].toArray,.agg [aj n,.slice ar r.length cr].toArray]) w (fun v w'=>I8 w w' (fy F r) v∧Wk w w'):=by
 obtain ⟨seen,aH⟩:=cc
 have dn:=aH.len
 have ds:=wX<|r.getD 0 []
 refine enter func79 aa ntmps79 aa<|ak fun bD=>e<|iQ aa fun aZ dH dj bs b8=>e<|iQ aa fun df dJ dk a4 b9=>e<|al nH fun bj bz dl aN bk=> ?_
 have aI:Wk w bz:=bs.md.trans<|a4.md.trans aN.md
 have cN:=aN.md.B<|a4.md.B b8
 have bx:=aN.md.B b9
 have bt:=cy.wk aI
 have cg:=a3.wk aI
 have dx:=bs.size
 have dz:=a4.size
 have dA:=aN.size
 refine aw<|bD<|az fun bJ=>ak fun bR=>p (fa sT aa)<|p (ld pL aa<|(bx.aM 1).trans aa)<|p (bM e8 aa aa)<|p (gu aa aa)<|nl<|bR<|cd aa (fun cA=> ?_) fun cA=> ?_
 exact ak fun aW=>p (c7 (ps:= []) (L:= [.string ⟨⟨[]⟩⟩,.slice none 0 0]) mL aa<|aa)<|e<|cG iR aa aa aa aa (bk) (by simp) fun dW cp b7=>aw<|aW<|rt<|tr<|eU aa (dN (cs:= [str [],.slice none 0 0]) aa km aa fun j C=>b7.bp j) ek<|⟨.inr ⟨111,Oh ab,ay,aa⟩,aI.trans' cp fun q c h=>by omega⟩
 have J:r.length=1:=ab
 have dq:(r.getD 0 []).length≤70000:=cO _<|fg ab
 refine aQ<|bJ<|ak fun aW=>p (fa sT aa)<|p (ld pL aa<|(bx.aM 1).trans aa)<|p (a7 c8 aa aa ab<|aG.ok (bt.dy.2)<|cX ab)<|p (ld cB aa<|dt.get (i:=0) bt.dy.2 ab)<|e<|cl yc (A2 (r.getD 0 []) bz ab) aa fun v28 db ct=> ?_
 obtain ⟨rfl,ap⟩:=ct
 have ae:=aI.trans ap
 have ag:=ap.B bk
 have dw:=ap.size
 refine p mv<|p (xt aa aa)<|p (xt aa aa)<|p (xt aa aa)<|p (xt aa aa)<|p aC<|p aC<|p aC<|aw<|aW<|az fun bS=>ak fun bT=>p mv<|p (gu aa aa)<|nl<|bT<|cd aa (fun cC=> ?_) fun cC=> ?_
 exact ak fun aY=>p (c7 (ps:= []) (L:= [.string ⟨⟨[]⟩⟩,.slice none 0 0]) mL aa<|aa)<|p mv<|e<|cG iR aa aa aa aa (ag) (by simp) fun dX cq ca=>aw<|aY<|rt<|tr<|eU aa (dN (cs:= [str [],.slice none 0 0]) aa km aa fun j C=>ca.bp j) ek<|⟨.inr ⟨_,yJ J ab,ab,aa⟩,ae.trans' cq fun q c h=>by omega⟩
 have ac:(bA<|r.getD 0 []).2.2.2=0:=ab
 refine aQ<|bS<|az fun aY=>ak fun bU=>p mv<|p (dv u9 aa aa)<|p mv<|nl<|bU<|aE<|lp (fun am E aD=> ∃ (i:Nat),(i≤(bA<|r.getD 0 []).1.length)∧(∀ j,j < i→ir ((bA<|r.getD 0 []).1.getD j 0)=true)∧(Wk db aD)∧(E 0=aV fb)∧(E 4=aV aZ)∧(E 6=aV bj)∧(E 8=str (bA<|r.getD 0 []).1)∧(E 9=str (bA<|r.getD 0 []).2.1)∧(E 10= .bool (bA<|r.getD 0 []).2.2.1)∧(E 38=aj ((bA<|r.getD 0 []).1.length))∧(E 39=aj i)∧((bA<|r.getD 0 []).1.length - i=am)) _ ⟨0,ab,(fun j C=>by omega),(Md.refl _ _),aa,aa,aa,aa,aa,aa,aa,aa,aa⟩ ?_
 rintro am E aD ⟨i,hi,bv,A,cP,cU,cW,cY,cZ,cR,cS,cT,rfl⟩
 refine fx 0 cP<|fx 4 cU<|fx 6 cW<|fx 8 cY<|fx 9 cZ<|fx 10 cR<|fx 38 cS<|fx 39 cT<|ak fun bX=>p (lt aa aa)<|nl<|bX<|az fun bE=>cd aa (fun cD=> ?_) fun cD=> ?_
 refine aQ<|bE<|az fun aO=>aE<|ak fun aP=>ao (aj i)<|p (bV (aj i) aa)<|nl<|aP<|ak fun ah=>ao (str (bA<|r.getD 0 []).1)<|ao (aj i)<|ao (aj i)<|p (ad aa aa<|cH ab)<|p (tq u9 aa aa aa ab)<|e<|cl Ck (Hn (((bA<|r.getD 0 []).1.take<|i+1).drop i) aD<|by rw [F2 ab]; simp) aa fun dD dI cu=> ?_
 obtain ⟨rfl,ce⟩:=cu
 have bw:=F2 (s:=(bA<|r.getD 0 []).1) (i:=i) ab
 have a0:=A.trans ce
 refine p (no aa)<|nl<|ah<|cb aa (fun a9=> ?_) fun a9=> ?_
 have bf:ir ((bA<|r.getD 0 []).1.getD i 0)=false :=by rw [← Hm,← bw]; simpa using a9
 exact ak fun ai=>p (c7 (ps:= []) (L:= [.string ⟨⟨[]⟩⟩,.slice none 0 0]) mL aa<|aa)<|e<|cG iR aa aa aa aa (Wk.B a0 ag) (by simp) fun dO ch bY=>aw<|ai<|rt<|br<|tr<|tr<|br<|tr<|eU aa (dN (cs:= [str [],.slice none 0 0]) aa km aa fun j C=>bY.bp j) ek<|⟨.inr ⟨21,DF J ac (.inl<|uD ab bf),ay,aa⟩,(ae.trans a0).trans' ch fun q c h=>by omega⟩
 have bf:ir ((bA<|r.getD 0 []).1.getD i 0)=true :=by rw [← Hm,← bw]; simpa using a9
 exact aQ<|bn<|aO<|rg aa<|p (ad aa aa<|cH ab)<|p mv<|nl<|tn<|⟨_,ab,i+1,ab,(fun j C=>by rcases ig j i with h | h <;> first | exact bv j h | (rw [show j=i by omega]; exact bf)),a0,aa,aa,aa,aa,aa,aa,aa,aa,aa⟩
 refine ext<|bc<|bc<|be<|aY<|az fun aO=>aE<|az fun aP=>rg aa<|ao (str (bA<|r.getD 0 []).1)<|p (iS aa aa)<|aw<|aP<|cd aa (fun Z=> ?_) fun Z=> ?_
 exact ak fun ah=>p (c7 (ps:= []) (L:= [.string ⟨⟨[]⟩⟩,.slice none 0 0]) mL aa<|aa)<|e<|cG iR aa aa aa aa (Wk.B A ag) (by simp) fun dP ci b0=>aw<|ah<|rt<|br<|tr<|eU aa (dN (cs:= [str [],.slice none 0 0]) aa km aa fun j C=>b0.bp j) ek<|⟨.inr ⟨21,DF J ac (.inr Z),ay,aa⟩,(ae.trans A).trans' ci fun q c h=>by omega⟩
 have aq:=uE (w:=(bA<|r.getD 0 []).1) fun j C=>bv j ab
 refine ak fun ah=>ao (str (bA<|r.getD 0 []).1)<|p (dv u9 aa aa)<|p (gt aa aa)<|aw<|ah<|cd aa (fun cE=> ?_) fun cE=> ?_
 exact ak fun ai=>p (c7 (ps:= []) (L:= [.string ⟨⟨[]⟩⟩,.slice none 0 0]) mL aa<|aa)<|e<|cG iR aa aa aa aa (Wk.B A ag) (by simp) fun dQ cj b1=>aw<|ai<|rt<|br<|tr<|eU aa (dN (cs:= [str [],.slice none 0 0]) aa km aa fun j C=>b1.bp j) ek<|⟨.inr ⟨22,Oi J ac aq Z ab,ay,aa⟩,(ae.trans A).trans' cj fun q c h=>by omega⟩
 refine ak fun ai=>ao (.bool (bA<|r.getD 0 []).2.2.1)<|p (no aa)<|aw<|ai<|cb aa (fun av=> ?_) fun av=> ?_
 exact ak fun aR=>ao (str (bA<|r.getD 0 []).1)<|p (c7 (ps:= [(0,str (bA<|r.getD 0 []).1)]) (L:= [str (bA<|r.getD 0 []).1,.slice none 0 0]) mL aa<|aa)<|e<|cG iR aa aa aa aa (Wk.B A ag) (by simp) fun dR ck b3=>aw<|aR<|rt<|br<|tr<|eU aa (dN (cs:= [str (bA<|r.getD 0 []).1,.slice none 0 0]) aa km aa fun j C=>b3.bp j) ek<|⟨.inl ⟨_,.slice none 0 0,Oj J ac aq Z ab (by simpa using av),aa,dM _ _ _ _⟩,(ae.trans A).trans' ck fun q c h=>by omega⟩
 refine aQ<|bn<|aO<|ak fun aR=>ao (aV fb)<|ao (str (bA<|r.getD 0 []).2.1)<|e<|cl Cl (DU B fb mc F V (bA<|r.getD 0 []).2.1 aD (cg.wk<|ap.trans A) aH.kd aH.al ab ab) aa fun da bg cv=> ?_
 obtain ⟨cJ,a1⟩:=cv
 have aL:=ae.trans<|A.trans a1
 have a6:=Wk.B (A.trans a1) ag
 obtain ⟨dc,dg,rfl,bu⟩:∃ a,∃ e:Nat,da= .tuple #[a,aj e]∧((e=0∧∃ l,fM F.kind F.aliases (bA<|r.getD 0 []).2.1= .ok l∧bm bg aD.heap.size 95 1 a l.length (l.map aT))∨(e≠0∧fM F.kind F.aliases (bA<|r.getD 0 []).2.1= .error e)):=by
  rcases cJ with ⟨a,l,h1,h2,h3⟩ | ⟨a,e,h1,h2,h3⟩
  exact ⟨a,0,h1,.inl ⟨aa,l,h2,h3⟩⟩
  exact ⟨a,e,h1,.inr ⟨h2,h3⟩⟩
 refine p mv<|p (xt aa aa)<|p (xt aa aa)<|p aC<|aw<|aR<|az fun bF=>ak fun bG=>p mv<|p (gu aa aa)<|nl<|bG<|cd aa (fun cF=> ?_) fun cF=> ?_
 obtain ⟨cL,ax⟩:=bu.resolve_left fun h=>by omega
 exact ak fun aS=>p (c7 (ps:= []) (L:= [.string ⟨⟨[]⟩⟩,.slice none 0 0]) mL aa<|aa)<|p mv<|e<|cG iR aa aa aa aa (a6) (by simp) fun dS cm b4=>aw<|aS<|rt<|tr<|eU aa (dN (cs:= [str [],.slice none 0 0]) aa km aa fun j C=>b4.bp j) ek<|⟨.inr ⟨_,Ol J ac aq Z ab (by simpa using av) ax,cL,aa⟩,aL.trans' cm fun q c h=>by omega⟩
 obtain ⟨_,set,ax,aA⟩:=bu.resolve_right fun h=>by omega
 obtain ⟨O,Y,rfl⟩:=cQ aA
 have dr:=yV (fun l cK=>(aH.al l cK).1) ax
 refine aQ<|bF<|az fun aS=>ak fun bI=>p mv<|p (bM G6 aa aa)<|p mv<|nl<|bI<|aE<|lp (fun am G bh=> ∃ (j:Nat),(j≤set.length)∧(∀ q,q < j→ea F (set.getD q 0)=true)∧(Wk bg bh)∧(G 0=aV fb)∧(G 4=aV aZ)∧(G 6=aV bj)∧(G 8=str (bA<|r.getD 0 []).1)∧(G 13= .slice O set.length Y)∧(G 75= .slice O set.length Y)∧(G 76=aj (set.length))∧(G 77=aj j)∧(set.length - j=am)) _ ⟨0,ab,(fun q c=>by omega),(Md.refl _ _),aa,aa,aa,aa,aa,aa,aa,aa,aa⟩ ?_
 rintro am G bh ⟨j,C,a5,I,c0,c2,c3,c9,c1,c4,c5,c6,rfl⟩
 refine fx 0 c0<|fx 4 c2<|fx 6 c3<|fx 8 c9<|fx 13 c1<|fx 75 c4<|fx 76 c5<|fx 77 c6<|ak fun bK=>p (lt aa aa)<|nl<|bK<|az fun bL=>cd aa (fun cI=> ?_) fun cI=> ?_
 refine aQ<|bL<|az fun aF=>aE<|ak fun bO=>p (a7 DJ aa aa ab<|aG.ok ((aU<|a8 aA I).2)<|cX ab)<|p (ld bW aa<|aG.iD (aU<|a8 aA I).2 (show (set.map aT)[j]? =some (aT<|set.getD j 0) by rw [eR,cM,bZ (by omega :j < set.length)]; rfl)) ?_
 refine aw<|bO<|ak fun bP=>ao (aV fb)<|p mv<|e<|cl yb (yQ B fb mc F V (set.getD j 0) bh (a3.wk<|aL.trans I) ab) aa fun dE dK cw=> ?_
 obtain ⟨rfl,bl⟩:=cw
 have dB:=bl.size
 have dC:=I.size
 refine p mv<|p (xt aa aa)<|p (xt aa aa)<|e<|al rS fun de dG di bq b2=>e<|cG pU aa aa aa aa (b2) (by simp) fun bB cn dh=> ?_
 have du:=bq.size
 have an:Wk bg bB:=(I.trans<|bl.trans bq.md).trans' cn fun q c h=>by omega
 refine aw<|bP<|ak fun bi=>p mv<|p (no aa)<|p mv<|gb (t:=89) aa (fun bd=> ?_) fun bd=> ?_
 refine aK aa (JS su aa)<|aK aa mv<|eg aa aa aa<|cl Kw (M1 (some ⟨aZ,0,none⟩) 5 [F.sp.getD 0 0,F.sp.getD 1 0,F.sp.getD 2 0,F.sp.getD 3 0,F.sp.getD 4 0] (set.getD j 0) bB (aG.fO<|Wk.B ((ap.trans<|A.trans a1).trans an) cN)<|by simp) aa fun dF dL cx=> ?_
 obtain ⟨rfl,a2⟩:=cx
 rw [Ul a3.js] at*
 refine aK aa (no aa)<|p (bN aa)<|nl<|bi<|cb aa (fun bb=> ?_) fun bb=> ?_
 exact ak fun bQ=>p (c7 (ps:= []) (L:= [.string ⟨⟨[]⟩⟩,.slice none 0 0]) mL aa<|aa)<|e<|cG iR aa aa aa aa (Wk.B (an.trans a2) a6) (by simp) fun dT co b5=>aw<|bQ<|rt<|br<|tr<|tr<|br<|tr<|eU aa (dN (cs:= [str [],.slice none 0 0]) aa km aa fun j C=>b5.bp j) ek<|⟨.inr ⟨120,On J ac aq Z ab (by simpa using av) ax (i:=j) ab (NH (by simpa using bd)<|by simpa using bb),ay,aa⟩,(aL.trans<|an.trans a2).trans' co fun q c h=>by omega⟩
 exact aQ<|bn<|aF<|rg aa<|p (ad aa aa<|cH ab)<|p mv<|nl<|tn<|⟨_,ab,j+1,ab,(fun q c=>by rcases ig q j with h | h <;> first | exact a5 q h | (rw [show q=j by omega]; exact Dw<|.inr<|by simpa using bb)),(an.trans a2),aa,aa,aa,aa,aa,aa,aa,aa,aa⟩
 exact aJ aa<|aJ aa<|aJ aa<|aJ aa<|p (bH aa)<|nl<|bi<|cf aa<|aQ<|bn<|aF<|rg aa<|p (ad aa aa<|cH ab)<|p mv<|nl<|tn<|⟨_,ab,j+1,ab,(fun q c=>by rcases ig q j with h | h <;> first | exact a5 q h | (rw [show q=j by omega]; exact Dw<|.inl<|by simpa using bd)),an,aa,aa,aa,aa,aa,aa,aa,aa,aa⟩
 exact ext<|bc<|bc<|be<|aS<|ak fun aF=>ao (str (bA<|r.getD 0 []).1)<|ao (.slice O set.length Y)<|p (c7 (ps:= [(0,str (bA<|r.getD 0 []).1),(1,.slice O set.length Y)]) (L:= [str (bA<|r.getD 0 []).1,.slice O set.length Y]) mL aa<|aa)<|e<|cG iR aa aa aa aa (Wk.B I a6) (by simp) fun dV bo b6=>aw<|aF<|rt<|eU aa (dN (cs:= [str (bA<|r.getD 0 []).1,.slice O set.length Y]) aa km aa fun j C=>b6.bp j) ek<|⟨.inl ⟨((bA<|r.getD 0 []).1,set),.slice O set.length Y,DG J ac aq Z ab (by simpa using av) ax (fun j C=>a5 j ab),aa,fk (cz (a8 aA I) bo fun q c h=>by have :=(dd aA c).1; have :=A.size; omega)<|by have :=A.size; omega⟩,(aL.trans I).trans' bo fun q c h=>by omega⟩
end Go.Hb
end
section
namespace Go.Hb.gL
open Go.Hb.gi Go.Hb.fU
theorem PG:yT au 102 3=some (96,3):=ag
def pW (q:bh×Value):List Value:= [str q.1.1,q.2]
def kp (l:List (bh×Value)):List Value:=l.flatMap pW
theorem Of (l:List (bh×Value)) (q:bh×Value):kp (l++ [q])=kp l++pW q:=by simp [kp]
theorem Og (l:List (bh×Value)):(kp l).length=l.length*2:=lR (f:=pW) (m:=2) (fun _=>rfl) l
theorem mH {w:World} {B e size n k:Nat} {v:Value} {xs:List Value} (h:bm w B e size v n xs) (hk:v.ownBlock=some k) (C:∀ cur z,w.heap[k]?≠some (.cells cur e z)):False:=by
 rcases h.2 with ⟨rfl,rfl⟩ | ⟨g,cap,cur,rfl,_,A,_⟩
 · cases hk
 · have c:g=k:=by simpa [iz] using hk
   subst c
   exact C _ _ A
structure lJ (w:World) (B:Nat) (f:Value→Option Value) (xs:List bh):Prop where
 own:∀ s:Tx,bm w B 3 1 ((f<|str s).getD<|bD none 0 0) (idxs s xs).length ((idxs s xs).map fV)
 nil:∀ s:Tx,idxs s xs= []→(f<|str s).getD (bD none 0 0)=(bD none 0 0)
theorem lJ.md {G:Nat→Prop} {w w':World} {B:Nat} {f:Value→Option Value} {xs:List bh} (h:lJ w B f xs) (hm:Md G w w') (c:∀ k,G k→∀ cur z,w.heap[k]?≠some (.cells cur 3 z)):lJ w' B f xs:=by
 refine ⟨fun s=> ?_,h.nil⟩
 refine cz (h.own s) hm fun k hk C=> ?_
 exact mH (h.own s) hk fun cur z A=>c k C cur z A
theorem Ad {w:World} {B B' k n A:Nat} {v C:Value} {xs E:List Value} (h:bm w B 3 1 v n xs) (O:bm w B' 3 1 C A E) (hk:v.ownBlock=some k) (Y:C.ownBlock=some k) (hn:0 < n) (ae:0 < A):xs[0]? =E[0]? :=by
 rcases h.2 with ⟨rfl,rfl⟩ | ⟨g,cap,cur,rfl,_,V,_,_,_,Z⟩
 · omega
 · rcases O.2 with ⟨rfl,rfl⟩ | ⟨J,ac,ad,rfl,_,c,_,_,_,aa⟩
   · omega
   · have G:g=k:=by simpa [iz] using hk
     have I:J=k:=by simpa [iz] using Y
     subst G I
     rw [V] at c
     cases c
     rw [← Z,← aa,mS,mS,if_pos ab,if_pos ab]
theorem lJ.sep {w:World} {B k:Nat} {f:Value→Option Value} {xs:List bh} {s t:Tx} (h:lJ w B f xs) (G:s≠t) (hs:((f<|str s).getD<|bD none 0 0).ownBlock=some k):((f<|str t).getD<|bD none 0 0).ownBlock≠some k:=by
 intro c
 have A:idxs s xs≠[]:=fun e=>by rw [h.nil s e] at hs; cases hs
 have C:idxs t xs≠[]:=fun e=>by rw [h.nil t e] at c; cases c
 have he:=Ad (h.own s) (h.own t) hs c (nL.2 A)<|nL.2 C
 cases h1:idxs s xs with
 | nil=>exact A h1
 | cons i l=>
   cases h2:idxs t xs with
   | nil=>exact C h2
   | cons j m=>
     rw [h1,h2] at he
     have E:i=j:=by have h:=he; simp only [nM,xC,Option.some.injEq,fV,Value.int.injEq,true_and] at h; omega
     subst E
     have m1:i∈idxs s xs:=by rw [h1]; simp
     have m2:i∈idxs t xs:=by rw [h2]; simp
     unfold idxs at m1 m2
     have I:=of_decide_eq_true (pB.1 m1).2
     have J:=of_decide_eq_true (pB.1 m2).2
     exact G<|I.symm.trans J
theorem lJ.put {w C O:World} {B mb:Nat} {f:Value→Option Value} {xs:List bh} {x:bh} {v:Value} (h:lJ w B f xs) (hm:Md (fun k=>((f<|str x.1).getD<|bD none 0 0).ownBlock=some k) w C)
 (J:bm C B 3 1 v (idxs x.1 xs++ [xs.length]).length ((idxs x.1 xs++ [xs.length]).map fV)) (I:∀ cur z,C.heap[mb]?≠some (.cells cur 3 z)) (G:Md (fun k=>k=mb) C O):lJ O B (bu f (str x.1) v) (xs++ [x]):=by
 refine ⟨fun s=> ?_,fun s hs=> ?_⟩
 · by_cases c:x.1=s
   · subst c
     rw [lV,zj,if_pos rfl]
     exact cz J G fun k hk A=>mH J hk fun cur z E=>I cur z<|A ▸ E
   · rw [ky (fun e=>c (str_inj.1 e).symm),zj,if_neg c,eM]
     have h1:=cz (h.own s) hm fun k hk A=>h.sep c A hk
     exact cz h1 G fun k hk A=>mH h1 hk fun cur z E=>I cur z<|A ▸ E
 · rw [zj] at hs
   by_cases c:x.1=s
   · rw [if_pos c] at hs; simp at hs
   · rw [if_neg c,eM] at hs
     rw [ky (fun e=>c (str_inj.1 e).symm)]; exact h.nil s hs
structure jW (w:World) (B wb mb:Nat) (va:Value) (vs:List Value) (xs:List bh):Prop where
 cells:w.heap[wb]? =some (.cells [va,.map (some mb)].toArray 184 (0,0))
 own:bm w B 53 2 va xs.length (kp<|xs.zip vs)
 fl:dw w B 95 vs (xs.map (·.2))
 mp:∃ f,bQ w.heap mb hU f∧lJ w B f xs
theorem jW.md {G:Nat→Prop} {w w':World} {B wb mb:Nat} {va:Value} {vs:List Value} {xs:List bh} (h:jW w B wb mb va vs xs) (hm:Md G w w') {L:List Nat} (c:TF w L G) (C:(L.contains 186 || L.contains 55 || L.contains 97 || L.contains 5)=false) (J:¬G mb):jW w' B wb mb va vs xs:=by
 simp only [pd] at C
 obtain ⟨⟨⟨h1,h2⟩,h3⟩,h4⟩:=C
 obtain ⟨f,E,I⟩:=h.mp
 exact ⟨hm.jH c h.cells h1,c5 h.own hm c h2,h.fl.md hm (fun k hk cur z A=>c.no (dO A) h3 hk),⟨f,E.md hm J,I.md hm fun k hk cur z A=>c.no (dO A) h4 hk⟩⟩
theorem jW.wk {w w':World} {B wb mb:Nat} {va:Value} {vs:List Value} {xs:List bh} (h:jW w B wb mb va vs xs) (hm:Wk w w'):jW w' B wb mb va vs xs:=h.md (L:= []) hm (fun _ hk=>hk.elim) rfl id
theorem NV {F:aB} {t:Tx} {ln:Nat} {row:List Tx} {rows:List Rw} (h:¬65536 < t.length) (h1:eK t=(ln,row)::rows) (h2:(kK row).2≠0):∃ e:Nat,(kK row).2=(e:Int)∧fw F t= .error (ln,e):=by
 unfold kK at h2 ⊢
 by_cases c:row.length≠1
 · rw [if_pos c]; exact ⟨111,rfl,NY h h1 c⟩
 · rw [if_neg c] at h2 ⊢
   have h3:=vG (s:=row.getD 0 []) (most:=8192) h2
   exact ⟨13,h3.2,N2 h h1 (l6.1 c) h3.1⟩
theorem NW {F:aB} {t:Tx} {ln:Nat} {row:List Tx} {rows:List Rw} (h:¬65536 < t.length) (h1:eK t=(ln,row)::rows) (h2:(kK row).2=0):∃ n:Nat,(kK row).1=n∧n≤8192∧fw F t=eC F ((da t).length+1) n rows:=by
 unfold kK at h2 ⊢
 by_cases c:row.length≠1
 · rw [if_pos c] at h2; cases h2
 · rw [if_neg c] at h2 ⊢
   exact ⟨_,aa,by have :=vF (row.getD 0 []) 8192 h2; omega,Dy h h1 (l6.1 c)<|vH h2⟩
theorem G5 {u:Tx} {a:Value} (h:a.oneCell'=true):[str u,a].all et=true :=by rw [xx,xx,h]; rfl
def I9 (l e:Nat):Value:= .agg [.int .i64 2,.int .i64 (l:Nat),.int .i64 (e:Nat)].toArray
def I7 (w':World) (B0:Nat) (xs:List bh) (v:Value):Prop := ∃ B wb mb va vs,B0≤B∧v= .tuple #[.pointer (some ⟨wb,0,none⟩),.agg [.int .i64 0,.int .i64 0,.int .i64 0].toArray]∧jW w' B wb mb va vs xs∧B0≤wb∧B0≤mb
def I6 (e:Nat×Nat) (v:Value):Prop :=v= .tuple #[.pointer none,I9 e.1 e.2]
def kB (F:aB) (t:Tx) (w:World) (v:Value) (w':World):Prop :=(match fw F t with | .ok xs=>I7 w' w.heap.size xs v | .error e=>I6 e v)∧Wk w w'
theorem kB.no {F:aB} {t:Tx} {w w':World} {l e:Nat} (h:fw F t= .error (l,e)) (hm:Wk w w'):kB F t w (.tuple #[.pointer none,.agg [.int .i64 2,.int .i64 (l:Nat),.int .i64 (e:Nat)].toArray]) w':=by
 unfold kB; rw [h]; exact ⟨rfl,hm⟩
theorem N5 (B fb mc:Nat) (F:aB) (V:dU) (t:Tx) (w:World) (cu:cV w B fb mc F V) (dZ:∃ seen,jz F [] seen) (e5:Nx F) (hs:t.length≤1048576):
 ba au 40 (aX [aV fb,str t]) w (kB F t w):=by
 refine enter func40 aa ntmps40 aa<|ak fun df=>p aC<|e<|iq nG fun bN fD fQ cy cn=> ?_
 have cm:bE fD.heap bN [.int .i64 0,.int .i64 0,.int .i64 0]:=⟨_,cn⟩
 refine nl<|df<|az fun dp=>ak fun dt=>ao (aV fb)<|p (lf tx aa aa)<|nl<|dt<|cf (aa)<|aQ<|dp<|ak fun du=>ao (str t)<|e<|cl CS (GN t _ hs) aa fun v22 cc ej=> ?_
 obtain ⟨⟨a22,rfl,cM⟩,hE22⟩:=ej
 have ct:=cy.md.trans hE22
 have gf:=cy.size
 refine p mv<|p (xt aa aa)<|p (xt aa aa)<|p aC<|aw<|du<|az fun dv=>ak fun dx=>p mv<|p (gu aa aa)<|nl<|dx<|cd aa (fun b6=> ?_) fun b6=> ?_
 have cI:65536 < t.length:=tI fun h=>b6<|by rw [if_neg h]
 refine ak fun bI=>p mv<|e<|cl qS (qX 0 (if 65536 < t.length then 10 else 0) cc) aa fun v28 gC el=> ?_
 obtain ⟨rfl,bP⟩:=el
 have gb:=(hE22.trans bP).size
 refine p aC<|e<|cG iF aa aa aa aa (Wk.B (hE22.trans bP) cm) (by simp) fun gP eb dW=>nl<|bI<|rt<|tr<|eU aa ek (dN (cs:= [.int .i64 2,.int .i64 0,.int .i64 (if 65536 < t.length then 10 else 0)]) aa j4 aa fun j av=>dW.bp j) ?_
 have h:=kB.no (F:=F) (N0 cI)<|(ct.trans bP).trans' eb fun q C h=>by omega
 show kB F t w (.tuple #[.pointer none,.agg [.int .i64 2,.int .i64 0,.int .i64 (if 65536 < t.length then 10 else 0)].toArray]) _
 rw [if_pos cI]
 exact h
 have a6:¬65536 < t.length:=fun h=>b6<|by rw [if_pos h]; decide
 rw [if_neg a6] at cM
 obtain ⟨c6,qP,rfl⟩:=cQ cM
 have fY:=qa t
 refine aQ<|dv<|ak fun bI=>ao (str t)<|e<|cl CR (Gn t _ hs) aa fun v31 aA em=> ?_
 obtain ⟨⟨a31,rfl,cL⟩,hE31⟩:=em
 rw [if_neg a6] at cL
 obtain ⟨c9,bv,bw⟩:=cL
 obtain ⟨ar,cr,rfl⟩:=cQ bv
 have aF:=ct.trans hE31
 have aY:=Wk.B (hE22.trans hE31) cm
 have gc:=(hE22.trans hE31).size
 have c4:=Gl t
 refine p mv<|p (xt aa aa)<|p (xt aa aa)<|p aC<|aw<|bI<|az fun dy=>ak fun dz=>p mv<|p (bM wz aa aa)<|p (cg aa aa)<|nl<|dz<|cd aa (fun b7=> ?_) fun b7=> ?_
 have e4:eK t= []:=fR ab
 refine ak fun bx=>p mv<|p (bM e8 aa aa)<|p (bG (((da t).length+1:Nat):Int) aa aa<|bf ab ab)<|e<|cl qS (qX ((da t).length+1:Nat) 116 aA) aa fun v40 gD en=> ?_
 obtain ⟨rfl,bS⟩:=en
 have gd:=bS.size
 exact p aC<|e<|cG iF aa aa aa aa (Wk.B bS aY) (by simp) fun gQ ec dX=>nl<|bx<|rt<|tr<|eU aa ek (dN (cs:= [.int .i64 2,aj ((da t).length+1),.int .i64 116]) aa j4 aa fun j av=>dX.bp j)<|kB.no (N1 a6 e4)<|(aF.trans bS).trans' ec fun q C h=>by omega
 obtain ⟨⟨c8,aR⟩,rest,Z⟩:∃ q rest,eK t=q::rest:=by
  cases h:eK t with
  | nil=>rw [h] at b7; exact absurd rfl b7
  | cons q rest=>exact ⟨q,rest,rfl⟩
 have ca:=bw.1
 rw [Z] at bv bw ca c4
 obtain ⟨⟨aP,fz⟩,rvs',rfl⟩:∃ q cb,c9=q::cb:=by
  cases c9 with
  | nil=>exact absurd ca<|by simp
  | cons q cb=>exact ⟨q,cb,rfl⟩
 obtain ⟨fe,c2⟩:=bw.2 0 (aP,fz) (c8,aR) rfl rfl
 obtain rfl :aP=c8:=fe
 obtain ⟨a0,dA,rfl⟩:=c2.slice
 have a3:=(aU bv).2
 have eS:=(aU bv).1
 have cR:∀ q∈(aP,aR)::rest,q.2.length≤70000∧∀ x∈q.2,x.length≤70000:=fun q C=>by
  have h:=Gm (show q∈eK t by rw [Z]; exact C)
  exact ⟨ab,fun x fs=>by have :=(h.2.2.2.2 x fs).2; omega⟩
 have cP:=cR _<|mV ..
 simp only [bU] at ca c4 eS
 refine aQ<|dy<|ak fun bx=>p mv<|p (a7 q5 aa aa (by rw [Z]; simp only [bU]; omega)<|aG.ok (a3)<|vQ<|by simp)<|p (cK uv aa (aa)<|vR (i:=0) a3 aa)<|e<|cl LI (NX aP aR cc.heap.size a0 dA aA c2 cP.2 cP.1) aa fun v45 fC eo=> ?_
 obtain ⟨rfl,aJ⟩:=eo
 have ge:=aJ.size
 refine p mv<|p (xt aa aa)<|p (xt aa aa)<|p aC<|aw<|bx<|az fun dg=>ak fun dh=>p mv<|p (gu aa aa)<|nl<|dh<|cd aa (fun cJ=> ?_) fun cJ=> ?_
 obtain ⟨fL,eV,b4⟩:=NV (F:=F) a6 Z cJ
 refine ak fun bz=>p mv<|p (a7 q5 aa aa (by rw [Z]; simp only [bU]; omega)<|aG.ok (a3.wk aJ)<|vQ<|by simp)<|p (fa vo aa)<|p (ld bR aa<|vR (i:=0) (a3.wk aJ) aa 0 ay)<|p mv<|e<|cl qS (qX (aP:Nat) (kK aR).2 fC) aa fun v55 gF ep=> ?_
 obtain ⟨rfl,bT⟩:=ep
 have gg:=bT.size
 refine p aC<|e<|cG iF aa aa aa aa (Wk.B (aJ.trans bT) aY) (by simp) fun gK d7 dE=>nl<|bz<|rt<|tr<|eU aa ek (dN (cs:= [.int .i64 2,aj aP,.int .i64 (kK aR).2]) aa j4 aa fun j av=>dE.bp j) ?_
 have h:=kB.no b4<|(aF.trans<|aJ.trans bT).trans' d7 fun q C h=>by omega
 show kB F t w (.tuple #[.pointer none,.agg [.int .i64 2,aj aP,.int .i64 (kK aR).2].toArray]) _
 rw [eV]
 exact h
 obtain ⟨n,cT,fZ,b4⟩:=NW (F:=F) a6 Z (show (kK aR).2=0 by omega)
 have d6:=cu.wk<|aF.trans aJ
 obtain ⟨seen,co⟩:=dZ
 have fW:=co.len
 refine aQ<|dg<|ak fun bz=>e<|qd fun ac gG fS b2 dT=> ?_
 have gh:=b2.size
 refine p (c7 (ps:= [(1,.map (some ac))]) (L:= [.slice none 0 0,.map (some ac)]) Uy aa<|aa)<|e<|pR aa fun E fE fT bl dV=> ?_
 have gi:=bl.size
 have d3:=aJ.trans<|b2.md.trans bl.md
 refine aw<|bz<|ak fun di=>ao (aV fb)<|e<|cl uN (uu B fb mc F V fE (d6.wk<|b2.md.trans bl.md) ab e5) aa fun v60 gH er=> ?_
 obtain ⟨⟨fH,rfl,_⟩,hE60⟩:=er
 have gj:=hE60.size
 refine p (Ph PG BS aa aa)<|e<|al Wg fun bJ gv fN bi dF=> ?_
 have f3:=bi.size
 refine e<|cG Nz aa aa aa aa (dF) (by simp) fun O bd dG=> ?_
 have d1:Wk aA O:=(d3.trans<|hE60.trans bi.md).trans' bd fun q C h=>by omega
 have f5:=bd.size
 have eL:O.heap[E]? =some (.cells [.slice none 0 0,.map (some ac)].toArray 184 (0,0)):=bd.aE (Wk.aE (hE60.trans bi.md) dV) fun h=>by omega
 have e1:bQ O.heap ac hU (fun _=>none):=bQ.md (bQ.wk (bQ.nil dT)<|bl.md.trans<|hE60.trans bi.md) bd fun h=>by omega
 have ey:jW O O.heap.size E ac (.slice none 0 0) [] []:=⟨eL,dM _ _ _ _,dw.nil _ _ _,⟨_,e1,⟨fun s=>dM _ _ _ _,fun s _=>rfl⟩⟩⟩
 have eH:bE O.heap bJ [aT (F.sp.getD 0 0),aT (F.sp.getD 1 0),aT (F.sp.getD 2 0),aT (F.sp.getD 3 0),aT (F.sp.getD 4 0)]:=dG
 have cp:aG aA.heap (eh ar cr 1 2) (lE rvs'):=by
  have h:=a3.drop (cap:=cr) (k:=1) (size:=2)<|by rw [Gs]; simp only [bU]; omega
  exact h
 have eB:ij F ((da t).length+1) (fw F t) [] (n - 0) (rest.drop 0):=by rw [b4]; exact ij.start
 refine nl<|di<|az fun dj=>ak fun dk=>p mv<|p (qi q5 aa aa<|by rw [Z]; simp only [bU]; omega)<|p (bM wz aa aa)<|p mv<|nl<|dk<|aE<|lp (fun cj ai aD=> ∃ (i:Nat) (xs:List bh) (vs:List Value) (va:Value),(i≤rest.length∧i≤n)∧(xs.length=i)∧(ij F ((da t).length+1) (fw F t) xs (n - i)<|rest.drop i)∧(jW aD O.heap.size E ac va vs xs)∧(Wk aA aD)∧(bE aD.heap bJ [aT (F.sp.getD 0 0),aT (F.sp.getD 1 0),aT (F.sp.getD 2 0),aT (F.sp.getD 3 0),aT (F.sp.getD 4 0)])∧(O.heap.size≤aD.heap.size)∧(ai 0=aV fb)∧(ai 5=aV bN)∧(ai 6= .slice c6 (da t).length qP)∧(ai 10=aj n)∧(ai 11=aV E)∧(ai 12=aV bJ)∧(ai 63= .slice (eh ar cr 1 2) rest.length (cr - 1))∧(ai 64=aj (rest.length))∧(ai 65=aj i)∧(rest.length - i=cj)) _ ⟨0,[],[],.slice none 0 0,ab,aa,eB,ey,d1,eH,(cw _),aa,aa,aa,(by first | rfl | (rw [← cT]; rfl)),aa,aa,(by first | rfl | (rw [Z]; rfl)),(by first | rfl | (rw [Z]; rfl)),aa,aa⟩ ?_
 rintro cj ai aD ⟨i,xs,vs,va,hi,c5,am,aW,Y,cE,gp,ff,fj,fk,fg,fh,fi,fo,fq,fr,rfl⟩
 refine fx 0 ff<|fx 5 fj<|fx 6 fk<|fx 10 fg<|fx 11 fh<|fx 12 fi<|fx 63 fo<|fx 64 fq<|fx 65 fr<|ak fun dl=>p (lt aa aa)<|nl<|dl<|az fun dn=>cd aa (fun eO=> ?_) fun eO=> ?_
 refine aQ<|dn<|az fun bA=>aE<|az fun bC=> ?_
 obtain ⟨⟨ln,r⟩,hri⟩:∃ q,rest[i]? =some q:=⟨_,bZ ab⟩
 have eT:rest.drop i=(ln,r)::rest.drop (i+1):=by rw [List.drop_eq_getElem_cons ab]; rw [bZ ab] at hri; rw [Option.some.inj hri]
 obtain ⟨p,c3⟩:∃ p,rvs'[i]? =some p:=⟨_,bZ ab⟩
 obtain ⟨dB,cD⟩:=bw.2 (i+1) p (ln,r) c3 hri
 obtain ⟨fv,gr⟩:=p
 obtain rfl :ln=fv:=dB.symm
 obtain ⟨a,c,rfl⟩:=cD.slice
 have cS:=cR (ln,r)<|List.mem_cons_of_mem _<|gB hri
 rw [eT] at am
 refine rg aa<|ao (aj i)<|p (a7 q5 aa aa ab<|aG.ok (cp.wk Y)<|vQ ab)<|p (cK uv aa (aa)<|vR (cp.wk Y) c3)<|e<|al HC fun ch gy bs b1 dH=> ?_
 have f6:=b1.size
 refine p (bV (aj i) aa)<|e<|cG Dm aa aa aa aa (dH) (by simp) fun a1 b0 dI=> ?_
 have bb:Wk aA a1:=(Y.trans b1.md).trans' b0 fun q C h=>by omega
 have cq:Wk aD a1:=b1.md.trans' b0 fun q C h=>by omega
 have bs:bE a1.heap ch [aj ln,.slice a r.length c]:=dI
 have f8:=b0.size
 refine nl<|bC<|az fun a2=>ak fun dq=>ao (aj i)<|ao (aj n)<|p (cg aa aa)<|nl<|dq<|cd aa (fun eP=> ?_) fun eP=> ?_
 refine ak fun bF=>p (fa vo aa)<|p (ld bR aa<|(bs.aM 0).trans aa)<|e<|cl qS (qX (ln:Nat) 116 a1) aa fun v75 gI es=> ?_
 obtain ⟨rfl,bW⟩:=es
 have gk:=bW.size
 refine p aC<|e<|cG iF aa aa aa aa (Wk.B (bb.trans bW) aY) (by simp) fun gL d8 dJ=>nl<|bF<|rt<|tr<|br<|tr<|tr<|br<|tr<|eU aa ek (dN (cs:= [.int .i64 2,aj ln,.int .i64 116]) aa j4 aa fun j av=>dJ.bp j) ?_
 rw [show n - i=0 by omega] at am
 exact kB.no am.more<|(aF.trans<|bb.trans bW).trans' d8 fun q C h=>by omega
 refine aQ<|a2<|ak fun bF=>ao (aV fb)<|p (cK BS aa (aa) fun j av=>(Wk.B cq cE).bp j)<|p (cK uv aa (aa) fun j av=>bs.bp j)<|e<|cl LJ (NO B fb mc F V ln r cc.heap.size a c a1 (cu.wk<|aF.trans bb) ⟨seen,co⟩ (cD.wk bb) cS.2 cS.1) aa fun v80 fF et=> ?_
 obtain ⟨d5,bX⟩:=et
 obtain ⟨A,a80,ci,rfl,c1,cN⟩:∃ (u:Tx) (a:Value) (e:Nat),v80= .tuple #[.agg [str u,a].toArray,aj e]∧a.oneCell'=true∧((e=0∧∃ l,fy F r= .ok (u,l)∧bm fF a1.heap.size 95 1 a l.length (l.map aT))∨(e≠0∧fy F r= .error e)):=by
  rcases d5 with ⟨x,a,h1,h2,h3⟩ | ⟨e,h1,h2,h3⟩
  exact ⟨x.1,a,0,h2,eQ h3,.inl ⟨aa,x.2,h1,h3⟩⟩
  exact ⟨_,_,e,h3,aa,.inr ⟨h2,h1⟩⟩
 have gl:=bX.size
 refine p mv<|p (xt aa aa)<|p (xt aa aa)<|e<|iq nH fun bL gz fP bk ck=> ?_
 have f7:=bk.size
 refine e<|gw iR aa aa aa (G5 c1) ck ay fun ax bg dK=> ?_
 have aS:Wk aD ax:=(cq.trans<|bX.trans bk.md).trans' bg fun q C h=>by omega
 have cF:ax.heap[bL]? =some (.cells [str A,a80].toArray 53 (0,0)):=dK
 have f9:=bg.size
 have eI:bE ax.heap ch [aj ln,.slice a r.length c]:=bg.B (Wk.B (bX.trans bk.md) bs) fun h=>by omega
 refine aw<|bF<|az fun dr=>ak fun ds=>p mv<|p (gu aa aa)<|nl<|ds<|cd aa (fun eR=> ?_) fun eR=> ?_
 obtain ⟨f0,hex⟩:=cN.resolve_left fun h=>by omega
 refine ak fun bH=>p (fa vo aa)<|p (ld bR aa<|(eI.aM 0).trans aa)<|p mv<|e<|cl qS (qX (ln:Nat) (ci:Nat) ax) aa fun gt gJ eu=> ?_
 obtain ⟨rfl,bY⟩:=eu
 have gm:=bY.size
 exact p aC<|e<|cG iF aa aa aa aa (Wk.B (Y.trans<|aS.trans bY) aY) (by simp) fun gM d9 dL=>nl<|bH<|rt<|tr<|br<|tr<|tr<|br<|tr<|eU aa ek (dN (cs:= [.int .i64 2,aj ln,aj ci]) aa j4 aa fun j av=>dL.bp j)<|kB.no (am.bad ab hex)<|(aF.trans<|Y.trans<|aS.trans bY).trans' d9 fun q C h=>by omega
 obtain ⟨_,aO,hex,e9⟩:=cN.resolve_right fun h=>by omega
 have bq:=aW.wk aS
 have e3:¬(va.ownBlock=some E):=dS bq.own bq.cells ay
 have e2:¬(va.ownBlock=some bL):=fun h=>by have :=(dd aW.own h).2; omega
 have gq:=aS.size
 refine aQ<|dr<|az fun bH=> ?_
 have aN:(fun w'=>Md (fun q=>va.ownBlock=some q) ax w') ax.drew:=(Md.refl _ _).drew
 refine eF (fun w'=>Md (fun q=>va.ownBlock=some q) ax w') 10 aa wide aN<|bo 0 aa (aV E) aN<|bo 1 aa (aV E) aN<|bB 2 aa (fun _=>nc aa) (fun _=>aN)<|bB 3 aa (fun _=>fa vp aa) (fun _=>aN)<|ed 4 aa (fun w' I=>ld si aa<|Md.aM I ((bj bq.cells).trans aa) e3) aN<|ed 5 aa (fun w' I=>cK km aa (aa) fun j av=>bE.bp ⟨_,Md.aE I cF e2⟩ j) aN<|iL 6 aa ag<|oN vW aa aa aa fun fK fG fU ef dY=> ?_
 have aK:=iN ef.md
 have J:=bq.wk aK
 have gn:=aK.size
 have cA:(fun w'=>Md (fun q=>va.ownBlock=some q) ax w') fG:=Md.mono aK fun _ _ h=>h.elim
 refine ⟨cA,?_⟩
 refine iL 7 aa ag<|ap vW (J.own) aa ab aa (aG.fO dY) (aa) (G5 c1) ab ab fun a9 ce cZ ah fu fX=> ?_
 obtain ⟨f,cO,eZ⟩:=J.mp
 have a4:=ah.aE J.cells<|dS J.own J.cells ay
 have c0:bm ce O.heap.size 53 2 a9 (xs++ [(A,aO)]).length (kp<|(xs++ [(A,aO)]).zip<|vs++ [a80]):=by
  have e0:xs.length=vs.length:=by have :=J.fl.1; rw [eX] at this; omega
  rw [List.zip_append e0,List.zip_cons_cons,List.zip_nil_right,Of,bK]; exact cZ
 have fu:=ah.size
 have eC:=ah.B (Wk.B (aS.trans aK) cE) fun h=>by have :=(dd J.own h).1; omega
 have eJ:=ah.aE (Wk.aE aK cF) fun h=>by have :=(dd aW.own h).2; omega
 have d4:Wk aA ce:=(Y.trans<|aS.trans aK).trans' ah fun q C h=>by have :=(dd J.own h).1; omega
 have b3:(fun w'=>Md (fun q=>va.ownBlock=some q) ax w') ce:=cA.trans' ah fun _ _ h=>h
 refine ⟨b3,?_⟩
 refine bB 8 aa (fun _=>nc aa) (fun _=>b3)<|bB 9 aa (fun _=>fa vp aa) (fun _=>b3)<|db 10 aa ag ag<|dQ Dk aa aa (v:=a9) (eQ cZ) a4 (by show _ < 2; omega) fun aI an dC=> ?_
 have bt:aI.heap[E]? =some (.cells [a9,.map (some ac)].toArray 184 (0,0)):=dC
 have f1:=an.size
 have d0:Wk aA aI:=d4.trans' an fun q C h=>by omega
 have eD:=an.B eC fun h=>by omega
 have b5:=an.aE eJ fun h=>by omega
 have cX:=cz c0 an fun q C h=>dS c0 a4 ay<|h ▸ C
 have ew:Tg aI O.heap.size 95 aO.length a80 (aO.map aT):=((((((Tg.kg e9).mono ab).wk bk.md).md bg<|gW ck ay).wk aK).md ah<|jd J.own ay).md an<|gW a4 ay
 have eW:=((J.fl.md ah<|jd J.own ay).md an<|gW a4 ay).snoc ew
 have b8:=(cO.md ah fun h=>mH J.own h fun cur z=>cO.mF).md an fun h=>by omega
 have bu:=(eZ.md ah<|jd J.own ay).md an<|gW a4 ay
 have b9:¬(((f<|str A).getD<|bD none 0 0).ownBlock=some E):=dS (bu.own A) bt ay
 have cU:¬(((f<|str A).getD<|bD none 0 0).ownBlock=some bL):=dS (bu.own A) b5 ay
 have cW:¬(((f<|str A).getD<|bD none 0 0).ownBlock=some ac):=fun h=>mH (bu.own A) h fun cur z=>b8.mF
 refine eE ag<|bH ?_
 have G:(fun w'=>Md (fun q=>((f<|str A).getD<|bD none 0 0).ownBlock=some q) aI w') aI.drew:=(Md.refl _ _).drew
 refine eF (fun w'=>Md (fun q=>((f<|str A).getD<|bD none 0 0).ownBlock=some q) aI w') 16 aa wide G<|lq 0 aa ag (fun _ _=>aH (aV E) aa) G<|lq 1 aa ag (fun _ _=>nc aa) G<|lq 2 aa ag (fun _ _=>fa y7 aa) G<|lq 3 aa ag (fun w' I=>ld xV aa<|Md.aM I ((bj bt).trans aa) b9) G<|lq 4 aa ag (fun _ _=>fa sV aa) G<|lq 5 aa ag (fun w' I=>ld cB aa<|Md.aM I ((bj b5).trans aa) cU) G<|lq 6 aa ag (fun _ _=>aH (aV E) aa) G<|lq 7 aa ag (fun _ _=>nc aa) G<|lq 8 aa ag (fun _ _=>fa y7 aa) G<|lq 9 aa ag (fun w' I=>ld xV aa<|Md.aM I ((bj bt).trans aa) b9) G<|lq 10 aa ag (fun _ _=>fa sV aa) G<|lq 11 aa ag (fun w' I=>ld cB aa<|Md.aM I ((bj b5).trans aa) cU) G<|lq 12 aa ag (fun w' I=>kN AR xc gE (bQ.md (b8) I cW) aa aa (⟨_,aa⟩)<|aa) G<|lq 13 aa ag (fun _ _=>aH (aj i) aa) G<|iL 14 aa ag<|kG mK aa aa fun fJ fB fM ee dD=> ?_
 have ae:=iN ee.md
 have aZ:=bu.md ae fun _ hk=>hk.elim
 have f2:=ae.size
 have cC:(fun w'=>Md (fun q=>((f<|str A).getD<|bD none 0 0).ownBlock=some q) aI w') fB:=Md.mono ae fun _ _ h=>h.elim
 refine ⟨cC,?_⟩
 refine iL 15 aa ag<|ap mK (aZ.own A) aa ab aa (aG.fO dD) (aa) (aa) (by have :=zi A xs; omega) (by have :=zi A xs; omega) fun fA dc e6 aq ft a5=> ?_
 have ft:=aq.size
 have a5:=(b8.wk ae).md aq cW
 have fc:bm dc O.heap.size 3 1 fA (idxs A xs++ [xs.length]).length ((idxs A xs++ [xs.length]).map fV):=by
  rw [bK,gA,c5]; exact e6
 have ev:(fun w'=>Md (fun q=>((f<|str A).getD<|bD none 0 0).ownBlock=some q) aI w') dc:=cC.trans' aq fun _ _ h=>h
 refine ⟨ev,?_⟩
 refine db 16 aa ag ag<|qn AR gE (a5) aa aa aa (⟨_,aa⟩) fun de aL eg=> ?_
 have fd:=lJ.put (x:=(A,aO)) aZ aq fc (fun cur z=>a5.mF) aL
 have eN:=aL.aE (aq.aE (Wk.aE ae bt) b9) fun h=>by omega
 have cY:=cz (a8 cX ae) aq fun q C=>nv (a8 cX ae) (aZ.own A) ay C
 have e7:=cz cY aL fun q C h=>mH cY C fun cur z=>h ▸ a5.mF
 have eY:=((eW.wk ae).md aq<|jd (aZ.own A) ay).md aL fun k hk cur z h=>a5.mF<|hk ▸ h
 have ez:jW de O.heap.size E ac a9 (vs++ [a80]) (xs++ [(A,aO)]):=⟨eN,e7,by rw [gA]; exact eY,⟨_,eg,fd⟩⟩
 have d2:Wk aA de:=((d0.trans ae).trans' aq fun q C h=>by have :=(dd (aZ.own A) h).1; omega).trans' aL fun q C h=>by omega
 have eG:=aL.B (aq.B (Wk.B ae eD) fun h=>by have :=(dd (aZ.own A) h).1; omega) fun h=>by omega
 have ga:=aL.size
 exact eE ag<|bn<|bA<|rg aa<|p (ad aa aa<|cH ab)<|p mv<|nl<|tn<|⟨_,ab,i+1,xs++ [(A,aO)],vs++ [a80],a9,ab,(by rw [bK,c5]; rfl),(by rw [show n - (i+1)=n - i - 1 by omega]; exact am.step ab hex),ez,d2,eG,(ab),aa,aa,aa,(by first | rfl | (rw [← cT]; rfl)),aa,aa,(by first | rfl | (rw [Z]; rfl)),(by first | rfl | (rw [Z]; rfl)),aa,aa⟩
 refine ext<|bc<|bc<|be<|dj<|az fun bA=>az fun bC=> ?_
 obtain ⟨fI,cv,rfl⟩:=cQ aW.own
 refine rg aa<|ao (aV E)<|p (nc aa)<|p (fa vp aa)<|p (ld si aa<|(bj aW.cells).trans aa)<|p (bM wy aa aa)<|ao (aj n)<|p (lt aa aa)<|nl<|bC<|cd aa (fun eM=> ?_) fun eM=> ?_
 refine ak fun a2=>ao (.slice c6 (da t).length qP)<|p (bM e8 aa aa)<|p (bG (((da t).length+1:Nat):Int) aa aa<|bf ab ab)<|e<|cl qS (qX ((da t).length+1:Nat) 116 aD) aa fun gs gx ei=> ?_
 obtain ⟨rfl,bO⟩:=ei
 have f4:=bO.size
 refine p aC<|e<|cG iF aa aa aa aa (Wk.B (Y.trans bO) aY) (by simp) fun gN ea dP=>nl<|a2<|rt<|tr<|eU aa ek (dN (cs:= [.int .i64 2,aj ((da t).length+1),.int .i64 116]) aa j4 aa fun j av=>dP.bp j) ?_
 rw [kX ab] at am
 exact kB.no (am.ends ab)<|(aF.trans<|Y.trans bO).trans' ea fun q C h=>by omega
 refine aQ<|bA<|ak fun a2=>ao (aV E)<|p (c7 (ps:= []) (L:= [.int .i64 0,.int .i64 0,.int .i64 0]) rD aa<|aa)<|p (bV (aV E) aa)<|e<|cG iF aa aa aa aa (Wk.B Y aY) (by simp) fun gO cx dR=>nl<|a2<|rt<|eU aa ek (dN (cs:= [.int .i64 0,.int .i64 0,.int .i64 0]) aa j4 aa fun j av=>dR.bp j) ?_
 rw [kX ab,show n - i=0 by omega] at am
 have eA:=am.done
 have ex:TF aD [47] (fun q=>q=bN):=TF.eq (dO<|Wk.aE (hE22.trans<|hE31.trans Y) cn) ay
 unfold kB
 rw [eA]
 exact ⟨⟨O.heap.size,E,ac,_,vs,ab,aa,aW.md cx ex ay (fun h=>by omega),ab,ab⟩,(aF.trans Y).trans' cx fun q C h=>by omega⟩
end Go.Hb.gL
end
section
namespace Go.Hb
open Go.Hb.fU Go.Hb.gL
theorem V7 {α:Type} {f:α×Value→List Value} {m c i:Nat} (A:∀ q,(f q).length=m) (C:c < m) (hs:∀ a u v,(f (a,u)).set c v=f (a,v)) {rs:List α} {vs:List Value} {v:Value} (hi:i < rs.length) (J:i < vs.length):((rs.zip vs).flatMap f).set (i*m+c) v=(rs.zip<|vs.set i v).flatMap f:=by
 obtain ⟨r,I⟩:∃ r,rs[i]? =some r:=⟨_,bZ hi⟩
 obtain ⟨u,hu⟩:∃ u,vs[i]? =some u:=⟨_,bZ J⟩
 have O:(rs.zip vs)[i]? =some (r,u):=jh.2 ⟨I,hu⟩
 have Z:rs.zip (vs.set i v)=(rs.zip vs).set i (r,v):=by
  apply nK
  intro j
  rw [ki]
  by_cases E:i=j
  · subst E
    rw [if_pos rfl,if_pos (eu.1 O).1]
    exact jh.2 ⟨I,by simp [J]⟩
  · rw [if_neg E]
    cases h1:(rs.zip vs)[j]? with
    | none=>
      rw [Ix,xF] at h1 ⊢
      rw [tY]; exact h1
    | some q=>
      have h2:=jh.1 h1
      exact jh.2 ⟨h2.1,by rw [ki,if_neg E]; exact h2.2⟩
 have aa:(rs.zip vs).length=min rs.length vs.length:=xF
 have G:((rs.zip vs).flatMap f).length=(rs.zip vs).length*m:=lR A _
 have hle:i*m+m≤(rs.zip vs).length*m:=by rw [← Nat.succ_mul]; exact Nat.mul_le_mul_right _ ab
 rw [Z,Ed A _ ab]
 apply nK
 intro j
 have V:=fun c C=>vf A (c:=c) O C
 have Y:(((rs.zip vs).flatMap f).take<|i*m).length=i*m:=by rw [dB,G]; omega
 rw [ki]
 by_cases h1:j < i*m
 · rw [if_neg ab,ib,me ab,mS,if_pos h1]
 · rw [ib,mR ab,Y]
   by_cases h2:j < i*m+m
   · rw [me (by rw [A]; omega)]
     obtain ⟨d,rfl⟩:∃ d,j=i*m+d:=⟨j - i*m,ab⟩
     rw [V d ab,show i*m+d - i*m=d by omega,← hs r u v,ki]
     by_cases h3:c=d
     · subst h3; rw [if_pos rfl,if_pos rfl,if_pos (by rw [G]; omega),if_pos (by rw [A]; exact C)]
     · rw [if_neg ab,if_neg h3]
   · rw [if_neg ab,mR (by rw [A]; omega),A,qA]
     congr 1; omega
theorem Ot {xs:List bh} {vs:List Value} {i:Nat} {v:Value} (hi:i < xs.length) (A:i < vs.length):(kp<|xs.zip vs).set (i*2 +1) v=kp (xs.zip<|vs.set i v):=V7 (f:=pW) (m:=2) (c:=1) (fun _=>rfl) ay (fun _ _ _=>rfl) hi A
theorem yK {l:List (bh×Value)} {i:Nat} {q:bh×Value} (h:l[i]? =some q):kp l≠[]:=fun h2=>by
 have h3:=Og l
 have h4:=(eu.1 h).1
 rw [h2] at h3
 have h5:0=l.length*2:=h3
 omega
theorem Jz (l:List Nat):(l.map fV).all et=true :=by
 rw [jT]; intro v c; obtain ⟨x,_,rfl⟩:=gK.1 c; rfl
theorem Oq {w:World} {B e:Nat} {xs:List bh} {vs:List Value} {C:List (List Nat)} (h:dw w B e vs C):(kp<|xs.zip vs).all et=true :=by
 rw [jT]
 intro v c
 obtain ⟨q,A,c⟩:=oB.1 c
 have h1:=jT.1 (uy h) q.2 (xI A).2
 simp only [pW,dR,uc,or_false] at c
 rcases c with rfl | rfl
 · rfl
 · exact h1
def nT (w:World) (B:Nat) (vs:List Value) (c:List (List Nat)):Prop :=vs.length=c.length∧∀ (i:Nat) v l,vs[i]? =some v→c[i]? =some l→bm w B 95 1 v l.length (l.map aT)
theorem nT.t {w:World} {B:Nat} {vs:List Value} {c:List (List Nat)} (h:nT w B vs c):dw w B 95 vs c:=⟨h.1,fun i v l h1 h2=>Tg.kg<|h.2 i v l h1 h2⟩
theorem BZ {G:Nat→Prop} {w w':World} {B:Nat} {vs:List Value} {c:List (List Nat)} (h:nT w B vs c) (hm:Md G w w') (A:∀ k,G k→∀ cur z,w.heap[k]?≠some (.cells cur 95 z)):nT w' B vs c:=⟨h.1,fun i v l h1 h2=>cz (h.2 i v l h1 h2) hm fun k hk C=>mH (h.2 i v l h1 h2) hk<|A k C⟩
theorem JC (w:World) (B:Nat):nT w B [] []:=⟨rfl,fun i v l c=>by simp at c⟩
theorem JB {w:World} {B i:Nat} {vs:List Value} {c:List (List Nat)} {v:Value} (h:nT w B (vs.take i) (c.take i)) (hi:i < c.length) (G:i < vs.length) (E:bm w B 95 1 v (c.getD i []).length ((c.getD i []).map aT)):nT w B ((vs.set i v).take<|i+1) (c.take<|i+1):=by
 refine ⟨by simp; have :=h.1; simp at this; omega,fun j u l h1 h2=> ?_⟩
 rw [mS] at h1 h2
 by_cases A:j < i+1
 · rw [if_pos A] at h1 h2
   rw [ki] at h1
   by_cases C:i=j
   · subst C
     rw [if_pos rfl,if_pos G] at h1
     cases h1
     rw [show c.getD i []=l by rw [cM,h2]; rfl] at E
     exact E
   · rw [if_neg C] at h1
     exact h.2 j u l (by rw [mS,if_pos ab]; exact h1)<|by rw [mS,if_pos ab]; exact h2
 · rw [if_neg A] at h1; cases h1
theorem NT (B wb mb:Nat) (va:Value) (vs:List Value) (xs:List bh) (w:World) (c:jW w B wb mb va vs xs) (V:xs.length≤70000) (s:Tx):
 ba au 161 (aX [aV wb,str s]) w (fun v w'=>bm w' w.heap.size 3 1 v (idxs s xs).length ((idxs s xs).map fV)∧Wk w w'):=by
 obtain ⟨f,J,O⟩:=c.mp
 exact enter func161 aa ntmps161 aa<|ak fun A=>aw<|A<|az fun C=>ak fun E=>ao (aV wb)<|p (lf AV aa aa)<|nl<|E<|cf (aa)<|aQ<|C<|az fun G=>rg aa<|ao (aV wb)<|p (nc aa)<|p (fa y7 aa)<|p (ld xV aa<|(bj c.cells).trans aa)<|ao (str s)<|p (kN AR xc gE (J) aa aa (⟨_,aa⟩)<|aa)<|e<|cl KO (Mq _ (idxs s xs).length ((idxs s xs).map fV) w (Rd.kg<|O.own s) (Jz _)<|by have :=zi s xs; omega) aa fun Y Z I=>aw<|G<|rt<|a6 aa<|I
theorem NN (B wb mb:Nat) (va:Value) (vs:List Value) (xs:List bh) (w:World) (G:jW w B wb mb va vs xs) (a4:xs.length≤70000) (aN:∀ x∈xs,x.2.length≤64):
 ba au 42 (aX [aV wb]) w (fun v w'=>(∃ vs,bm w' w.heap.size 53 2 v xs.length (kp<|xs.zip vs)∧dw w' w.heap.size 95 vs (xs.map (·.2))∧nT w' w.heap.size vs (xs.map (·.2)))∧Wk w w'):=by
 refine enter func42 aa ntmps42 aa<|ak fun ap=>aw<|ap<|az fun av=>ak fun ax=>ao (aV wb)<|p (lf AV aa aa)<|nl<|ax<|cf (aa)<|aQ<|av<|az fun aA=>rg aa<|ao (aV wb)<|p (nc aa)<|p (fa vp aa)<|p (ld si aa<|(bj G.cells).trans aa)<|e<|cl LO (Mo va xs.length (kp<|xs.zip vs) w (Rd.kg G.own) (Oq G.fl) ab) aa fun v11 bb aJ=> ?_
 obtain ⟨al,aH⟩:=aJ
 obtain ⟨C,ko,rfl⟩:=cQ al
 have aZ:vs.length=xs.length:=by have :=G.fl.1; rwa [eX] at this
 refine aw<|aA<|az fun aB=>ak fun aC=>p mv<|p (bM wy aa aa)<|p mv<|nl<|aC<|aE<|lp (fun ai O E=> ∃ (i:Nat) (sa:List Value),(i≤xs.length)∧(sa.length=xs.length)∧(sa.drop i=vs.drop i)∧(nT E w.heap.size (sa.take i)<|(xs.map (·.2)).take i)∧(bm E w.heap.size 53 2 (.slice C xs.length ko) xs.length<|kp<|xs.zip sa)∧(Wk w E)∧(O 3= .slice C xs.length ko)∧(O 13=aj (xs.length))∧(O 14=aj i)∧(xs.length - i=ai)) _ ⟨0,vs,ab,aZ,aa,(JC _ _),al,aH,aa,aa,aa,aa⟩ ?_
 rintro ai O E ⟨i,sa,hi,aY,an,J,A,I,aW,aR,aS,rfl⟩
 refine fx 3 aW<|fx 13 aR<|fx 14 aS<|ak fun aD=>p (lt aa aa)<|nl<|aD<|az fun aF=>cd aa (fun aM=> ?_) fun aM=> ?_
 refine aQ<|aF<|az fun V=>aE<|az fun aq=> ?_
 obtain ⟨a9,a0,Z⟩:=dw.get (G.wk I).fl (show i < (xs.map (·.2)).length by rw [eX]; omega)
 obtain ⟨ah,ci,rfl⟩:=Z.slice
 obtain ⟨x,ag⟩:∃ x,xs[i]? =some x:=⟨_,bZ ab⟩
 have a2:(xs.map (·.2)).getD i []=x.2:=by rw [cM,eR,ag]; rfl
 have a1:=aN x<|gB ag
 rw [← a2] at a1
 have ae:(xs.zip sa)[i]? =some (x,.slice ah ((xs.map (·.2)).getD i []).length ci):=jh.2 ⟨ag,(yH an).trans a0⟩
 refine rg aa<|ao (aj i)<|p (bV (aj i) aa)<|nl<|aq<|rg aa<|ao (.slice C xs.length ko)<|ao (aj i)<|ao (.slice C xs.length ko)<|ao (aj i)<|p (a7 yN aa aa ab<|aG.ok ((aU A).2)<|yK ae)<|p (fa p6 aa)<|p (ld lL aa<|gY (f:=pW) (m:=2) (fun _=>rfl) (aU A).2 ae 1 ay)<|e<|cl qR (qU ah ((xs.map (·.2)).getD i []).length ci (((xs.map (·.2)).getD i []).map aT) E Z.dy.2 (by simp) (fun h=>Tg.ry Z (by simp) h) (qM _) ab) aa fun v24 bd aK=> ?_
 obtain ⟨ac,c⟩:=aK
 have a5:=c.size
 refine p (a7 yN aa aa ab<|aG.ok ((aU<|a8 A c).2)<|yK ae)<|p (fa p6 aa)<|e<|rE (j:=i*2 +1) (a8 A c) qW aa aa (eQ ac) (by rw [jx]; omega) ab fun a3 Y am=> ?_
 rw [Ot ab ab] at am
 have aI:Wk w a3:=Wk.own (I.trans c) (a8 A c) Y ab
 have aO:=cz (fk ac (show w.heap.size≤E.heap.size from I.size)) Y fun q aP=>nv ac (a8 A c) ay aP
 have aL:=BZ (BZ J c fun _ hk=>hk.elim) Y<|jd (a8 A c) ay
 exact nl<|bn<|V<|rg aa<|p (ad aa aa<|cH ab)<|p mv<|nl<|tn<|⟨_,ab,i+1,sa.set i v24,ab,(by rw [tY]; exact aY),(fU.set_drop an),(JB aL (by rw [eX]; omega) ab aO),am,aI,aa,aa,aa,aa⟩
 refine ext<|bc<|bc<|be<|aB<|ak fun V=>ao (.slice C xs.length ko)<|p (bV (.slice C xs.length ko) aa)<|nl<|V<|rt<|a6 aa ?_
 rw [eN ab,eN (by rw [eX]; omega)] at J
 exact ⟨⟨sa,A,J.t,J⟩,I⟩
end Go.Hb
end
section
namespace Go.Hb
structure Ja where
 rb:Nat
 fb:Nat
 eof:Nat
 vr:Value
 vs:List (Nat×Value)
 rows:List Rw
section
variable {w w':World} {B k ln:Nat} {H:Ja} {seen:List Tx} {vh:Value}
end
end Go.Hb
end
section
namespace Go.Hb.gT
open Go.Hb.gi
def Ny (F:aB):Prop := ∀ l∈F.aliases,∀ x∈l,x < 65536
theorem Ew {kind:Nat} {s:Tx} {l:List Nat} (h:kq kind s= .ok l):∀ x∈l,x < 65536:=by
 unfold kq at h
 split at h
 · cases h
 · cases h
   intro x c
   unfold eO at c
   repeat' split at c
   all_goals first
    | (cases c; done)
    | (rw [zY] at c
       obtain ⟨y,_,rfl⟩:=gK.1 c
       exact O7 _ _)
theorem Ju {kind ln:Nat} {row:List Tx} {l:List Nat} (h:lM kind ln row= .ok l):∀ x∈l,x < 65536:=by
 unfold lM at h
 split at h
 · cases h
 · exact Ew h
theorem Pe {kind:Nat} {al:List (List Nat)} {s:Tx} {l:List Nat} (c:∀ l∈al,∀ x∈l,x < 65536) (h:fM kind al s= .ok l):∀ x∈l,x < 65536:=by
 unfold fM at h
 split at h
 · exact Ew h
 · split at h
   · cases h
   · split at h
     · cases h
     · cases h
       rename_i n _ _
       rw [cM]
       cases hg:al[n - 1]? with
       | none=>simp
       | some y=>exact c y<|gB hg
theorem Qb {eof ln:Nat} {F F':aB} {hs:List Tx} {rows rows':List Rw} {row:List Tx} (h:Ny F) (c:bX eof F hs rows ln row= .ok (F',rows')):Ny F':=by
 unfold bX at c
 repeat' split at c
 · unfold jt at c; repeat' split at c
   all_goals first | (cases c; done) | (cases c; exact h)
 · unfold ke at c; repeat' split at c
   all_goals first | (cases c; done) | (cases c; exact h)
 · unfold l0 at c; repeat' split at c
   all_goals first | (cases c; done) | (cases c; exact h)
 · unfold l1 at c; repeat' split at c
   all_goals first | (cases c; done) | (cases c; exact h)
 · unfold kf at c; repeat' split at c
   all_goals first | (cases c; done) | (cases c; exact h)
 · unfold kh at c; repeat' split at c
   all_goals first | (cases c; done) | (cases c; exact h)
 · unfold jG at c
   split at c
   · cases c
   · split at c
     · cases c
     · split at c
       · cases c
       · rename_i r C
         cases c
         intro l A
         rcases List.mem_append.1 A with A | A
         · exact h l A
         · obtain ⟨_,_,h2⟩:=ze _ _ _ C l A
           exact Ju h2
 · unfold gP at c; repeat' split at c
   all_goals first | (cases c; done) | (cases c; exact h)
theorem Tk {eof:Nat} :∀ (k:Nat) (F F':aB) (hs:List Tx) (rows:List Rw),Ny F→gH eof k F hs rows= .ok F'→Ny F':=by
 intro k
 induction k with
 | zero=>intro F F' hs rows h c; rw [gH] at c; split at c <;> cases c; exact h
 | succ k C=>
   intro F F' hs rows h c
   cases rows with
   | nil=>rw [Gi] at c; cases c; exact h
   | cons q rows=>
     rw [gH] at c
     split at c
     · cases c
     · split at c
       · cases c
       · split at c
         · cases c
         · split at c
           · cases c
           · rename_i r A
             exact C _ _ _ _ (Qb (rows':=r.2) h A) c
theorem BM {s:Tx} {F:aB} (h:fF s= .ok F):Ny F:=by
 unfold fF at h
 split at h
 · cases h
 · split at h
   · cases h
   · rename_i f c
     split at h
     · cases h
     · cases h
       exact Tk _ _ _ _ _ (fun l A=>by cases A) c
def ui (x:bh):Prop :=x.1.length≤64∧x.2.length≤64∧(∀ y∈x.2,y < 65536)
theorem yJ {F:aB} {row:List Tx} {x:bh} (h1:Nx F) (h2:Ny F) (h:fy F row= .ok x):ui x:=by
 unfold fy at h
 split at h
 · cases h
 · split at h
   · cases h
   · split at h
     · cases h
     · split at h
       · cases h
       · split at h
         · cases h; exact ⟨by simp only; omega,by simp,fun y A=>by cases A⟩
         · split at h
           · cases h
           · rename_i c
             split at h
             · cases h
               exact ⟨by simp only; omega,yV h1.1 c,Pe h2 c⟩
             · cases h
theorem Ov {F:aB} {eof:Nat} (h1:Nx F) (h2:Ny F):∀ {n:Nat} {rows:List Rw} {r:List bh},eC F eof n rows= .ok r→∀ x∈r,ui x:=by
 intro n
 induction n with
 | zero=>
   intro rows r h
   cases rows with
   | nil=>rw [eC] at h; cases h; intro x c; cases c
   | cons q rows=>rw [eC] at h; cases h
 | succ n C=>
   intro rows r h
   cases rows with
   | nil=>rw [eC] at h; cases h
   | cons q rows=>
     rw [eC] at h
     split at h
     · cases h
     · rename_i he
       split at h
       · cases h
       · rename_i A
         cases h
         intro x c
         rcases dR.1 c with rfl | c
         · exact yJ h1 h2 he
         · exact C A x c
theorem Dx {F:aB} {t:Tx} {xs:List bh} (h1:Nx F) (h2:Ny F) (h:fw F t= .ok xs):(∀ x∈xs,ui x)∧xs.length≤8192:=by
 unfold fw at h
 split at h
 · cases h
 · split at h
   · cases h
   · split at h
     · cases h
     · split at h
       · cases h
       · rename_i hn
         refine ⟨Ov h1 h2 h,?_⟩
         have A:=(Ox h).1
         unfold ei at hn
         split at hn
         · cases hn
         · cases hn
           rename_i c
           have :=vF _ 8192<|l6.1 c
           omega
end Go.Hb.gT
end
section
namespace Go.Hb
open Go.Hb.gi Go.Hb.fU Go.Hb.gL Go.Hb.gT
noncomputable def kS (a t:Tx):Option (aB×List bh):=match fF a with
 | .error _=>none
 | .ok F=>match fw F t with
   | .error _=>none
   | .ok xs=>some (F,xs)
theorem UU {a t:Tx} {e:Nat×Nat} (h:fF a= .error e):kS a t=none:=by unfold kS; rw [h]
theorem UW {a t:Tx} {F:aB} {e:Nat×Nat} (h:fF a= .ok F) (h1:fw F t= .error e):kS a t=none:=by unfold kS; rw [h]; simp only; rw [h1]
theorem GX {a t:Tx} {F:aB} {xs:List bh} (h:fF a= .ok F) (h1:fw F t= .ok xs):kS a t=some (F,xs):=by unfold kS; rw [h]; simp only; rw [h1]
structure eJ (F:aB) (xs:List bh):Prop where
 len:F.dj.length+F.aliases.length+F.bz.length+F.rules.length≤70000
 nx:Nx F
 yL:∀ x∈xs,ui x
 xl:xs.length≤8192
 fs:qG F
 cls:nW F
 Oc:∀ x∈xs,jX x.2
 js:F.sp.length=5
 ne:∀ x∈xs,1≤x.1.length
theorem xS {s:Tx} {F:aB} (h:fF s= .ok F):Nx F:=xR (Q:=Nx) ⟨fun l c=>(by cases c),fun l c=>by cases c⟩ (fun _ _ _ _ _ _ _ _ h A=>zh h A) h
theorem eJ.of {a t:Tx} {F:aB} {xs:List bh} (h:fF a= .ok F) (h1:fw F t= .ok xs) (c:∃ seen,jz F [] seen) (h5:F.sp.length=5):eJ F xs:=by
 obtain ⟨seen,c⟩:=c
 have C:=c.len
 have A:=Dx (xS h) (BM h) h1
 exact ⟨by simpa using C,xS h,A.1,A.2,(xQ h).1,(xQ h).2,NZ (xQ h).1 h1,h5,N3 h1⟩
theorem eJ.lD {F:aB} {xs:List bh} (h:eJ F xs) {i:Nat} {r:cC} (c:F.rules[i]? =some r):r.next.length≤64∧jX r.next∧um r:=⟨h.nx.2 r (gB c),h.fs.2 r<|gB c⟩
structure eS where
 fb:Nat
 mc:Nat
 wb:Nat
 mb:Nat
 V:dU
 V2:dU
 va:Value
 ve:Value
 vs:List Value
 ws:List Value
def U2 (F:aB) (U:eS):List Value:= .pointer (some ⟨U.fb,0,none⟩):: .pointer (some ⟨U.wb,0,none⟩)::(kn F U.V2++ [U.ve])
structure eA (w:World) (B tb:Nat) (U:eS) (F:aB) (xs:List bh):Prop where
 cells:w.heap[tb]? =some (.cells (U2 F U).toArray 105 (0,0))
 fl:cV w B U.fb U.mc F U.V
 ax:nU w B F U.V2
 wd:jW w B U.wb U.mb U.va U.vs xs
 oe:bm w B 53 2 U.ve xs.length (kp<|xs.zip U.ws)
 ef:dw w B 95 U.ws (xs.map (·.2))
theorem x5 {G:Nat→Prop} {w w':World} {B:Nat} {F:aB} {V:dU} (h:nU w B F V) (hm:Md G w w') {L:List Nat} (c:TF w L G) (A:(L.contains 191 || L.contains 53 || L.contains 97 || L.contains 194 || L.contains 136)=false):nU w' B F V:=by
 simp only [pd] at A
 obtain ⟨⟨⟨⟨h1,h2⟩,h3⟩,h4⟩,h5⟩:=A
 have C:∀ k,G k→∀ cur z,w.heap[k]?≠some (.cells cur 95 z):=fun k hk cur z E=>c.no (dO E) h3 hk
 exact ⟨c5 h.o9 hm c h1,c5 h.gG hm c h2,h.al.md hm C,c5 h.fN hm c h4,c5 h.ej hm c h5,h.nx.md hm C⟩
theorem eA.Fz {G:Nat→Prop} {w w':World} {B tb:Nat} {U:eS} {F:aB} {xs:List bh} (h:eA w B tb U F xs) (hm:Md G w w') {L:List Nat} (c:TF w L G) (A:(L.contains 166 || L.contains 191 || L.contains 53 || L.contains 97 || L.contains 194 || L.contains 136 || L.contains 186 || L.contains 55 || L.contains 5 || L.contains 107)=false) (J:¬G U.mc) (I:¬G U.mb):eA w' B tb U F xs:=by
 simp only [pd] at A
 obtain ⟨⟨⟨⟨⟨⟨⟨⟨⟨h1,h2⟩,h3⟩,h4⟩,h5⟩,h6⟩,h7⟩,h8⟩,h9⟩,h10⟩:=A
 have C:∀ k,G k→∀ cur z,w.heap[k]?≠some (.cells cur 95 z):=fun k hk cur z E=>c.no (dO E) h4 hk
 exact ⟨hm.jH c h.cells h10,h.fl.md hm c (by rw [h1,h2,h3,h4,h5,h6]; rfl) J,x5 h.ax hm c (by rw [h2,h3,h4,h5,h6]; rfl),h.wd.md hm c (by rw [h7,h8,h4,h9]; rfl) I,c5 h.oe hm c h8,h.ef.md hm C⟩
theorem eA.wk {w w':World} {B tb:Nat} {U:eS} {F:aB} {xs:List bh} (h:eA w B tb U F xs) (hm:Wk w w'):eA w' B tb U F xs:=h.Fz (L:= []) hm (fun _ hk=>hk.elim) rfl id id
theorem JW {w w':World} {B:Nat} {F:aB} {V:dU} (h:nU w B F V) (hm:Wk w w'):nU w' B F V:=x5 (L:= []) h hm (fun _ hk=>hk.elim) rfl
theorem JU {w:World} {B B':Nat} {F:aB} {V:dU} (h:nU w B F V) (c:B'≤B):nU w B' F V:=⟨fk h.o9 c,fk h.gG c,h.al.mono c,fk h.fN c,fk h.ej c,h.nx.mono c⟩
theorem Te {s:Tx} {w w':World} {v:Value} (h:nZ s w v w'):∃ p C E G,v= .tuple #[.pointer p,.agg [.int .i64 C,.int .i64 E,.int .i64 G].toArray]∧((p=none∧∃ e,fF s= .error e)∨(∃ F fb mc V,p=some ⟨fb,0,none⟩∧fF s= .ok F∧cV w' w.heap.size fb mc F V∧(∃ seen,jz F [] seen)∧Nx F))∧Wk w w':=by
 obtain ⟨h,c⟩:=h
 cases hx:fF s with
 | error e=>rw [hx] at h; exact ⟨_,_,_,_,h,.inl ⟨rfl,e,rfl⟩,c⟩
 | ok F=>rw [hx] at h; obtain ⟨fb,mc,V,A,h1,h2,h3⟩:=h; exact ⟨_,_,_,_,A,.inr ⟨F,fb,mc,V,rfl,rfl,h1,h2,h3⟩,c⟩
theorem N9 {F:aB} {s:Tx} {w w':World} {v:Value} (h:kB F s w v w'):∃ p C E G,v= .tuple #[.pointer p,.agg [.int .i64 C,.int .i64 E,.int .i64 G].toArray]∧((p=none∧∃ e,fw F s= .error e)∨(∃ xs B wb mb va vs,p=some ⟨wb,0,none⟩∧fw F s= .ok xs∧w.heap.size≤B∧jW w' B wb mb va vs xs∧w.heap.size≤wb∧w.heap.size≤mb))∧Wk w w':=by
 obtain ⟨h,c⟩:=h
 cases hx:fw F s with
 | error e=>rw [hx] at h; exact ⟨_,_,_,_,h,.inl ⟨rfl,e,rfl⟩,c⟩
 | ok xs=>rw [hx] at h; obtain ⟨B,wb,mb,va,vs,h1,A,h2,h3,h4⟩:=h; exact ⟨_,_,_,_,A,.inr ⟨xs,B,wb,mb,va,vs,rfl,rfl,h1,h2,h3,h4⟩,c⟩
def sh (a t:Tx) (w:World) (v:Value) (w':World):Prop :=(∃ p c A C,v= .tuple #[.pointer p,.agg [.int .i64 c,.int .i64 A,.int .i64 C].toArray]∧match kS a t with
 | none=>p=none
 | some T=> ∃ B tb U,w.heap.size≤B∧p=some ⟨tb,0,none⟩∧eA w' B tb U T.1 T.2∧eJ T.1 T.2)∧Wk w w'
theorem sh.no {a t:Tx} {w w':World} {c A C:Int} (h:kS a t=none) (hm:Wk w w'):sh a t w (.tuple #[.pointer none,.agg [.int .i64 c,.int .i64 A,.int .i64 C].toArray]) w':=⟨⟨none,c,A,C,rfl,by rw [h]⟩,hm⟩
theorem VR {w:World} {B B':Nat} {f:Value→Option Value} {xs:List bh} (h:lJ w B f xs) (c:B'≤B):lJ w B' f xs:=⟨fun s=>fk (h.own s) c,h.nil⟩
theorem Oa {w:World} {B B' wb mb:Nat} {va:Value} {vs:List Value} {xs:List bh} (h:jW w B wb mb va vs xs) (c:B'≤B):jW w B' wb mb va vs xs:=by
 obtain ⟨f,A,C⟩:=h.mp
 exact ⟨h.cells,fk h.own c,h.fl.mono c,f,A,VR C c⟩
theorem AO (a t:Tx) (w:World) (bT:a.length≤1048576) (b5:t.length≤1048576):
 ba au 22 (aX [str a,str t]) w (sh a t w):=by
 refine enter func22 aa ntmps22 aa<|ak fun br=>p aC<|e<|iq nG fun A ai cd ap aj=> ?_
 have cq:=ap.size
 refine nl<|br<|ak fun bt=>ao (str a)<|e<|cl Ls (Jm a ai bT) aa fun v12 bo bM=> ?_
 have bY:=Te bM
 obtain ⟨pp,bg,bh,bi,rfl,bf,aK⟩:=bY
 have ci:=aK.size
 refine p mv<|p (xt aa aa)<|p (xt aa aa)<|e<|iq nG fun aU cy ce a6 bF=> ?_
 have ct:=a6.size
 refine p aC<|e<|gw iF aa aa aa aa bF ay fun Y a1 aH=> ?_
 have aJ:Wk bo Y:=a6.md.trans' a1 fun q E h=>by omega
 have aZ:=aK.trans aJ
 have ch:=a1.size
 have b3:bE Y.heap aU [.int .i64 bg,.int .i64 bh,.int .i64 bi]:=⟨_,aH⟩
 refine nl<|bt<|az fun bu=>ak fun bv=>p mv<|p (lf tx aa aa)<|nl<|bv<|cb aa (fun ax=> ?_) fun ax=> ?_
 obtain ⟨rfl,e,C⟩:pp=none∧∃ e,fF a= .error e:=by rcases bf with h | ⟨_,_,_,_,rfl,_⟩ <;> first | exact h | cases ax
 refine az fun aD=> ?_
 have aq:(fun w'=>Md (fun q=>q=A) Y w') Y.drew:=(Md.refl _ _).drew
 refine cD (fun w'=>Md (fun q=>q=A) Y w') aa wide aq<|aR 0 aa (fun w' I=>cK j4 aa (aa) fun j O=>(Md.B I b3 fun h=>by omega).bp j) aq<|aR 1 aa (fun _ _=>aC) aq<|he 2 aa ag<|gw iF aa aa aa aa (Wk.aE aZ aj) ay fun b7 bK bA=> ?_
 have a7:(fun w'=>Md (fun q=>q=A) Y w') b7:=aq.trans' bK fun q E h=>h
 refine ⟨a7,?_⟩
 exact hn ag<|aD<|rt<|tr<|eU aa ek (dN (cs:= [.int .i64 bg,.int .i64 bh,.int .i64 bi]) aa j4 aa fun j O=>(bj bA).trans<|by match j,O with | 0,_=>rfl | 1,_=>rfl | 2,_=>rfl)<|sh.no (UU C)<|(ap.md.trans aZ).trans' a7 fun q E h=>by omega
 obtain ⟨F,fb,mc,V,rfl,C,am,aY,a5⟩:=bf.resolve_left fun h=>by rw [h.1] at ax; cases ax
 refine aQ<|bu<|ak fun aD=>p mv<|ao (str t)<|e<|cl Lt (N5 ai.heap.size fb mc F V t Y (am.wk aJ) aY a5 b5) aa fun v21 cx bN=> ?_
 have bZ:=N9 bN
 obtain ⟨b6,bk,bl,bm,rfl,bd,al⟩:=bZ
 have cj:=al.size
 refine p mv<|p (xt aa aa)<|p (xt aa aa)<|p aC<|e<|gw iF aa aa aa aa (Wk.aE al aH) (by simp) fun G aO bC=> ?_
 have a0:Wk bo G:=(aJ.trans al).trans' aO fun q E h=>by omega
 have ad:=aK.trans a0
 have co:=aO.size
 have b4:bE G.heap aU [.int .i64 bk,.int .i64 bl,.int .i64 bm]:=⟨_,bC⟩
 refine nl<|aD<|az fun bw=>ak fun bx=>p mv<|p (lf AV aa aa)<|nl<|bx<|cb aa (fun aA=> ?_) fun aA=> ?_
 obtain ⟨rfl,e,hd⟩:b6=none∧∃ e,fw F t= .error e:=by rcases bd with h | ⟨_,_,_,_,_,_,rfl,_⟩ <;> first | exact h | cases aA
 refine az fun aF=> ?_
 have av:(fun w'=>Md (fun q=>q=A) G w') G.drew:=(Md.refl _ _).drew
 refine cD (fun w'=>Md (fun q=>q=A) G w') aa wide av<|aR 0 aa (fun w' I=>cK j4 aa (aa) fun j O=>(Md.B I b4 fun h=>by omega).bp j) av<|aR 1 aa (fun _ _=>aC) av<|he 2 aa ag<|gw iF aa aa aa aa (Wk.aE ad aj) ay fun b8 bL bD=> ?_
 have a8:(fun w'=>Md (fun q=>q=A) G w') b8:=av.trans' bL fun q E h=>h
 refine ⟨a8,?_⟩
 exact hn ag<|aF<|rt<|tr<|eU aa ek (dN (cs:= [.int .i64 bk,.int .i64 bl,.int .i64 bm]) aa j4 aa fun j O=>(bj bD).trans<|by match j,O with | 0,_=>rfl | 1,_=>rfl | 2,_=>rfl)<|sh.no (UW C hd)<|(ap.md.trans ad).trans' a8 fun q E h=>by omega
 obtain ⟨xs,B,wb,mb,va,vs,rfl,hd,ca,bS,cg,cf⟩:=bd.resolve_left fun h=>by rw [h.1] at aA; cases aA
 have aS:=bS.md (L:= [47]) aO (TF.eq (dO<|Wk.aE al aH) ay) ay fun h=>by omega
 have aN:=am.wk a0
 have bV:=Dx (xS C) (BM C) hd
 obtain ⟨seen,aW⟩:=aY
 have bW:=aW.len
 refine aQ<|bw<|ak fun aF=>p mv<|p mv<|p (c7 (ps:= [(0,aV fb),(1,aV wb)]) (L:= [aV fb,aV wb,.int .i64 0,.string ⟨⟨[]⟩⟩,.string ⟨⟨[]⟩⟩,.int .u16 0,.int .u16 0,.int .u16 0,.int .u16 0,.int .u16 0,.int .i64 0,.slice none 0 0,.slice none 0 0,.slice none 0 0,.slice none 0 0,.slice none 0 0]) Ut aa<|aa)<|e<|pR aa fun aG Z cc an aI=> ?_
 have ck:=an.size
 refine aw<|aF<|az fun bz=> ?_
 have c:(fun w'=>Wk Z w') Z.drew:=(Md.refl _ _).drew
 refine eF (fun w'=>Wk Z w') 14 aa wide c<|bB 0 aa (fun _=>mv) (fun _=>c)<|bB 1 aa (fun _=>mv) (fun _=>c)<|bB 2 aa (fun _=>mv) (fun _=>c)<|bB 3 aa (fun _=>nc aa) (fun _=>c)<|bB 4 aa (fun _=>fa vl aa) (fun _=>c)<|ed 5 aa (fun w' I=>ld eT aa<|Wk.aM I<|(bj aI).trans aa) c<|bB 7 aa (fun _=>mv) (fun _=>c)<|bB 8 aa (fun _=>nc aa) (fun _=>c)<|bB 9 aa (fun _=>fa Eg aa) (fun _=>c)<|ed 10 aa (fun w' I=>ld BR aa<|Wk.aM I<|(bj aI).trans aa) c<|iL 6 aa ag<|cl uN (uu ai.heap.size fb mc F V Z.drew ((aN.wk an.md).wk c) (by simp only [gz] at bW; omega) a5) aa fun v37 bq bO=> ?_
 obtain ⟨⟨V2,rfl,bU⟩,hE37⟩:=bO
 have cn:=hE37.size
 have cw:=c.size
 have a9:(fun w'=>Wk Z w') bq:=c.trans hE37
 refine ⟨a9,?_⟩
 refine iL 11 aa ag<|cl Lu (NN B wb mb va vs xs bq (((aS.wk an.md).wk c).wk hE37) ab fun x C=>(bV.1 x C).2.1) aa fun bn aB bP=> ?_
 obtain ⟨⟨ws,bc,bX,_⟩,hE42⟩:=bP
 have cp:=hE42.size
 have ah:=JW bU hE42
 have bb:=Wk.aE hE42<|Wk.aE hE37<|Wk.aE c aI
 have aP:(fun w'=>Wk Z w') aB:=a9.trans hE42
 refine ⟨aP,?_⟩
 refine bB 12 aa (fun _=>nc aa) (fun _=>aP)<|bB 13 aa (fun _=>fa sN aa) (fun _=>aP)<|db 14 aa ag ag<|gw yC aa aa aa (x4 (eQ ah.o9) (eQ ah.gG) (eQ ah.fN)<|eQ ah.ej) bb (by simp) fun cz a3 bH=> ?_
 have cv:=a3.size
 refine bB 15 aa (fun _=>nc aa) (fun h=>dA<|(show true =_ from by kernel_rfl).trans h)<|bB 16 aa (fun _=>fa y1 aa) (fun h=>dA<|(show true =_ from by kernel_rfl).trans h)<|db 17 aa ag ag<|dQ Dk aa aa (v:=bn) (eQ bc) bH (by show 15 < 16; omega) fun aT a2 bG=> ?_
 have cu:=a2.size
 have ac:=a3.trans' a2 fun q E h=>h
 have J:TF aB [107] (fun q=>q=aG):=TF.eq (dO bb) ay
 have bJ:Wk Z aB:=c.trans<|hE37.trans hE42
 have ae:Wk G aB:=an.md.trans bJ
 have aL:Wk G aT:=ae.trans' ac fun q E h=>by omega
 obtain ⟨b9,b0,_⟩:=(aN.wk ae).cm
 obtain ⟨fm,b1,_⟩:=(aS.wk ae).mp
 have bQ:eA aT ai.heap.size aG ⟨fb,mc,wb,mb,V,V2,va,bn,vs,ws⟩ F xs:=⟨bG,(aN.wk ae).md ac J ay (J.no (dD b0) ay),x5 (JU ah ab) ac J ay,Oa ((aS.wk ae).md ac J ay<|J.no (dD b1) ay) ab,fk (c5 bc ac J ay) ab,(bX.md ac fun k hk cur z b2=>J.no (dO b2) ay hk).mono ab⟩
 refine eE ag<|bz<|ak fun bs=>p mv<|p (c7 (ps:= []) (L:= [.int .i64 0,.int .i64 0,.int .i64 0]) rD aa<|aa)<|p aC<|e<|gw iF aa aa aa aa (Wk.aE (ad.trans aL) aj) ay fun cA a4 bI=>nl ?_
 refine bs<|rt<|eU aa ek (dN (cs:= [.int .i64 0,.int .i64 0,.int .i64 0]) aa j4 aa fun j O=>(bj bI).trans<|by match j,O with | 0,_=>rfl | 1,_=>rfl | 2,_=>rfl) ?_
 refine ⟨⟨_,_,_,_,aa,?_⟩,(ap.md.trans<|ad.trans aL).trans' a4 fun q E h=>by omega⟩
 rw [GX C hd]
 have bR:TF aT [47] (fun q=>q=A):=TF.eq (dO<|Wk.aE (ad.trans aL) aj) ay
 exact ⟨ai.heap.size,aG,_,ab,aa,bQ.Fz a4 bR ay (fun h:mc=A=>by have :=am.lo.2; omega) (fun h:mb=A=>by omega),eJ.of C hd ⟨seen,aW⟩ am.js⟩
end Go.Hb
end
section
namespace Go.Hb
open Go.Hb.gi Go.Hb.fU Go.Hb.gL Go.Hb.gT
def gQ (xs:List bh) (n:Int):Tx:=if 0≤n∧n < xs.length then (xs.getD n.toNat ([],[])).1 else []
def qg (F:aB) (n:Int):cC:=if 0≤n∧n < F.rules.length then F.rules.getD n.toNat dp else dp
theorem uz {xs:List bh} {k:Nat} {x:bh} (h:xs[k]? =some x):gQ xs k=x.1∧flagsOf xs k=x.2∧k < xs.length∧xs.getD k ([],[])=x:=by
 have hk:=(eu.1 h).1
 have hd:xs.getD k ([],[])=x:=by rw [cM,h]; rfl
 refine ⟨?_,?_,hk,hd⟩
 · unfold gQ; rw [if_pos ab,jx,hd]
 · unfold flagsOf; rw [if_pos ab,jx,hd]
theorem uA {xs:List bh} {n:Int} (h:¬(0≤n∧n < xs.length)):gQ xs n= []∧flagsOf xs n= []:=by
 unfold gQ flagsOf; rw [if_neg h,if_neg h]; exact ⟨rfl,rfl⟩
theorem Gp {F:aB} {k:Nat} {r:cC} (h:F.rules[k]? =some r):qg F k=r∧bY F k=r.next∧k < F.rules.length∧F.rules.getD k dp=r:=by
 have hk:=(eu.1 h).1
 have hd:F.rules.getD k dp=r:=by rw [cM,h]; rfl
 refine ⟨?_,?_,hk,hd⟩
 · unfold qg; rw [if_pos ab,jx,hd]
 · unfold bY; rw [if_pos ab,jx,hd]
theorem An {F:aB} {n:Int} (h:¬(0≤n∧n < F.rules.length)):qg F n=dp∧bY F n= []:=by
 unfold qg bY; rw [if_neg h,if_neg h]; exact ⟨rfl,rfl⟩
theorem U3 {w:World} {B tb:Nat} {U:eS} {F:aB} {xs:List bh} (h:eA w B tb U F xs) {k:Nat} {x:bh} (G:xs[k]? =some x):∃ A ce a c,U.ve= .slice A xs.length ce∧Hb.aM w.heap tb 15=some (.slice A xs.length ce)∧aG w.heap A (kp<|xs.zip U.ws)∧(xs.zip U.ws)[k]? =some (x,.slice a x.2.length c)∧Tg w B 95 x.2.length (.slice a x.2.length c) (x.2.map aT):=by
 obtain ⟨A,ce,E⟩:=cQ h.oe
 have I:=h.oe
 rw [E] at I
 have hk:=(eu.1 G).1
 obtain ⟨v,J,C⟩:=dw.get h.ef (show k < (xs.map (·.2)).length by rw [eX]; exact hk)
 have O:(xs.map (·.2)).getD k []=x.2:=by rw [cM,eR,G]; rfl
 rw [O] at C
 obtain ⟨a,c,rfl⟩:=C.slice
 exact ⟨A,ce,a,c,E,by rw [← E]; exact (bj h.cells).trans aa,(aU I).2,jh.2 ⟨G,J⟩,C⟩
theorem U4 {w:World} {B tb:Nat} {U:eS} {F:aB} {xs:List bh} (h:eA w B tb U F xs):∃ c ce,Hb.aM w.heap tb 15=some (.slice c xs.length ce):=by
 obtain ⟨c,ce,A⟩:=cQ h.oe
 exact ⟨c,ce,by rw [← A]; exact (bj h.cells).trans aa⟩
theorem U5 {w:World} {B tb:Nat} {U:eS} {F:aB} {xs:List bh} (h:eA w B tb U F xs):∃ ar cr,Hb.aM w.heap tb 14=some (.slice ar F.rules.length cr):=by
 obtain ⟨ar,cr,c⟩:=cQ h.ax.ej
 exact ⟨ar,cr,by rw [← c]; exact (bj h.cells).trans aa⟩
theorem JV {w:World} {B:Nat} {F:aB} {V:dU} (h:nU w B F V) {k:Nat} {r:cC} (C:F.rules[k]? =some r):∃ ar cr a c,V.v12= .slice ar F.rules.length cr∧aG w.heap ar (fP<|F.rules.zip V.rn)∧(F.rules.zip V.rn)[k]? =some (r,.slice a r.next.length c)∧Tg w B 95 r.next.length (.slice a r.next.length c) (r.next.map aT):=by
 obtain ⟨ar,cr,G⟩:=cQ h.ej
 have E:=h.ej
 rw [G] at E
 have hk:=(eu.1 C).1
 obtain ⟨v,I,A⟩:=dw.get h.nx (show k < (F.rules.map (·.next)).length by rw [eX]; exact hk)
 have J:(F.rules.map (·.next)).getD k []=r.next:=by rw [cM,eR,C]; rfl
 rw [J] at A
 obtain ⟨a,c,rfl⟩:=A.slice
 exact ⟨ar,cr,a,c,G,(aU E).2,jh.2 ⟨C,I⟩,A⟩
end Go.Hb
end
namespace Go.Hb
def To:Go.Shelf.Ren:=⟨fun n=>if n=125 then 66 else if n=128 then 123 else if n=129 then 124 else if n=189 then 143 else if n=215 then 177 else if n=216 then 249 else if n=257 then 208 else if n=294 then 243 else if n=295 then 244 else if n=296 then 245 else if n=297 then 246 else if n=298 then 247 else if n=299 then 248 else if n=300 then 250 else if n=301 then 251 else if n=328 then 269 else if n=329 then 184 else if n=330 then 185 else if n=331 then 270 else if n=332 then 271 else if n=343 then 293 else 0,fun n=>if n=0 then 0 else if n=3 then 3 else if n=4 then 4 else if n=5 then 5 else if n=9 then 9 else if n=28 then 85 else if n=46 then 145 else if n=51 then 240 else if n=53 then 242 else if n=131 then 237 else if n=182 then 232 else if n=183 then 233 else if n=218 then 287 else if n=222 then 291 else if n=228 then 335 else if n=229 then 219 else 0,fun n=>n⟩
theorem Ff:Go.Proofs.Lays.n189 au To where
 mixed:=ag
 f125:=ag
 f128:=ag
 f129:=ag
 f189:=ag
 f215:=ag
 f216:=ag
 f257:=ag
 f294:=ag
 f295:=ag
 f296:=ag
 f297:=ag
 f298:=ag
 f299:=ag
 f300:=ag
 f301:=ag
 f328:=ag
 f329:=ag
 f330:=ag
 f331:=ag
 f332:=ag
 f343:=ag
 t0:=ag
 a0:=fun _=>ag
 z0:=fun _=>ag
 v0:=fun _=>ag
 t3:=ag
 a3:=fun _=>ag
 z3:=fun _=>ag
 v3:=fun _=>ag
 t4:=ag
 a4:=fun _=>ag
 z4:=fun _=>ag
 v4:=fun _=>ag
 t5:=ag
 a5:=fun _=>ag
 z5:=fun _=>ag
 v5:=fun _=>ag
 t9:=ag
 a9:=fun _=>ag
 z9:=fun _=>ag
 v9:=fun _=>ag
 t28:=ag
 a28:=fun _=>ag
 z28:=fun _=>ag
 v28:=fun _=>ag
 t46:=ag
 a46:=fun _=>ag
 z46:=fun _=>ag
 v46:=fun _=>ag
 t51:=ag
 a51:=fun _=>ag
 z51:=fun _=>ag
 v51:=fun _=>ag
 t53:=ag
 a53:=fun _=>ag
 z53:=fun _=>ag
 v53:=fun _=>ag
 t131:=ag
 a131:=fun _=>ag
 z131:=fun _=>ag
 v131:=fun _=>ag
 t182:=ag
 a182:=fun _=>ag
 z182:=fun _=>ag
 v182:=fun _=>ag
 t183:=ag
 a183:=fun _=>ag
 z183:=fun _=>ag
 v183:=fun _=>ag
 t218:=ag
 a218:=fun _=>ag
 z218:=fun _=>ag
 v218:=fun _=>ag
 t222:=ag
 a222:=fun _=>ag
 z222:=fun _=>ag
 v222:=fun _=>ag
 t228:=ag
 a228:=fun _=>ag
 z228:=fun _=>ag
 v228:=fun _=>ag
 t229:=ag
 a229:=fun _=>ag
 z229:=fun _=>ag
 v229:=fun _=>ag
theorem Uh (B n:Nat) (v:Value) (c:List Int) (w:World) (E:bm w B 3 1 v n (c.map<|ff .i64)) (V:c.length≤1048576):
 ba au 143 [v].toArray w (fun O w'=>O= .tuple #[]∧bm w' B 3 1 v n ((c.mergeSort fun x y=>decide (x≤y)).map<|ff .i64)∧Md (fun k=>v.ownBlock=some k) w w'):=by
 have hn:c.length=n:=by have :=E.1; simpa using this
 have hlen:(c.mergeSort fun x y=>decide (x≤y)).length=c.length:=List.length_mergeSort _
 rcases E.2 with ⟨rfl,Y⟩ | ⟨g,cap,cur,rfl,G,C,h1,h2,h3,h4⟩
 · have J:c= []:=fR ab
   subst J
   refine ju (Any.slices_Sort_int_none Ff none 0 w) ?_
   rintro e w' ⟨rfl,rfl⟩
   exact ⟨_,aa,aa,by rw [List.mergeSort_nil]; exact E,Md.refl _ _⟩
 · subst hn
   rw [Nat.mul_one] at h4
   refine ju (calls_of_every_depth fun D=>AnyS.slices_Sort_int_alone Ff D g 0 cap c w (holds_of_blockI C h4) (cY.1 C).1 ab) ?_
   rintro e w' ⟨rfl,m,os,rfl⟩
   have A:=grownBy_sortedI (w:=w) (g:=g) (n:=m) (os:=os) (c.mergeSort fun x y=>decide (x≤y)).toArray
   refine ⟨_,aa,aa,ownsRow_sortedI hlen G C h1 h2 h3,⟨A.os,A.output,A.size,fun k hk I=>A.block k hk fun he=>I ?_⟩⟩
   simp only [iz]; exact he.symm
end Go.Hb
