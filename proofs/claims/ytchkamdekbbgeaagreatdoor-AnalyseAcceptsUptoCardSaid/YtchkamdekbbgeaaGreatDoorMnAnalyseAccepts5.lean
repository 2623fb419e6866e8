/-
  Walks and plain laws that the law rests on, laid together. No conditions but those that each theorem names.
-/
import Derived.Test.YtchkamdekbbgeaaGreatDoorMnAnalyseAccepts4
set_option linter.unusedVariables false
set_option maxRecDepth 20000
set_option maxHeartbeats 1000000
open Array renaming getElem?_eq_some_iff→dD
open Bool renaming or_eq_false_iff→po
open Classical renaming byContradiction→tj,not_not→jG
open Go renaming Addr→bF,Value→ag,World→ak
open Go.Proofs.Tryz renaming prog→az
open Go.Value renaming bool→bR,oneCell'→fX,ownBlock→jS,slice→bQ,tuple→gR
open Go.World renaming ownsRow→bo,ownsRow_nil→dE
open Int renaming toNat_natCast→kg
open List renaming all_cons→uX,all_eq_true→lV,append_assoc→eX,append_nil→ez,count_eq_zero→sx,count_le_length→uY,drop_drop→tA,drop_eq_getElem_cons→MB,drop_eq_nil_of_le→iR,eq_nil_of_length_eq_zero→fY,ext_getElem?→qe,getD_eq_getElem?_getD→cH,getElem?_append_left→mX,getElem?_append_right→nN,getElem?_cons_zero→Aa,getElem?_drop→rh,getElem?_eq_getElem→bY,getElem?_eq_none_iff→MP,getElem?_eq_some_iff→ff,getElem?_map→fJ,getElem?_set→mr,getElem?_take→oG,getElem?_zip_eq_some→j7,length→jr,length_append→bG,length_cons→cC,length_drop→fP,length_map→fC,length_nil→gr,length_pos_iff→mu,length_set→xw,length_singleton→fg,length_take→dJ,length_zip→Ae,map_append→gS,map_cons→pF,mem_cons→fi,mem_cons_of_mem→nO,mem_cons_self→mY,mem_filter→qh,mem_flatMap→pG,mem_map→je,mem_of_getElem?→gB,mem_of_mem_take→MW,not_mem_nil→xz,of_mem_zip→Ah,take_of_length_le→eY,toArray→a7
open Nat renaming le_refl→cE,le_trans→e7,lt_or_ge→fG
open Option.some renaming inj→vj
open Prod renaming snd→my
open UInt8 renaming toNat_inj→lC,toNat_lt→js
open Go.Proofs.Tryz
open Go.Hb.dP Go.Proofs Go.Hb.eH Go.Hb.fj Go.Hb.mz Go.Hb.oI Go.Hb.kA Go.Hb.fZ

namespace Go.Hb
theorem S2 (B:Nat) (H:dw) (F:aE) (rows:List Rw) (ln:Nat) (seen:List Tx) (r:List Tx) (A:Nat) (ar:Option bF) (cr:Nat) (w:ak) (C:St w B H F rows ln seen) (hT:Tg w A 9 r.length (.slice ar r.length cr) (r.map str)) (E:∀ x∈r,x.length≤70000) (hw:r.length=width (r.getD 0 [])) (J:kR F seen) (I:width (r.getD 0 [])=2→r.getD 0 []∉seen) (G:F.dp.length+F.aliases.length+F.bw.length+F.rules.length+rows.length < 70000) (hk:r.getD 0 []=iN):fR az 127 (a7 [.pointer (some ⟨H.rb,0,none⟩),.slice ar r.length cr]) w (jV B H seen (ca H.eof F seen rows ln r) w) (jU B H (ca H.eof F seen rows ln r) w):=by
 have h:=Ui B H F rows ln seen r A ar cr w C hT (by rw [hw,hk]; decide) E;rw [show ca H.eof F seen rows ln r=kI F seen rows ln r from by unfold ca; rw [hk]; rfl];exact h
theorem Ta (B:Nat) (H:dw) (F:aE) (rows:List Rw) (ln:Nat) (seen:List Tx) (r:List Tx) (A:Nat) (ar:Option bF) (cr:Nat) (w:ak) (C:St w B H F rows ln seen) (hT:Tg w A 9 r.length (.slice ar r.length cr) (r.map str)) (E:∀ x∈r,x.length≤70000) (hw:r.length=width (r.getD 0 [])) (J:kR F seen) (I:width (r.getD 0 [])=2→r.getD 0 []∉seen) (G:F.dp.length+F.aliases.length+F.bw.length+F.rules.length+rows.length < 70000) (hk:r.getD 0 []=ja):fR az 128 (a7 [.pointer (some ⟨H.rb,0,none⟩),.slice ar r.length cr]) w (jV B H seen (ca H.eof F seen rows ln r) w) (jU B H (ca H.eof F seen rows ln r) w):=by
 have h:=OS B H F rows ln seen r A ar cr w C hT (by rw [hw,hk]; decide) E;rw [show ca H.eof F seen rows ln r=mP F rows ln r from by unfold ca; rw [hk]; rfl];exact h
theorem Tc (B:Nat) (H:dw) (F:aE) (rows:List Rw) (ln:Nat) (seen:List Tx) (r:List Tx) (A:Nat) (ar:Option bF) (cr:Nat) (w:ak) (C:St w B H F rows ln seen) (hT:Tg w A 9 r.length (.slice ar r.length cr) (r.map str)) (E:∀ x∈r,x.length≤70000) (hw:r.length=width (r.getD 0 [])) (J:kR F seen) (I:width (r.getD 0 [])=2→r.getD 0 []∉seen) (G:F.dp.length+F.aliases.length+F.bw.length+F.rules.length+rows.length < 70000) (hk:r.getD 0 []=jj):fR az 129 (a7 [.pointer (some ⟨H.rb,0,none⟩),.slice ar r.length cr]) w (jV B H seen (ca H.eof F seen rows ln r) w) (jU B H (ca H.eof F seen rows ln r) w):=by
 have h:=YG B H F rows ln seen r A ar cr w C hT (by rw [hw,hk]; decide) E;rw [show ca H.eof F seen rows ln r=mT F rows ln r from by unfold ca; rw [hk]; rfl];exact h
theorem S6 (B:Nat) (H:dw) (F:aE) (rows:List Rw) (ln:Nat) (seen:List Tx) (r:List Tx) (A:Nat) (ar:Option bF) (cr:Nat) (w:ak) (C:St w B H F rows ln seen) (hT:Tg w A 9 r.length (.slice ar r.length cr) (r.map str)) (G:∀ x∈r,x.length≤70000) (hw:r.length=width (r.getD 0 [])) (I:kR F seen) (E:width (r.getD 0 [])=2→r.getD 0 []∉seen) (J:F.dp.length+F.aliases.length+F.bw.length+F.rules.length+rows.length < 70000) (hk:r.getD 0 []=kH):fR az 130 (a7 [.pointer (some ⟨H.rb,0,none⟩),.slice ar r.length cr]) w (jV B H seen (ca H.eof F seen rows ln r) w) (jU B H (ca H.eof F seen rows ln r) w):=by
 have h:=wV B H F rows ln seen r A ar cr w C hT (by rw [hw,hk]; decide) G (by rw [hk]; decide)<|I _ (by rw [hk]; decide)<|E<|by rw [hk]; decide
 rw [show ca H.eof F seen rows ln r=kp F rows ln r from by unfold ca; rw [hk]; rfl];exact h
theorem S3 (B:Nat) (H:dw) (F:aE) (rows:List Rw) (ln:Nat) (seen:List Tx) (r:List Tx) (A:Nat) (ar:Option bF) (cr:Nat) (w:ak) (C:St w B H F rows ln seen) (hT:Tg w A 9 r.length (.slice ar r.length cr) (r.map str)) (G:∀ x∈r,x.length≤70000) (hw:r.length=width (r.getD 0 [])) (I:kR F seen) (E:width (r.getD 0 [])=2→r.getD 0 []∉seen) (J:F.dp.length+F.aliases.length+F.bw.length+F.rules.length+rows.length < 70000) (hk:r.getD 0 []=kW):fR az 130 (a7 [.pointer (some ⟨H.rb,0,none⟩),.slice ar r.length cr]) w (jV B H seen (ca H.eof F seen rows ln r) w) (jU B H (ca H.eof F seen rows ln r) w):=by
 have h:=wV B H F rows ln seen r A ar cr w C hT (by rw [hw,hk]; decide) G (by rw [hk]; decide)<|I _ (by rw [hk]; decide)<|E<|by rw [hk]; decide
 rw [show ca H.eof F seen rows ln r=kp F rows ln r from by unfold ca; rw [hk]; rfl];exact h
theorem S4 (B:Nat) (H:dw) (F:aE) (rows:List Rw) (ln:Nat) (seen:List Tx) (r:List Tx) (A:Nat) (ar:Option bF) (cr:Nat) (w:ak) (C:St w B H F rows ln seen) (hT:Tg w A 9 r.length (.slice ar r.length cr) (r.map str)) (G:∀ x∈r,x.length≤70000) (hw:r.length=width (r.getD 0 [])) (I:kR F seen) (E:width (r.getD 0 [])=2→r.getD 0 []∉seen) (J:F.dp.length+F.aliases.length+F.bw.length+F.rules.length+rows.length < 70000) (hk:r.getD 0 []=lk):fR az 130 (a7 [.pointer (some ⟨H.rb,0,none⟩),.slice ar r.length cr]) w (jV B H seen (ca H.eof F seen rows ln r) w) (jU B H (ca H.eof F seen rows ln r) w):=by
 have h:=wV B H F rows ln seen r A ar cr w C hT (by rw [hw,hk]; decide) G (by rw [hk]; decide)<|I _ (by rw [hk]; decide)<|E<|by rw [hk]; decide
 rw [show ca H.eof F seen rows ln r=kp F rows ln r from by unfold ca; rw [hk]; rfl];exact h
theorem S1 (B:Nat) (H:dw) (F:aE) (rows:List Rw) (ln:Nat) (seen:List Tx) (r:List Tx) (A:Nat) (ar:Option bF) (cr:Nat) (w:ak) (C:St w B H F rows ln seen) (hT:Tg w A 9 r.length (.slice ar r.length cr) (r.map str)) (G:∀ x∈r,x.length≤70000) (hw:r.length=width (r.getD 0 [])) (I:kR F seen) (E:width (r.getD 0 [])=2→r.getD 0 []∉seen) (J:F.dp.length+F.aliases.length+F.bw.length+F.rules.length+rows.length < 70000) (hk:r.getD 0 []=lP):fR az 130 (a7 [.pointer (some ⟨H.rb,0,none⟩),.slice ar r.length cr]) w (jV B H seen (ca H.eof F seen rows ln r) w) (jU B H (ca H.eof F seen rows ln r) w):=by
 have h:=wV B H F rows ln seen r A ar cr w C hT (by rw [hw,hk]; decide) G (by rw [hk]; decide)<|I _ (by rw [hk]; decide)<|E<|by rw [hk]; decide
 rw [show ca H.eof F seen rows ln r=kp F rows ln r from by unfold ca; rw [hk]; rfl];exact h
theorem S7 (B:Nat) (H:dw) (F:aE) (rows:List Rw) (ln:Nat) (seen:List Tx) (r:List Tx) (A:Nat) (ar:Option bF) (cr:Nat) (w:ak) (C:St w B H F rows ln seen) (hT:Tg w A 9 r.length (.slice ar r.length cr) (r.map str)) (G:∀ x∈r,x.length≤70000) (hw:r.length=width (r.getD 0 [])) (I:kR F seen) (E:width (r.getD 0 [])=2→r.getD 0 []∉seen) (J:F.dp.length+F.aliases.length+F.bw.length+F.rules.length+rows.length < 70000) (hk:r.getD 0 []=l8):fR az 130 (a7 [.pointer (some ⟨H.rb,0,none⟩),.slice ar r.length cr]) w (jV B H seen (ca H.eof F seen rows ln r) w) (jU B H (ca H.eof F seen rows ln r) w):=by
 have h:=wV B H F rows ln seen r A ar cr w C hT (by rw [hw,hk]; decide) G (by rw [hk]; decide)<|I _ (by rw [hk]; decide)<|E<|by rw [hk]; decide
 rw [show ca H.eof F seen rows ln r=kp F rows ln r from by unfold ca; rw [hk]; rfl];exact h
theorem S5 (B:Nat) (H:dw) (F:aE) (rows:List Rw) (ln:Nat) (seen:List Tx) (r:List Tx) (A:Nat) (ar:Option bF) (cr:Nat) (w:ak) (C:St w B H F rows ln seen) (hT:Tg w A 9 r.length (.slice ar r.length cr) (r.map str)) (E:∀ x∈r,x.length≤70000) (hw:r.length=width (r.getD 0 [])) (J:kR F seen) (I:width (r.getD 0 [])=2→r.getD 0 []∉seen) (G:F.dp.length+F.aliases.length+F.bw.length+F.rules.length+rows.length < 70000) (hk:r.getD 0 []=kG):fR az 131 (a7 [.pointer (some ⟨H.rb,0,none⟩),.slice ar r.length cr]) w (jV B H seen (ca H.eof F seen rows ln r) w) (jU B H (ca H.eof F seen rows ln r) w):=by
 have h:=Um B H F rows ln seen r A ar cr w C hT (by rw [hw,hk]; decide) E;rw [show ca H.eof F seen rows ln r=kX F rows ln r from by unfold ca; rw [hk]; rfl];exact h
theorem S9 (B:Nat) (H:dw) (F:aE) (rows:List Rw) (ln:Nat) (seen:List Tx) (r:List Tx) (A:Nat) (ar:Option bF) (cr:Nat) (w:ak) (C:St w B H F rows ln seen) (hT:Tg w A 9 r.length (.slice ar r.length cr) (r.map str)) (E:∀ x∈r,x.length≤70000) (hw:r.length=width (r.getD 0 [])) (J:kR F seen) (I:width (r.getD 0 [])=2→r.getD 0 []∉seen) (G:F.dp.length+F.aliases.length+F.bw.length+F.rules.length+rows.length < 70000) (hk:r.getD 0 []=fA):fR az 132 (a7 [.pointer (some ⟨H.rb,0,none⟩),.slice ar r.length cr]) w (jV B H seen (ca H.eof F seen rows ln r) w) (jU B H (ca H.eof F seen rows ln r) w):=by
 have h:=WG B H F rows ln seen r A ar cr w C hT (by rw [hw,hk]; decide) E;rw [show ca H.eof F seen rows ln r=ko H.eof F rows ln r from by unfold ca; rw [hk]; rfl];exact h
theorem SZ (B:Nat) (H:dw) (F:aE) (rows:List Rw) (ln:Nat) (seen:List Tx) (r:List Tx) (A:Nat) (ar:Option bF) (cr:Nat) (w:ak) (C:St w B H F rows ln seen) (hT:Tg w A 9 r.length (.slice ar r.length cr) (r.map str)) (E:∀ x∈r,x.length≤70000) (hw:r.length=width (r.getD 0 [])) (J:kR F seen) (I:width (r.getD 0 [])=2→r.getD 0 []∉seen) (G:F.dp.length+F.aliases.length+F.bw.length+F.rules.length+rows.length < 70000) (hk:r.getD 0 []=eN):fR az 133 (a7 [.pointer (some ⟨H.rb,0,none⟩),.slice ar r.length cr]) w (jV B H seen (ca H.eof F seen rows ln r) w) (jU B H (ca H.eof F seen rows ln r) w):=by
 have h:=NP B H F rows ln seen r A ar cr w C hT (by rw [hw,hk]; decide) E;rw [show ca H.eof F seen rows ln r=j9 H.eof F seen rows ln r from by unfold ca; rw [hk]; rfl];exact h
theorem S8 (B:Nat) (H:dw) (F:aE) (rows:List Rw) (ln:Nat) (seen:List Tx) (r:List Tx) (A:Nat) (ar:Option bF) (cr:Nat) (w:ak) (C:St w B H F rows ln seen) (hT:Tg w A 9 r.length (.slice ar r.length cr) (r.map str)) (G:∀ x∈r,x.length≤70000) (hw:r.length=width (r.getD 0 [])) (J:kR F seen) (I:width (r.getD 0 [])=2→r.getD 0 []∉seen) (E:F.dp.length+F.aliases.length+F.bw.length+F.rules.length+rows.length < 70000) (hk:r.getD 0 []=fU):fR az 134 (a7 [.pointer (some ⟨H.rb,0,none⟩),.slice ar r.length cr]) w (jV B H seen (ca H.eof F seen rows ln r) w) (jU B H (ca H.eof F seen rows ln r) w):=by
 have h:=FI B H F rows ln seen r A ar cr w C hT (by rw [hw,hk]; decide) G E;rw [show ca H.eof F seen rows ln r=hU H.eof F rows ln r from by unfold ca; rw [hk]; rfl];exact h
theorem Tb (B:Nat) (H:dw) (F:aE) (rows:List Rw) (ln:Nat) (seen:List Tx) (r:List Tx) (A:Nat) (ar:Option bF) (cr:Nat) (w:ak) (C:St w B H F rows ln seen) (hT:Tg w A 9 r.length (.slice ar r.length cr) (r.map str)) (G:∀ x∈r,x.length≤70000) (hw:r.length=width (r.getD 0 [])) (J:kR F seen) (I:width (r.getD 0 [])=2→r.getD 0 []∉seen) (E:F.dp.length+F.aliases.length+F.bw.length+F.rules.length+rows.length < 70000) (hk:r.getD 0 []=dt):fR az 134 (a7 [.pointer (some ⟨H.rb,0,none⟩),.slice ar r.length cr]) w (jV B H seen (ca H.eof F seen rows ln r) w) (jU B H (ca H.eof F seen rows ln r) w):=by
 have h:=FI B H F rows ln seen r A ar cr w C hT (by rw [hw,hk]; decide) G E;rw [show ca H.eof F seen rows ln r=hU H.eof F rows ln r from by unfold ca; rw [hk]; rfl];exact h
theorem Ig (B:Nat) (H:dw) (F:aE) (rows:List Rw) (ln:Nat) (seen:List Tx) (r:List Tx) (C:Nat) (ar:Option bF) (cr:Nat) (w:ak) (E:St w B H F rows ln seen) (hT:Tg w C 9 r.length (.slice ar r.length cr) (r.map str)) (J:∀ x∈r,x.length≤70000) (hw:r.length=width (r.getD 0 [])) (O:kR F seen) (I:width (r.getD 0 [])=2→r.getD 0 []∉seen) (G:F.dp.length+F.aliases.length+F.bw.length+F.rules.length+rows.length < 70000) {v:ag} (A:iZ (r.getD 0 [])=some v):∃ f:Nat,v= .agg [.int .i64 (width (r.getD 0 []):Nat),.func (.func f) #[] #[]].toArray∧gC az f∧fR az f (a7 [.pointer (some ⟨H.rb,0,none⟩),.slice ar r.length cr]) w (jV B H seen (ca H.eof F seen rows ln r) w) (jU B H (ca H.eof F seen rows ln r) w):=by
 unfold iZ at A;by_cases hk:r.getD 0 []=dt
 · rw [if_pos hk] at A; cases A; exact ⟨_,by rw [hk]; rfl,Fs,Tb B H F rows ln seen r C ar cr w E hT J hw O I G hk⟩
 · rw [if_neg hk] at A; clear hk;by_cases hk:r.getD 0 []=fU
   · rw [if_pos hk] at A; cases A; exact ⟨_,by rw [hk]; rfl,Fs,S8 B H F rows ln seen r C ar cr w E hT J hw O I G hk⟩
   · rw [if_neg hk] at A; clear hk;by_cases hk:r.getD 0 []=eN
     · rw [if_pos hk] at A; cases A; exact ⟨_,by rw [hk]; rfl,OC,SZ B H F rows ln seen r C ar cr w E hT J hw O I G hk⟩
     · rw [if_neg hk] at A; clear hk;by_cases hk:r.getD 0 []=fA
       · rw [if_pos hk] at A; cases A; exact ⟨_,by rw [hk]; rfl,OB,S9 B H F rows ln seen r C ar cr w E hT J hw O I G hk⟩
       · rw [if_neg hk] at A; clear hk;by_cases hk:r.getD 0 []=kG
         · rw [if_pos hk] at A; cases A; exact ⟨_,by rw [hk]; rfl,OA,S5 B H F rows ln seen r C ar cr w E hT J hw O I G hk⟩
         · rw [if_neg hk] at A; clear hk;by_cases hk:r.getD 0 []=l8
           · rw [if_pos hk] at A; cases A; exact ⟨_,by rw [hk]; rfl,vB,S7 B H F rows ln seen r C ar cr w E hT J hw O I G hk⟩
           · rw [if_neg hk] at A; clear hk;by_cases hk:r.getD 0 []=lP
             · rw [if_pos hk] at A; cases A; exact ⟨_,by rw [hk]; rfl,vB,S1 B H F rows ln seen r C ar cr w E hT J hw O I G hk⟩
             · rw [if_neg hk] at A; clear hk;by_cases hk:r.getD 0 []=lk
               · rw [if_pos hk] at A; cases A; exact ⟨_,by rw [hk]; rfl,vB,S4 B H F rows ln seen r C ar cr w E hT J hw O I G hk⟩
               · rw [if_neg hk] at A; clear hk;by_cases hk:r.getD 0 []=kW
                 · rw [if_pos hk] at A; cases A; exact ⟨_,by rw [hk]; rfl,vB,S3 B H F rows ln seen r C ar cr w E hT J hw O I G hk⟩
                 · rw [if_neg hk] at A; clear hk;by_cases hk:r.getD 0 []=kH
                   · rw [if_pos hk] at A; cases A; exact ⟨_,by rw [hk]; rfl,vB,S6 B H F rows ln seen r C ar cr w E hT J hw O I G hk⟩
                   · rw [if_neg hk] at A; clear hk;by_cases hk:r.getD 0 []=jj
                     · rw [if_pos hk] at A; cases A; exact ⟨_,by rw [hk]; rfl,Oz,Tc B H F rows ln seen r C ar cr w E hT J hw O I G hk⟩
                     · rw [if_neg hk] at A; clear hk;by_cases hk:r.getD 0 []=ja
                       · rw [if_pos hk] at A; cases A; exact ⟨_,by rw [hk]; rfl,Oy,Ta B H F rows ln seen r C ar cr w E hT J hw O I G hk⟩
                       · rw [if_neg hk] at A; clear hk;by_cases hk:r.getD 0 []=iN
                         · rw [if_pos hk] at A; cases A; exact ⟨_,by rw [hk]; rfl,Ox,S2 B H F rows ln seen r C ar cr w E hT J hw O I G hk⟩
                         · rw [if_neg hk] at A; clear hk;cases A
theorem Ic {s:Tx} (A:iZ s=none):width s=0:=by
 unfold iZ at A;by_cases ac:s=dt
 · rw [if_pos ac] at A; cases A
 · rw [if_neg ac] at A;by_cases Z:s=fU
   · rw [if_pos Z] at A; cases A
   · rw [if_neg Z] at A;by_cases C:s=eN
     · rw [if_pos C] at A; cases A
     · rw [if_neg C] at A;by_cases aa:s=fA
       · rw [if_pos aa] at A; cases A
       · rw [if_neg aa] at A;by_cases O:s=kG
         · rw [if_pos O] at A; cases A
         · rw [if_neg O] at A;by_cases Y:s=l8
           · rw [if_pos Y] at A; cases A
           · rw [if_neg Y] at A;by_cases E:s=lP
             · rw [if_pos E] at A; cases A
             · rw [if_neg E] at A;by_cases J:s=lk
               · rw [if_pos J] at A; cases A
               · rw [if_neg J] at A;by_cases I:s=kW
                 · rw [if_pos I] at A; cases A
                 · rw [if_neg I] at A;by_cases V:s=kH
                   · rw [if_pos V] at A; cases A
                   · rw [if_neg V] at A;by_cases ae:s=jj
                     · rw [if_pos ae] at A; cases A
                     · rw [if_neg ae] at A;by_cases ab:s=ja
                       · rw [if_pos ab] at A; cases A
                       · rw [if_neg ab] at A;by_cases G:s=iN
                         · rw [if_pos G] at A; cases A
                         · rw [if_neg G] at A;unfold width eh; simp [G,ab,ae,V,I,J,E,Y,O,aa,C,Z,ac]
theorem BV (s:Tx):iZ s=none∨∃ (wd f:Nat),iZ s=some (Value.agg #[.int .i64 (wd:Nat),.func (.func f) #[] #[]])∧width s=wd∧wd≠0:=by
 by_cases A:s=dt
 · exact .inr ⟨4,134,by unfold iZ; rw [if_pos A],by rw [A]; decide,aw⟩
 by_cases C:s=fU
 · exact .inr ⟨4,134,by unfold iZ; rw [if_neg A,if_pos C],by rw [C]; decide,aw⟩
 by_cases E:s=eN
 · exact .inr ⟨2,133,by unfold iZ; rw [if_neg A,if_neg C,if_pos E],by rw [E]; decide,aw⟩
 by_cases G:s=fA
 · exact .inr ⟨2,132,by unfold iZ; rw [if_neg A,if_neg C,if_neg E,if_pos G],by rw [G]; decide,aw⟩
 by_cases I:s=kG
 · exact .inr ⟨2,131,by unfold iZ; rw [if_neg A,if_neg C,if_neg E,if_neg G,if_pos I],by rw [I]; decide,aw⟩
 by_cases J:s=l8
 · exact .inr ⟨2,130,by unfold iZ; rw [if_neg A,if_neg C,if_neg E,if_neg G,if_neg I,if_pos J],by rw [J]; decide,aw⟩
 by_cases O:s=lP
 · exact .inr ⟨2,130,by unfold iZ; rw [if_neg A,if_neg C,if_neg E,if_neg G,if_neg I,if_neg J,if_pos O],by rw [O]; decide,aw⟩
 by_cases V:s=lk
 · exact .inr ⟨2,130,by unfold iZ; rw [if_neg A,if_neg C,if_neg E,if_neg G,if_neg I,if_neg J,if_neg O,if_pos V],by rw [V]; decide,aw⟩
 by_cases Y:s=kW
 · exact .inr ⟨2,130,by unfold iZ; rw [if_neg A,if_neg C,if_neg E,if_neg G,if_neg I,if_neg J,if_neg O,if_neg V,if_pos Y],by rw [Y]; decide,aw⟩
 by_cases Z:s=kH
 · exact .inr ⟨2,130,by unfold iZ; rw [if_neg A,if_neg C,if_neg E,if_neg G,if_neg I,if_neg J,if_neg O,if_neg V,if_neg Y,if_pos Z],by rw [Z]; decide,aw⟩
 by_cases aa:s=jj
 · exact .inr ⟨2,129,by unfold iZ; rw [if_neg A,if_neg C,if_neg E,if_neg G,if_neg I,if_neg J,if_neg O,if_neg V,if_neg Y,if_neg Z,if_pos aa],by rw [aa]; decide,aw⟩
 by_cases ab:s=ja
 · exact .inr ⟨2,128,by unfold iZ; rw [if_neg A,if_neg C,if_neg E,if_neg G,if_neg I,if_neg J,if_neg O,if_neg V,if_neg Y,if_neg Z,if_neg aa,if_pos ab],by rw [ab]; decide,aw⟩
 by_cases ac:s=iN
 · exact .inr ⟨2,127,by unfold iZ; rw [if_neg A,if_neg C,if_neg E,if_neg G,if_neg I,if_neg J,if_neg O,if_neg V,if_neg Y,if_neg Z,if_neg aa,if_neg ab,if_pos ac],by rw [ac]; decide,aw⟩
 refine .inl ?_;unfold iZ;rw [if_neg A,if_neg C,if_neg E,if_neg G,if_neg I,if_neg J,if_neg O,if_neg V,if_neg Y,if_neg Z,if_neg aa,if_neg ab,if_neg ac]
theorem Sr {α:Type} {l:List α} {i:Nat} {d:α} (h:i < l.length):l.getD i d∈l:=by
 rw [cH,bY h]; exact List.getElem_mem h
def kn (n:Nat) (A:List (List UInt8)):List (Nat×List UInt8):=(A.zipIdx n).map fun q=>(q.2,q.1)
theorem Vv (n:Nat) (l:List UInt8) (A:List (List UInt8)):kn n (l::A)=(n,l)::kn (n+1) A:=by simp [kn,List.zipIdx_cons]
theorem Vw (n:Nat):kn n []= []:=rfl
theorem Cy (n:Nat) (A:List (List UInt8)):(kn n A).map my=A:=by
 unfold kn; rw [List.map_map]; exact List.zipIdx_map_fst n A
theorem Jo (n:Nat) (A:List (List UInt8)):(kn n A).length=A.length:=by simp [kn]
def x7 (x:Nat×List UInt8):Array ag:= #[.int .i64 x.1,str x.2]
theorem Cx {A:List (List UInt8)} {n:Nat} {pre:List (Nat×List UInt8)} {x:Nat×List UInt8} {rest:List (Nat×List UInt8)} (h:kn n A=pre++x::rest):pre.length < A.length∧x.1=n+pre.length∧A=pre.map my++x.2::rest.map my:=by
 have h1:=congrArg jr h;rw [Jo,bG,cC] at h1;have h2:=congrArg (List.map my) h;rw [Cy,gS,pF] at h2;refine ⟨ab,?_,h2⟩;have h3:=congrArg (fun l=>l[pre.length]?) h;simp only [kn,fJ,List.getElem?_zipIdx,nN (cE _),Nat.sub_self,Aa] at h3;cases h4:A[pre.length]? with
 | none=>rw [h4] at h3; cases h3
 | some q=>rw [h4] at h3; cases h3; rfl
theorem Gw (s:List UInt8) (w:ak):
 ba az 125 (a7 [str s]) w (fun v w'=> ∃ b,v= .func (.func 189) #[] #[bj b]∧w.heap.size≤b∧w'.heap[b]? =some (.cells [str s].toArray 9 (0,0))∧Wk w w'):=by
 exact enter func125 aa ntmps125 aa<|bg 2 aa<|e<|vz aa aa fun A I G E C=>au 5 aa<|p Co<|aC 4 aa<|aR aa<|⟨A,aa,ab,C,E.md⟩
theorem Q6 (s:List UInt8) (b:Nat) (hs:s.length≤65536) (l:Nat) (A:List (Nat×List UInt8)→ak→Prop) (w:ak) (Y:A [] w) (am:∀ pre W,A pre W→W.heap[b]? =some (.cells [str s].toArray 9 (0,0))) (dY:∀ pre C O,A pre C→Wk C O→A pre O) (aq:∀ pre x rest C,(kn 1<|bL s)=pre++x::rest→A pre C→YieldAt Fence.wide 0 az l (x7 x) C fun e W'=>e= .returned (.bool true)∧A (pre++ [x]) W'):
 ba az 189 (a7 [.func (.yield l) #[] #[],bj b]) w (fun v w'=>A (kn 1<|bL s) w'):=by
 have ac:=am _ _ Y;refine enter func189 aa ntmps189 aa<|bg 3 aa<|p (ld1 aa<|(a8 ac).trans aa)<|aQ 4 aa<|cd aa (fun h=>absurd h ab) fun av=>aH 4 aa<|p (ld1 aa<|(a8 ac).trans aa)<|e<|aM (K6 s rQ _ ab aw) aa ?_;rintro v12 aF ⟨rfl,ag⟩;refine aQ 9 aa<|lp (fun V J I=> ∃ (r:List UInt8) (pre:List (Nat×List UInt8)),(r.length≤s.length)∧((kn 1<|bL s)=pre++kn (pre.length+1) (gz [] r))∧(A pre I)∧(pre.length≤s.length)∧(J 4=ay (pre.length+1))∧(Sl J [(0,.func (.yield l) #[] #[]),(3,str r)])∧(r.length=V)) _ ⟨mV s,[],(zA s),aa,(dY _ _ _ Y ag),(Nat.zero_le _),(iv<|by first | rfl | (rw [bG]; rfl)),aa,aa⟩ ?_;rintro V J I ⟨r,pre,aB,ae,Z,ax,ap,ao,rfl⟩;refine bA ao<|fx 4 ap<|bq 7 aa<|cd aa (fun E=> ?_) fun E=> ?_;have G:(kn 1<|bL s)=pre++(pre.length+1,ka (nj 10 r))::kn (pre.length+2) (gz []<|oV 10 r):=by rw [ae,UI E,Vv]
 have aA:=Qf (c:=10) E;have au:=Qc 10 r;refine aH 7 aa<|e<|aM (Qg r 10 _ ab) aa ?_;rintro aD aG ⟨rfl,ah⟩;refine p mv<|aQ 15 aa<|WR<|py aa (rS (.func (.yield l) #[] #[]) aa)<|py aa (rS (ay<|pre.length+1) aa)<|py aa mv<|ey aa<|aM (YF (nj 10 r) _ ab) aa ?_;rintro aE aI ⟨rfl,ai⟩;have aj:=dY _ _ _ Z<|Md.trans ah ai;refine ZA aa aa (aq pre (pre.length+1,ka (nj 10 r)) _ _ G aj) fun aK al=> ?_;refine py aa (no aa)<|Vp ?_;exact dz 1 aa<|cf (aa)<|aH 5 aa<|p (bC<|pre.length+2)<|aC 2 aa<|tn<|⟨_,ab,oV 10 r,pre++ [(pre.length+1,ka (nj 10 r))],ab,(by rw [G,eX,bG]; rfl),al,(by have h1:=Cx G; have h2:=o6 s; rw [bG,fg]; omega),(iv<|by first | rfl | (rw [bG]; rfl)),aa,aa⟩
 refine aJ 2 aa<|bK<|bc 1 aa<|f0 aa ?_;show A (kn 1<|bL s) I;have an:r= []:=Decidable.of_not_not E;rw [ae,an,Cg,Vw,ez];exact Z
theorem Gv (s:List UInt8) (b:Nat) (hs:s.length≤65536):EH az 189 #[.pointer (some ⟨b,0,none⟩)] x7 (kn 1<|bL s) (fun W=>W.heap[b]? =some (.cells [str s].toArray 9 (0,0))):=
 fun l A W C E dY I=>Calls.mono (Q6 s b hs l A W C E dY I) fun e w' ⟨v,he,G⟩=>⟨⟨v,he⟩,G⟩
theorem KH (s:List UInt8) (w:ak) (hs:s.length≤1048576):
 ba az 71 (a7 [str s]) w (fun v w'=>(∃ a,v= .tuple #[a,.int .i64 (if 65536 < s.length then 10 else 0)]∧(if 65536 < s.length then a= .slice none 0 0 else bo w' w.heap.size 9 1 (a) (bL s).length ((bL s).map str)))∧Wk w w'):=by
 refine GI [] func71 aa ntmps71 aa ?_;refine jd<|jO<|nm 4 aa<|jl<|jd<|jd<|jO<|nm 5 aa<|jl<|jO<|cd aa (fun aK=> ?_) fun aK=> ?_;refine nm 7 aa<|prt<|GP aa aa aa ?_;have J:65536 < s.length:=ab;exact ⟨⟨.slice none 0 0,by show gR #[.slice none 0 0,.int .i64 10]=_; rw [if_pos J],by rw [if_pos J]⟩,Md.refl _ _⟩;refine nm 1 aa<|jl<|jd<|jO<|bg 1 aa<|e<|gK ZH fun au aO aV aH ax=>aC 1 aa<|jl<|jd<|jd<|jO<|bg 2 aa<|e<|aM (Gw s _) aa ?_;rintro v11 aq ⟨ag,rfl,aS,av,ay⟩;have O:Wk w aq:=Md.trans aH.md ay;have aI:=ay.bl ax;have aT:=(dD.1 av).1;have a0:au < aO.heap.size:=(dD.1 ax).1;have J:s.length≤65536:=ab;refine aC 1 aa<|jl ?_;apply J4 (x7) (kn 1<|bL s) (fun W=>W.heap[ag]? =some (.cells [str s].toArray 9 (0,0))) (fun pre I=> ∃ v,I.heap[au]? =some (.cells [v].toArray 35 (0,0))∧bo I aq.heap.size 9 1 v pre.length ((pre.map my).map str)∧I.heap[ag]? =some (.cells [str s].toArray 9 (0,0))∧aq.heap.size≤I.heap.size∧Wk w I) rfl Ft (fun _=>rfl) (Gv s ag J) (⟨.slice none 0 0,aI,dE _ _ _ _,av,cE _,O⟩) (fun _ _ ⟨_,_,_,h,_⟩=>h) (fun pre A C F ⟨v,h1,h2,h3,h5,h4⟩ hm ac=>⟨v,zp h1 hm ac,KN h2 hm ac,zp h3 hm ac,e7 h5 hm.size,KO h4 hm O.size ac⟩);intro l x I K V;exact nm 3 aa<|tn<|V;intro l pre x rest I aL ai;obtain ⟨v,ae,G,am,ao,ah⟩:=ai;obtain ⟨aZ,a2,a3⟩:=Cx aL;have aX:=o6 s;have a1:=(dD.1 am).1;refine bg 2 aa<|p (ld1 aa<|(a8 ae).trans aa)<|p mv<|e<|gv gk aa aa fun aQ aN aj E aA=> ?_;have aE:Wk w aN:=Md.trans ah E.md;have aj:=E.md.bl ae;refine e<|ap gk (aU G E.md) aa (e7 ao E.md.size) aa (aB.dT aA) (aa) (aa) ab ab fun v17 a5 an Y a4 aW=> ?_;have aF:=Wk.own aE (aU G E.md) Y O.size;have aJ:=Y.bl (E.md.bl am) fun h=>by have :=dH (aU G E.md) h; omega
 have al:=Y.bl aj fun h=>dO (aU G E.md) aj aw h;refine e<|dd Ga aa aa (e9 an) al (by simp) fun aP Z aD=> ?_;have aG:Wk w aP:=Md.trans' aF Z fun k hk h=>by omega
 exact aC 2 aa<|⟨(kP.wk E.md).trans ((kP.md Y<|wm<|aU G E.md).trans<|kP.md Z fun k hk=>⟨_,_,_,hk ▸ al⟩),v17,aD,da (by rw [gS,gS,bG]; exact an) Z (fun k hk h=>dO an al aw<|h ▸ hk),Z.bl aJ (fun h=>by omega),e7 ao (e7 E.md.size<|e7 Y.size Z.size),aG⟩
 intro D I aR ai V;obtain ⟨v,ae,G,am,ao,ah⟩:=ai;have aY:=(dD.1 V).1;refine jl<|jd<|jO<|bg 1 aa<|p (ld1 aa<|(a8 ae).trans aa)<|p bm<|aC 2 aa<|jl<|C7<|GQ aa aa aa V ?_;have J:¬65536 < s.length:=ab;rw [Cy,Jo] at G;exact ⟨⟨v,by show gR #[v,.int .i64 0]=_; rw [if_neg J],by rw [if_neg J]; exact eR (da G (uk _ _ _) fun k hk h=>by obtain ⟨c,e,z,h1⟩:=wm G k hk; rw [h,V] at h1; cases h1) O.size⟩,Md.trans' ah (uk _ _ _) fun k hk h=>by have :=O.size; omega⟩
set_option maxHeartbeats 1000000 in
theorem J6 (s:List UInt8) (w:ak) (hs:s.length≤1048576):
 ba az 70 (a7 [str s]) w (fun v w'=>(∃ a,v= .tuple #[a,.int .i64 (if 65536 < s.length then 10 else 0)]∧(if 65536 < s.length then a= .slice none 0 0 else ∃ vs,bo w' w.heap.size 181 2 a (bT s).length (k3 vs)∧iH w' w.heap.size 9 vs (bT s)))∧Wk w w'):=by
 refine GI [] func70 aa ntmps70 aa ?_;refine jd<|jO<|nm 4 aa<|jl<|jd<|jd<|jO<|nm 5 aa<|jl<|jO<|cd aa (fun bv=> ?_) fun bv=> ?_;refine nm 7 aa<|prt<|GP aa aa aa ?_;have Y:65536 < s.length:=ab;exact ⟨⟨.slice none 0 0,by show gR #[.slice none 0 0,.int .i64 10]=_; rw [if_pos Y],by rw [if_pos Y]⟩,Md.refl _ _⟩;refine nm 1 aa<|jl<|jd<|jO<|bg 1 aa<|e<|gK ZD fun an bR bZ bs aS=>aC 1 aa<|jl<|jd<|jd<|jO<|bg 2 aa<|e<|aM (Gw s _) aa ?_;rintro b9 av ⟨ay,rfl,bX,aR,aV⟩;have ac:Wk w av:=Md.trans bs.md aV;have b5:an < bR.heap.size:=(dD.1 aS).1;have bt:=aV.bl aS;have bY:=(dD.1 aR).1;have Y:s.length≤65536:=ab;refine aC 1 aa<|jl ?_;apply J4 (x7) (kn 1<|bL s) (fun W=>W.heap[ay]? =some (.cells [str s].toArray 9 (0,0))) (fun pre I=> ∃ v vs,I.heap[an]? =some (.cells [v].toArray 156 (0,0))∧bo I av.heap.size 181 2 v (lT 1<|pre.map my).length (k3 vs)∧iH I av.heap.size 9 vs (lT 1<|pre.map my)∧I.heap[ay]? =some (.cells [str s].toArray 9 (0,0))∧av.heap.size≤I.heap.size∧Wk w I) rfl Ft (fun _=>rfl) (Gv s ay Y) (⟨.slice none 0 0,[],bt,dE _ _ _ _,iH.nil _ _ _,aR,cE _,ac⟩) (fun _ _ ⟨_,_,_,_,_,h,_⟩=>h) (fun pre A C F ⟨v,vs,h1,h2,bf,h3,h5,h4⟩ hm ah=>⟨v,vs,zp h1 hm ah,KN h2 hm ah,bf.md hm (fun k hk cur z=>(ah k hk).2 cur _ z),zp h3 hm ah,e7 h5 hm.size,KO h4 hm ac.size ah⟩);intro l x I K ae;exact nm 8 aa<|tn<|ae;intro l pre x rest I bM aF;obtain ⟨v,vs,aL,al,ao,aK,aq,aE⟩:=aF;obtain ⟨b4,bN,bP⟩:=Cx bM;have b2:=o6 s;have b6:=(dD.1 aK).1;have b7:x.2.length≤s.length:=Cd<|by rw [bP]; simp
 have b1:=vM x.2 [];have bF:=C4 (pre.map my) 1;rw [fC] at bF;refine bg 3 aa<|p mv<|e<|aM (RI x.2 _ ab) aa ?_;rintro ca a3 ⟨aj,bk⟩;obtain ⟨J,aA,rfl⟩:=cz aj;have aW:=(aX aj).2;have bw:=(aX aj).1;refine p bm<|aQ 2 aa ?_;refine ei (fun a9 ax=> ∃ (n cp:Nat),(n≤(c7 [] x.2).length)∧(n≤cp)∧(o5 (c7 [] x.2)=(c7 [] x.2).take n)∧(Wk a3 ax)∧(Sl a9 [(4,.pointer (some ⟨an,0,none⟩)),(5,.int .i64 x.1),(7,.slice J n cp)])) ?_ ?_;refine bg 2 aa<|p mv<|aQ 5 aa<|lp (fun aP bb a5=> ∃ (i:Nat),(i≤(c7 [] x.2).length)∧(∀ q,q < i→wz ((c7 [] x.2).getD q [])=false)∧(Wk a3 a5)∧(Sl bb [(4,.pointer (some ⟨an,0,none⟩)),(5,.int .i64 x.1),(7,.slice J (c7 [] x.2).length aA),(19,.slice J (c7 [] x.2).length aA),(20,.int .i64 (c7 [] x.2).length),(21,.int .i64 i)])∧((c7 [] x.2).length - i=aP)) _ ⟨0,ab,(fun q bE=>by omega),(Md.refl _ _),aa,aa⟩ ?_;rintro aP bb a5 ⟨i,hi,aO,ag,bK,rfl⟩;refine bA bK<|bq 6 aa<|cd aa (fun bx=> ?_) fun bx=> ?_;refine aH 7 aa<|p (a6 cM aa aa ab<|aB.ok (aW.wk ag)<|bS ab)<|p (ld1 aa<|bW.get (i:=i) (aW.wk ag) ab)<|au 7 aa<|p (jz 0 u9 aa aa<|mu.2 (By _ _ _<|Sr ab).1)<|aQ 3 aa<|cd aa (fun bB=> ?_) fun bB=> ?_;exact aH 5 aa<|p (O5 cM aa aa aa ab)<|aC 6 aa<|te _<|bc 1 aa<|tn<|⟨i,i,hi,(cE _),(yD hi aO<|.inr<|decide_eq_true ab),ag,aa⟩
 exact aJ 7 aa<|tn<|⟨_,ab,i+1,ab,(fun q bE=>by rcases fG q i with h | h <;> first | exact aO q h | (rw [show q=i by omega]; exact decide_eq_false ab)),ag,aa,aa⟩
 exact aJ 2 aa<|te _<|bc 1 aa<|tn<|⟨(c7 [] x.2).length,aA,(cE _),bw,(by have h:=yD hi aO (.inl ab); rwa [show i=(c7 [] x.2).length from by omega] at h),ag,aa⟩
 rintro a9 ax ⟨n,cp,hn,bD,aZ,aD,bJ⟩;refine bA bJ ?_;have E:Wk I ax:=Md.trans bk aD;have aI:=E.bl aL;have a1:=aU al E;have a2:=ao.wk E;have aY:=E.bl aK;have aT:Wk w ax:=Md.trans aE E;refine bz 7 aa<|cd aa (fun bC=> ?_) fun bC=> ?_;have am:lR x.2 (1 +pre.length)= [(x.1,(c7 [] x.2).take n)]:=by unfold lR; rw [aZ,if_neg (fun h=>by have h:=congrArg jr h; rw [dJ,gr] at h; omega),← bN]
 refine aH 1 aa<|p (ld1 aa<|(a8 aI).trans aa)<|au 2 aa<|p (cV (ps:= [(0,.int .i64 x.1),(1,.slice J n cp)]) (L:= [.int .i64 x.1,.slice J n cp]) XX aa<|aa)<|e<|lf KA aa aa aa fun bd a4 aG G bh=> ?_;have bi:bO a4.heap bd [.int .i64 x.1,.slice J n cp]:=bh;have bn:Wk w a4:=Md.trans aT G.md;have Z:=aU a1 G.md;have aG:=G.md.bl aI;refine e<|ap KA (Z) aa (by have :=G.size; have :=E.size; omega) aa (aB.dT bi) (aa) (aa) ab ab fun bQ cb aN O b8 b0=> ?_;have bp:=Wk.own bn Z O ac.size;have bu:=O.bl (G.md.bl aY) fun h=>by have :=dH Z h; omega
 have ai:=O.bl aG fun h=>dO Z aG aw h;have bH:=(a2.wk G.md).md O<|iO Z aw;have a0:=da (aU (aU aj aD) G.md) O fun k hk=>nA (aU (aU aj aD) G.md) Z aw hk;refine e<|dd F7 aa aa (e9 aN) ai (by simp) fun bU V bj=> ?_;have br:Wk w bU:=Md.trans' bp V fun k hk h=>by omega
 have bI:=(bH.md V<|fL ai aw).snoc (n:=x.1) (r:=(c7 [] x.2).take n) (v:= .slice J n cp)<|by rw [dJ,Nat.min_eq_left hn,List.map_take]; exact (Tg.j5<|eR (da a0 V fun k hk h=>dO a0 ai aw<|h ▸ hk) aq).clip bD
 exact aC 2 aa<|⟨(kP.wk E).trans ((kP.wk G.md).trans<|(kP.md O<|wm Z).trans<|kP.md V fun k hk=>⟨_,_,_,hk ▸ ai⟩),bQ,vs++ [(x.1,.slice J n cp)],bj,(by rw [gS,show [x].map my= [x.2] from aa,oy,fC,am]; rw [bG,Dc]; exact da aN V fun k hk h=>dO aN ai aw<|h ▸ hk),(by rw [gS,show [x].map my= [x.2] from aa,oy,fC,am]; exact bI),V.bl bu (fun h=>by omega),e7 aq (e7 E.size<|e7 G.md.size<|e7 O.size V.size),br⟩
 have am:lR x.2 (1 +pre.length)= []:=by unfold lR; rw [aZ,if_pos (by rw [show n=0 by omega]; rfl)]
 exact aJ 2 aa<|⟨kP.wk E,v,vs,aI,(by rw [gS,show [x].map my= [x.2] from aa,oy,fC,am]; rw [ez]; exact a1),(by rw [gS,show [x].map my= [x.2] from aa,oy,fC,am]; rw [ez]; exact a2),aY,e7 aq E.size,aT⟩
 intro D I bV aF ae;obtain ⟨v,vs,aL,al,ao,aK,aq,aE⟩:=aF;have b3:=(dD.1 ae).1;refine jl<|jd<|jO<|bg 1 aa<|p (ld1 aa<|(a8 aL).trans aa)<|p bm<|aC 2 aa<|jl<|C7<|GQ aa aa aa ae ?_;have Y:¬65536 < s.length:=ab;rw [Cy] at al ao;exact ⟨⟨v,by show gR #[v,.int .i64 0]=_; rw [if_neg Y],by rw [if_neg Y]; exact ⟨vs,eR (da al (uk _ _ _) fun k hk h=>by obtain ⟨c,e,z,h1⟩:=wm al k hk; rw [h,ae] at h1; cases h1) ac.size,(ao.md (uk _ _ _) fun k hk cur z=>by rw [hk,ae]; simp).mono ac.size⟩⟩,Md.trans' aE (uk _ _ _) fun k hk h=>by have :=ac.size; omega⟩
end Go.Hb
section
namespace Go.Hb.iF
theorem rL {eof ln:Nat} {F F':aE} {hs:List Tx} {rows rows':List Rw} {row:List Tx} (A:ca eof F hs rows ln row= .ok (F',rows')):rows'.length≤rows.length:=by
 unfold ca at A
 repeat' split at A
 · unfold kp at A; split at A; cases A; cases A; exact cE _
 · unfold kI at A; repeat' split at A
   all_goals first | (cases A; done) | (cases A; exact cE _)
 · unfold mP at A; split at A; cases A; cases A; exact cE _
 · unfold mT at A; split at A; cases A; cases A; exact cE _
 · unfold kX at A; repeat' split at A
   all_goals first | (cases A; done) | (cases A; exact cE _)
 · unfold ko at A; repeat' split at A
   all_goals first | (cases A; done) | (cases A; exact (vO _ _ _<|by assumption).1)
 · unfold j9 at A; repeat' split at A
   all_goals first | (cases A; done) | (cases A; exact (vO _ _ _<|by assumption).1)
 · unfold hU at A; repeat' split at A
   all_goals first | (cases A; done) | (cases A; exact (vO _ _ _<|by assumption).1)
theorem wy {eof k:Nat} {F:aE} {hs:List Tx} :ij eof k F hs []= .ok F:=by cases k <;> simp [ij]
section
variable {eof k n:Nat} {F:aE} {hs:List Tx} {r:List Tx} {rest:List Rw} {T:Except (Nat×Nat) aE} (h:ij eof k F hs ((n,r)::rest)=T) (hk:rest.length+1≤k)
include h hk
theorem JS (A:width (r.getD 0 [])=0):T= .error (n,110):=by
 obtain ⟨m,rfl⟩:∃ m,k=m+1:=⟨k - 1,ab⟩
 rw [← h,ij,if_pos A]
theorem JT (A:width (r.getD 0 [])≠0) (h1:r.length≠width (r.getD 0 [])):T= .error (n,111):=by
 obtain ⟨m,rfl⟩:∃ m,k=m+1:=⟨k - 1,ab⟩
 rw [← h,ij,if_neg A,if_pos h1]
theorem CV (A:width (r.getD 0 [])≠0) (h1:r.length=width (r.getD 0 [])) (h2:width (r.getD 0 [])≠4) (h3:r.getD 0 []∈hs):T= .error (n,112):=by
 obtain ⟨m,rfl⟩:∃ m,k=m+1:=⟨k - 1,ab⟩
 have hw:width (r.getD 0 [])=2:=by
  unfold width at A h2 ⊢;split
  · rfl
  · rename_i hn;rw [if_neg hn] at A h2;split at h2
    · exact absurd aa h2
    · rename_i C; rw [if_neg C] at A; exact absurd rfl A
 rw [← h,ij,if_neg A,if_neg (fun h4=>h4 h1),if_pos ⟨hw,h3⟩]
theorem CW {e:Nat×Nat} (A:width (r.getD 0 [])≠0) (h1:r.length=width (r.getD 0 [])) (h2:width (r.getD 0 [])=2→r.getD 0 []∉hs) (h3:ca eof F hs rest n r= .error e):T= .error e:=by
 obtain ⟨m,rfl⟩:∃ m,k=m+1:=⟨k - 1,ab⟩
 rw [← h,ij,if_neg A,if_neg (fun h4=>h4 h1),if_neg (fun h4=>h2 h4.1 h4.2),h3]
theorem CX {F':aE} {rows':List Rw} (A:width (r.getD 0 [])≠0) (h1:r.length=width (r.getD 0 [])) (h2:width (r.getD 0 [])=2→r.getD 0 []∉hs) (h3:ca eof F hs rest n r= .ok (F',rows')):ij eof (k - 1) F' (hs++ [r.getD 0 []]) rows'=T∧rows'.length≤k - 1:=by
 obtain ⟨m,rfl⟩:∃ m,k=m+1:=⟨k - 1,ab⟩
 refine ⟨?_,by have :=rL h3; omega⟩;rw [← h,ij,if_neg A,if_neg (fun h4=>h4 h1),if_neg (fun h4=>h2 h4.1 h4.2),h3]; rfl
end
theorem ES {s:Tx} (h:65536 < s.length):fH s= .error (0,10):=by unfold fH; rw [if_pos h]
theorem pL {s:Tx} {e:Nat×Nat} (h:¬65536 < s.length) (h1:ij ((bL s).length+1) (bT s).length iJ [] (bT s)= .error e):fH s= .error e:=by unfold fH; rw [if_neg h,h1]
theorem Ar {s:Tx} {F:aE} {q:cJ} (h:¬65536 < s.length) (h1:ij ((bL s).length+1) (bT s).length iJ [] (bT s)= .ok F) (h2:F.rules.find? (oO F)=some q):fH s= .error (q.line,118):=by unfold fH; rw [if_neg h,h1]; simp only; rw [h2]
theorem EU {s:Tx} {F:aE} (h:¬65536 < s.length) (h1:ij ((bL s).length+1) (bT s).length iJ [] (bT s)= .ok F) (h2:F.rules.find? (oO F)=none):fH s= .ok F:=by unfold fH; rw [if_neg h,h1]; simp only; rw [h2]
def rN (s:Tx):ag:=match iZ s with | some (.agg cs)=>cs.getD 1 .nilFunc | _=> .nilFunc
theorem Th (s:Tx):(iZ s).getD (.agg #[.int .i64 0,.nilFunc])= .agg [.int .i64 (width s:Nat),rN s].toArray∧(iZ s).isSome=decide (width s≠0):=by
 rcases BV s with h | ⟨wd,f,h,hw,A⟩
 · have A:=Ic h;unfold rN;rw [h,A]; exact ⟨rfl,rfl⟩
 · unfold rN;rw [h,hw,decide_eq_true A]; exact ⟨rfl,rfl⟩
theorem Tq (s:Tx):[Value.int .i64 (width s:Nat),rN s].all fX=true :=by
 rcases BV s with h | ⟨wd,f,h,hw,A⟩ <;> unfold rN <;> rw [h] <;> rfl
theorem Ib {s:Tx} (h:width s≠0):∃ v,iZ s=some v∧∀ (wd:Nat) (f:Nat),v= .agg [.int .i64 (wd:Nat),.func (.func f) #[] #[]].toArray→rN s= .func (.func f) #[] #[]:=by
 rcases BV s with h1 | ⟨wd,f,h1,hw,C⟩
 · exact absurd (Ic h1) h
 · refine ⟨_,h1,fun E A he=> ?_⟩;unfold rN;rw [h1,he]; rfl
theorem Kj {f:ag→Option ag} {seen:List Tx} (k:Tx) (A:∀ s:Tx,(f<|str s).getD (.int .i64 0)= .int .i64 (seen.count s:Nat)) (s:Tx):(bM f (str k) (.int .i64 (seen.count k+1:Nat))<|str s).getD (.int .i64 0)= .int .i64 ((seen++ [k]).count s:Nat):=by
 rw [List.count_append];by_cases h:s=k
 · subst h; rw [ow]; simp
 · rw [me (fun h2=>h<|str_inj.1 h2),A s,List.count_singleton,show (k==s)=false from by simpa using fun h2=>h h2.symm]; rfl
theorem dy.Ki {w w':ak} {B:Nat} {H:dw} {F:aE} {R:iD} {rows:List Rw} {ln:Nat} {seen C:List Tx} {f:ag→Option ag} (h:dy w B H F R rows ln seen) (hm:Md (fun k=>k=H.ms) w w') (E:cR w'.heap H.ms jN f) (hd:∀ s:Tx,(f<|str s).getD (.int .i64 0)= .int .i64 (C.count s:Nat)):dy w' B H F R rows ln C:=by
 obtain ⟨g,I,J⟩:=h.tm;obtain ⟨f0,G,_⟩:=h.sm;have hT:TF w [1] (fun k=>k=H.ms):=TF.eq (eJ G) aw;exact ⟨hm.iK hT h.cells aw,h.rws.md hm (fun k hk cur z A=>hT.no (dC A) aw hk),h.rt.md hm (fun k hk cur z A=>hT.no (dC A) aw hk),⟨f,E,hd⟩,⟨g,I.md hm (fun h2=>h.ne.1 h2.symm),J⟩,cj h.on hm hT aw,h.lo,h.ne⟩
theorem dX.ms {w w':ak} {B:Nat} {H:dw} {F A:aE} {V:fy} {R:iD} {rows:List Rw} {ln:Nat} {seen:List Tx} (h:dX w B H.fb H.mc A V) (C:dy w B H F R rows ln seen) (hm:Md (fun k=>k=H.ms) w w'):dX w' B H.fb H.mc A V:=by
 obtain ⟨g,E,_⟩:=C.sm;exact h.md (L:= [1]) hm (TF.eq (eJ E) aw) aw fun h=>C.ne.2.1 h.symm
theorem fQ.ms {w w':ak} {B:Nat} {H:dw} {F:aE} {R:iD} {rows:List Rw} {ln:Nat} {seen:List Tx} (A:dy w B H F R rows ln seen) (hm:Md (fun k=>k=H.ms) w w'):fQ B H w w':=hm.mono fun k _ hk=>⟨hk ▸ A.lo.2.1,.inl hk⟩
structure qs (w0 w:ak) (H:dw) (b2 b3 bt:Nat):Prop where
 c2:w.heap[b2]? =some (.cells [.pointer none].toArray 88 (0,0))
 c3:w.heap[b3]? =some (.cells [.int .i64 0,.int .i64 0,.int .i64 0].toArray 45 (0,0))
 lo:w0.heap.size≤b2∧w0.heap.size≤b3∧b2≠b3
 tb:∃ f,cR w.heap bt jN f∧∀ s,f (str s)=iZ s
 ne:bt≠H.ms∧bt≠H.mt∧bt≠H.mc
 wk:Wk w0 w
theorem qs.md {w0 w w':ak} {H:dw} {A C E:Nat} (h:qs w0 w H A C E) (hm:Wk w w'):qs w0 w' H A C E:=by
 obtain ⟨f,G,I⟩:=h.tb;exact ⟨Wk.bl hm h.c2,Wk.bl hm h.c3,h.lo,⟨f,G.wk hm,I⟩,h.ne,h.wk.trans hm⟩
theorem qs.mw {w0 w w':ak} {H:dw} {A C E:Nat} {F:aE} {R:iD} {V:fy} {rows:List Rw} {ln:Nat} {seen:List Tx} (h:qs w0 w H A C E) (J:dX w w0.heap.size H.fb H.mc F V) (G:dy w w0.heap.size H F R rows ln seen) (hm:fQ w0.heap.size H w w'):qs w0 w' H A C E:=by
 obtain ⟨f,I,Y⟩:=h.tb;obtain ⟨f1,O,_⟩:=G.sm;obtain ⟨f2,Z,_⟩:=G.tm;obtain ⟨f3,aa,_⟩:=J.cm;have hn:=fun e (ab:([169,166,191,53,194,136,5]:List Nat).contains (e+2)=false)=>Wr.ne (B:=w0.heap.size) (eJ O) (eJ Z) (eJ aa) ab;refine ⟨hm.bl h.c2 (fun hk=>hn 88 aw _ hk _ _ h.c2),hm.bl h.c3 (fun hk=>hn 45 aw _ hk _ _ h.c3),h.lo,⟨f,I.md hm ?_,Y⟩,h.ne,hm.wk h.wk<|cE _⟩;rintro ⟨_,h1 | h1 | h1 | h1⟩
 · exact h.ne.1 h1
 · exact h.ne.2.1 h1
 · exact h.ne.2.2 h1
 · rw [eJ I] at h1; exact absurd h1 aw
def Nf (w':ak) (B:Nat) (F:aE) (v:ag):Prop := ∃ fb mc V,v= .tuple #[.pointer (some ⟨fb,0,none⟩),.agg [.int .i64 0,.int .i64 0,.int .i64 0].toArray]∧dX w' B fb mc F V∧(∃ seen,k6 F [] seen)∧Nx F
def Nd (e:Nat×Nat) (v:ag):Prop :=v= .tuple #[.pointer none,.agg [.int .i64 1,.int .i64 (e.1:Nat),.int .i64 (e.2:Nat)].toArray]
def qw (s:Tx) (w:ak) (v:ag) (w':ak):Prop :=(match fH s with | .ok F=>Nf w' w.heap.size F v | .error e=>Nd e v)∧Wk w w'
theorem qw.no {s:Tx} {w w':ak} {l e:Nat} (h:fH s= .error (l,e)) (hm:Wk w w'):qw s w (.tuple #[.pointer none,.agg [.int .i64 1,.int .i64 (l:Nat),.int .i64 (e:Nat)].toArray]) w':=by
 unfold qw; rw [h]; exact ⟨rfl,hm⟩
theorem s5 {n:Nat} {G:List Nat} {fn:Func} {σ:Nat→ag} {s:Tx} {w W:ak} {H:dw} {C E I l e:Nat} (O:fn.results= #[.cell 2 88,.cell 3 45]) (J:3 < n) (V:σ 2= .pointer (some ⟨C,0,none⟩)) (Y:σ 3= .pointer (some ⟨E,0,none⟩)) (A:qs w W H C E I) (Z:fH s= .error (l,e)):qb ⟨n,[{target:= .fn (.func 72) #[.pointer (some ⟨C,0,none⟩),.pointer (some ⟨E,0,none⟩)],args:= #[]}],G,none⟩ (rk az fn<|qw s w) (.panic<|jM 45 l (e:Nat)) σ W:=
 Wx O J V Y ⟨_,A.c2⟩ ⟨_,rfl,A.c3⟩ A.lo.2.2 (fun w' hm=>qw.no Z<|A.wk.trans' hm fun k hk h=>by rcases h with rfl | rfl; have :=A.lo.1; omega; have :=A.lo.2.1; omega)
theorem QD {x:Nat} (h:x≠0):eM iJ x=false :=by
 unfold eM iJ eb;simp [h]
theorem Wk.dr {w:ak} :Wk w w.drew:=(Md.refl _ _).drew
theorem NJ (s:Tx) (w:ak) (hs:s.length≤1048576):
 ba az 39 (a7 [str s]) w (qw s w):=by
 refine Rg [2,3] func39 aa ntmps39 aa ?_;refine jd<|jO<|bg 1 aa<|e<|gK ZI fun aO eW el co cP=>e<|gK q4 fun aP ea eo bx cX=> ?_;have eC:=co.size;have eH:=bx.size;have c8:Wk w ea:=co.md.trans bx.md;have dO:=Wk.bl bx.md cP;refine aC 1 aa<|jl<|jd<|jO<|bg 2 aa<|e<|aM (J6 s _ hs) aa ?_;rintro eS eV ⟨⟨eg,rfl,ct⟩,hE15⟩;have ce:=c8.trans hE15;have cA:=Wk.bl hE15 dO;have cB:=Wk.bl hE15 cX;have eB:=hE15.size;refine p mv<|au 2 aa<|p bm<|aC 2 aa<|jl<|jd<|jd<|jO<|nm 4 aa<|jl<|jO<|cd aa (fun bJ=> ?_) fun bJ=> ?_;have cs:65536 < s.length:=tj fun h=>bJ<|by rw [if_neg h]
 exact bg 3 aa<|p (cV (ps:= [(0,.int .i64 1),(2,.int .i64 (if 65536 < s.length then 10 else 0))]) (L:= [.int .i64 1,.int .i64 0,.int .i64 (if 65536 < s.length then 10 else 0)]) uA aa<|aa)<|e<|dd A0 aa aa (v:= .pointer none) aa cA aw fun e2 cl c0=>e<|gA kj aa aa aa aa (cl.bl cB fun h=>by omega) aw fun e3 cn c4=>aC 3 aa<|prt<|RD (y7 aa (oz<|C5 aa aa<|(a8<|cn.bl c0 fun h=>by omega).trans aa)<|oz<|dU aa aa aa fun j eu=>by rw [Nat.zero_add,a8 c4,if_pos cs]; simp)<|qw.no (ES cs)<|(ce.trans' cl fun k hk h=>by omega).trans' cn fun k hk h=>by omega
 have ap:¬65536 < s.length:=fun h=>bJ<|by rw [if_pos h]; decide
 rw [if_neg ap] at ct;obtain ⟨vs,cy,dP⟩:=ct;obtain ⟨ar,cr,rfl⟩:=cz cy;refine nm 1 aa<|jl<|jd<|jO<|bg 2 aa<|e<|aM (KH s _ hs) aa ?_;rintro v24 cG ⟨⟨a24,rfl,cu⟩,hE24⟩;rw [if_neg ap] at cu;obtain ⟨eM,ei,rfl⟩:=cz cu;have c7:=ce.trans hE24;have ev:=o6 s;have eE:=hE24.size;refine p mv<|au 2 aa<|p bm<|aC 2 aa<|jl<|jd<|jO<|bg 1 aa<|e<|sY fun E eY em cp cT=> ?_;have eF:=cp.size;refine p (cV (ps:= [(1,.map (some E))]) (L:= [.int .i64 0,.string ⟨⟨[]⟩⟩,.string ⟨⟨[]⟩⟩,.int .u16 0,.int .u16 0,.int .u16 0,.int .u16 0,.int .u16 0,.int .i64 0,.slice none 0 0,.slice none 0 0,.slice none 0 0,.slice none 0 0,.map (some E)]) XV aa<|aa)<|e<|nU aa fun C eZ en bw cU=> ?_;have eG:=bw.size;refine p mv<|p mv<|au 1 aa<|p (bC<|(bL s).length+1)<|e<|sY fun J e0 ep bk cY=> ?_;have eI:=bk.size;refine e<|sY fun O e1 er a2 cZ=> ?_;have eK:=a2.size;refine p (cV (ps:= [(0,.pointer (some ⟨C,0,none⟩)),(1,.slice ar (bT s).length cr),(3,.int .i64 ((bL s).length+1:Nat)),(4,.map (some J)),(5,.map (some O))]) (L:= [.pointer (some ⟨C,0,none⟩),.slice ar (bT s).length cr,.int .i64 0,.int .i64 ((bL s).length+1:Nat),.map (some J),.map (some O),.slice none 0 0]) XW aa<|aa)<|e<|nU aa fun Y aL es aW bs=> ?_;have eL:=aW.size;have dD:=Wk.bl (bk.md.trans<|a2.md.trans aW.md) cU;refine aC 2 aa<|jl<|jd<|jO ?_;have aI:(fun w'=>Md (fun k=>k=C) aL w') aL.drew:=(Md.refl _ _).drew;refine dY (fun w'=>Md (fun k=>k=C) aL w') aa wide aI<|aT [0,1,2] aa aI<|hp 3 aa aj (fun w' ae=>ld1 aa<|Md.aV ae ((a8 bs).trans aa) fun h=>by omega) aI<|aT [4,5,6] aa aI<|hp 7 aa aj (fun w' ae=>ld1 aa<|Md.aV ae ((a8 bs).trans aa) fun h=>by omega) aI<|aT [8,9,10] aa aI<|he 11 aa aj<|dd gM aa aa (v:= .int .i64 (1:Nat)) aa dD (by show 0 +0 +0 < 14; decide) fun ed dg c5=> ?_;have bH:(fun w'=>Md (fun k=>k=C) aL w') ed:=aI.trans' dg fun _ _ h=>h;refine ⟨bH,?_⟩;refine aT [12,13,14] aa bH<|he 15 aa aj<|dd gM aa aa (v:= .int .i64 (3:Nat)) aa c5 (by show _ < 14; decide) fun ee dh c6=> ?_;have bI:(fun w'=>Md (fun k=>k=C) aL w') ee:=bH.trans' dh fun _ _ h=>h;refine ⟨bI,?_⟩;refine hn aj<|jl<|jd<|QR Ut #[.pointer (some ⟨aO,0,none⟩),.pointer (some ⟨aP,0,none⟩)] aa aw ?_;refine jd<|jO<|bg 1 aa<|e<|aM (Tn _) aa ?_;rintro v53 ao ⟨aR,rfl,et,d0,cf⟩;have c9:Wk cG aL:=cp.md.trans<|bw.md.trans<|bk.md.trans<|a2.md.trans aW.md;have aU:Md (fun k=>k=C) aL ao:=bI.trans' cf fun _ _ h=>h.elim;have a1:Wk cG ao:=Md.trans' c9 aU fun k hk h=>by omega
 have ez:=aU.size;have da:=c7.trans a1;have dz:ao.heap[C]? =some (.cells (pS iJ ⟨.slice none 0 0,.slice none 0 0,.slice none 0 0,.slice none 0 0,[],[]⟩ E).toArray 164 (0,0)):=Wk.bl cf c6;have dB:ao.heap[Y]? =some (.cells (wx (⟨Y,C,J,O,E,(bL s).length+1⟩:dw) ⟨.slice ar (bT s).length cr,vs,.slice none 0 0⟩ 0).toArray 167 (0,0)):=aU.bl bs fun h=>by omega
 have dI:cR ao.heap E (kV .u16) (fun _=>none):=cR.md (cR.wk (cR.nil cT)<|bw.md.trans<|bk.md.trans<|a2.md.trans aW.md) aU fun h=>by omega
 have dJ:cR ao.heap J jN (fun _=>none):=cR.md (cR.wk (cR.nil cY)<|a2.md.trans aW.md) aU fun h=>by omega
 have dL:cR ao.heap O (kV .u16) (fun _=>none):=cR.md (cR.wk (cR.nil cZ) aW.md) aU fun h=>by omega
 have db:dX ao w.heap.size C E iJ ⟨.slice none 0 0,.slice none 0 0,.slice none 0 0,.slice none 0 0,[],[]⟩:=⟨dz,dE _ _ _ _,dE _ _ _ _,eD.nil _ _ _,dE _ _ _ _,dE _ _ _ _,eD.nil _ _ _,⟨_,dI,fun _=>rfl⟩,⟨ab,ab⟩,rfl⟩
 have dj:dy ao w.heap.size (⟨Y,C,J,O,E,(bL s).length+1⟩:dw) iJ ⟨.slice ar (bT s).length cr,vs,.slice none 0 0⟩ (bT s) 0 []:=⟨dB,(((Tg.j5 cy).mono ab).wk<|hE24.trans a1).Yw,(dP.mono ab).wk (hE24.trans a1),⟨_,dJ,fun _=>rfl⟩,⟨_,dL,fun x b5=>by rw [QD b5]; rfl⟩,dE _ _ _ _,⟨by show w.heap.size≤Y; omega,by show w.heap.size≤J; omega,by show w.heap.size≤O; omega⟩,⟨by show J≠O; omega,by show J≠E; omega,by show O≠E; omega⟩⟩
 have ey:=y5 s;have dt:St ao w.heap.size (⟨Y,C,J,O,E,(bL s).length+1⟩:dw) iJ (bT s) 0 []:=⟨_,_,db,dj,⟨by show 0 +0 +0 +0 +(bT s).length≤70000; omega,by show 0 +(bT s).length≤70000; omega,fun q bY=>by have h:=y6 bY; exact ⟨h.2.2.1,ab,fun x b5=>by have :=(h.2.2.2.2 x b5).2; omega⟩,.inl rfl,fun l bd=>by cases bd⟩⟩
 have dV:kR iJ []:=fun k hk _=>by have h:∀ k∈eh,iJ.sp.getD (eh.idxOf k) 0=0:=aw
                                  exact h k hk
 have dM:Nx iJ:=⟨fun l bd=>(by cases bd),fun l bd=>by cases bd⟩
 have eA:=bI.size;have dN:qs w ao (⟨Y,C,J,O,E,(bL s).length+1⟩:dw) aO aP aR:=⟨Wk.bl (hE24.trans a1) cA,Wk.bl (hE24.trans a1) cB,⟨ab,ab,ab⟩,d0,⟨by show aR≠J; omega,by show aR≠O; omega,by show aR≠E; omega⟩,da⟩
 refine p bm<|aC 1 aa<|jl<|jd<|jO<|bq 1 aa<|lp (fun cb cH bh=> ∃ (k:Nat) (F:aE) (rows:List Rw) (ln:Nat) (seen:List Tx),(ij (⟨Y,C,J,O,E,(bL s).length+1⟩:dw).eof k F seen rows=ij ((bL s).length+1) (bT s).length iJ [] (bT s))∧(rows.length≤k)∧(St bh w.heap.size (⟨Y,C,J,O,E,(bL s).length+1⟩:dw) F rows ln seen)∧(kR F seen)∧(Nx F)∧(qs w bh (⟨Y,C,J,O,E,(bL s).length+1⟩:dw) aO aP aR)∧(Sl cH [(2,.pointer (some ⟨aO,0,none⟩)),(3,.pointer (some ⟨aP,0,none⟩)),(8,.pointer (some ⟨Y,0,none⟩)),(9,.map (some aR))])∧(rows.length=cb)) _ ⟨(bT s).length,iJ,bT s,0,[],aa,(cE _),dt,dV,dM,dN,aa,aa⟩ ?_;rintro cb cH bh ⟨k,F,rows,ln,seen,am,hk,ae,bp,bo,bU,dR,rfl⟩;refine bA dR ?_;obtain ⟨V,R,G,ay,aS⟩:=ae;obtain ⟨vr,vs,vn⟩:=R;obtain ⟨b9,ca,d1⟩:=ay.rws.slice;obtain rfl :vr= .slice b9 rows.length ca:=d1;refine bg 6 aa<|p (ld1 aa<|(a8 ay.cells).trans aa)<|aQ 4 aa<|cd aa (fun bK=> ?_) fun bK=> ?_;obtain ⟨⟨n,r⟩,rest,rfl⟩:∃ q rest,rows=q::rest:=by
  cases rows with
  | nil=>exact absurd bK<|by simp
  | cons q rest=>exact ⟨q,rest,rfl⟩
 have b2:=aS.row (n,r)<|mY ..;have dv:=aS.len;have dx:=aS.sl;simp only [cC] at dv dx hk;refine aH 6 aa<|e<|aM (K0 w.heap.size (⟨Y,C,J,O,E,(bL s).length+1⟩:dw) F ⟨.slice b9 (rest.length+1) ca,vs,vn⟩ n r rest ln seen bh ay) aa ?_;rintro eT eb ⟨⟨R1,dk⟩,hT1,hM1⟩;obtain ⟨b8,c1,rfl⟩:=hT1.slice;have dc:=G.rb ay hM1;have cx:=bU.mw G ay<|fQ.rb ay hM1;have ex:0 < r.length:=mu.2 b2.1;have cc:=k6.qE aS;have cD:=Th<|r.getD 0 [];obtain ⟨ej,dH,cv⟩:=cx.tb;refine p bm<|au 5 aa<|p mv<|p (a6 cM aa aa ab<|aB.ok (hT1.cW.2)<|bS ab)<|p (ld1 aa<|bW.get (i:=0) hT1.cW.2 ab)<|p (IP mU ZM jk (dH) aa aa (⟨_,aa⟩) ((congrArg (fun o=>Option.getD o _)<|cv<|r.getD 0 []).trans cD.1)<|(congrArg Option.isSome<|cv<|r.getD 0 []).trans cD.2)<|p mv<|au 2 aa<|e<|gK ZE fun cK eU ek di cN=>e<|gA Qp aa aa aa (Tq _) cN aw fun b7 df cO=> ?_;have bj:Wk eb b7:=di.md.trans' df fun k hk h=>by omega
 have bn:b7.heap[cK]? =some (.cells [.int .i64 (width (r.getD 0 []):Nat),rN (r.getD 0 [])].toArray 174 (0,0)):=cO;have aD:=dc.wk bj;have Z:=dk.wk bj;have aX:=hT1.wk bj;have aF:=cx.md bj;refine au 7 aa ?_;refine eP aa (dW iW (jc Y n _ 110 b7 Z.du aw) aa fun v72 ec dp=> ?_) (fun c w' ah σ' G=>by
  obtain ⟨rfl,aA,rfl⟩:=ah;exact s5 aa aw ((G 2<|.head _).trans aa) ((G 3<|.tail _<|.head _).trans aa) aF (pL ap<|JS am hk<|jG.1<|of_decide_eq_false aA))
 obtain ⟨rfl,an,rfl⟩:=dp;have an:width (r.getD 0 [])≠0:=of_decide_eq_true an;refine au 5 aa<|p mv<|au 2 aa<|p (ld1 aa<|(a8 bn).trans aa)<|au 1 aa ?_;refine eP aa (dW iW (jc Y n _ 111 ec Z.du aw) aa fun v79 aZ ds=> ?_) (fun c w' ah σ' G=>by
  obtain ⟨rfl,aA,rfl⟩:=ah;exact s5 aa aw ((G 2<|.head _).trans aa) ((G 3<|.tail _<|.head _).trans aa) aF (pL ap<|JT am hk an fun h=>of_decide_eq_false aA<|by rw [h]))
 obtain ⟨rfl,aq,rfl⟩:=ds;have aq:r.length=width (r.getD 0 []):=by have :=of_decide_eq_true aq; omega
 refine aQ 3 aa ?_;obtain ⟨eO,dS,dT⟩:=Z.sm;refine dZ fun ac=>aT [0,1] aa ac<|cw 2 aa ac ((a8 bn).trans aa)<|aT [3,4] aa ac<|ji (t:=84) aa (fun bb=> ?_) fun bb=> ?_;refine aT [5,6,7,8,9,10,11,12,13,14] aa ac ?_;refine ug 15 aa aj aa (dW iW (jc Y n _ 112 aZ.drew (Wk.aV ac Z.du) aw) aa fun d7 aN bE=> ?_) (fun c w' ah σ' G=>by
  obtain ⟨rfl,aA,rfl⟩:=ah
  first
   | exact absurd aA aw
   | exact s5 rfl aw ((G 2<|.head _).trans rfl) ((G 3<|.tail _<|.head _).trans rfl) (aF.md Wk.dr) (pL ap<|CV am hk an aq (fun h=>bb<|by rw [h]; rfl)<|jG.1 fun h=>of_decide_eq_false aA<|by rw [sx.2 h]; rfl))
 obtain ⟨rfl,b6,bf⟩:=bE;have aK:width (r.getD 0 [])=2→r.getD 0 []∉seen:=by
  first
   | exact fun h=>absurd bb ab
   | exact fun _=>sx.1<|by have :=of_decide_eq_true b6; omega
 have A:Wk aZ aN:=by rw [bf]; exact Wk.dr
 obtain ⟨d2,bQ,bO⟩:=Ib an;obtain ⟨cL,b4,bM,bN⟩:=Ig w.heap.size (⟨Y,C,J,O,E,(bL s).length+1⟩:dw) F rest n seen r w.heap.size b8 c1 aN ⟨_,_,aD.wk A,Z.wk A,cc⟩ (aX.wk A) b2.2.2 aq bp aK ab bQ;have bP:=bO _ _ b4;have bF:(fun w'=>Wk aZ w') aN:=by rw [bf]; exact ac
 refine ⟨bF,?_⟩;refine hn aj<|dq 4 aa<|p (ld1 aa<|(a8<|Wk.bl A bn).trans<|congrArg some bP)<|au 1 aa<|p mv ?_;refine eP aa (LC bM aa bN aa fun d6 d8 bB=> ?_) (fun c w' ah σ' G=>by
  obtain ⟨l,e,ag,rfl,ax⟩:=ah;exact s5 aa aw ((G 2<|.head _).trans aa) ((G 3<|.tail _<|.head _).trans aa) ((aF.md A).mw (aD.wk A) (Z.wk A) ax) (pL ap<|CW am hk an aq aK ag))
 obtain ⟨rfl,F',rows',ln',ag,⟨cI,br,a0,ai,av⟩,ax⟩:=bB;have bX:=(aF.md A).mw (aD.wk A) (Z.wk A) ax;obtain ⟨d3,bZ,_⟩:=Z.sm;obtain ⟨d4,b0,_⟩:=Z.tm;obtain ⟨d5,b1,_⟩:=aD.cm;have a3:=(aX.wk A).md ax<|Wr.ne (eJ<|bZ.wk A) (eJ<|b0.wk A) (eJ<|b1.wk A) aw;obtain ⟨fs,a5,a9⟩:=ai.sm;have dA:=uY (a:=r.getD 0 []) (l:=seen);have a4:=CX am hk an aq aK ag;refine aQ 2 aa<|l9 9 fun I=>gH [0,1,2] aa I<|kZ 3 aa I ((a8 ai.cells).trans aa)<|lq 4 aa aj (fun _ _=>mv) I<|lq 5 aa aj (fun _ _=>a6 cM aa aa ab<|aB.ok (aB.wk a3.cW.2 I)<|bS ab) I<|kZ 6 aa I (bW.get (i:=0) a3.cW.2 ab)<|lq 7 aa aj (fun w' ae=>mL r8 oD jk (cR.md (a5) ae id) aa aa (⟨_,aa⟩)<|a9<|r.getD 0 []) I<|lq 8 aa aj (fun _ _=>bC<|seen.count (r.getD 0 [])+1) I<|dK 9 aa aj aj<|tc r8 jk (a5.wk I) aa aa aa (⟨_,aa⟩) fun bi bu bz=> ?_;have aG:=iQ bu;have bD:dy bi w.heap.size (⟨Y,C,J,O,E,(bL s).length+1⟩:dw) F' br rows' ln' (seen++ [r.getD 0 []]):=dy.Ki ai aG bz<|Kj _ a9;have bt:=dX.ms a0 ai aG;have bV:=bX.mw a0 ai<|fQ.ms ai aG;have dQ:=rL ag;have I:St bi w.heap.size (⟨Y,C,J,O,E,(bL s).length+1⟩:dw) F' rows' ln' (seen++ [r.getD 0 []]):=⟨_,_,bt,bD,⟨av.len,by rw [bG,fg]; omega,av.row,av.kd,av.al⟩⟩
 have b3:=If bp ag;have bR:=yx bo ag;exact eQ aj<|bc 1 aa<|tn<|⟨_,by simp only [cC]; have :=rL ag; omega,k - 1,F',rows',ln',seen++ [r.getD 0 []],a4.1,a4.2,I,b3,bR,bV,aa,aa⟩
 refine aT [5,6,7] aa ac<|sQ 8 aa aj aa aa aa (fun w' ae=>ld1 aa<|Wk.aV ae<|(a8 Z.cells).trans aa) ac<|sQ 9 aa aj aa aa aa (fun _ _=>mv) ac<|sQ 10 aa aj aa aa aa (fun _ _=>a6 cM aa aa ab<|aB.ok (aB.wk aX.cW.2 ac)<|bS ab) ac<|sQ 11 aa aj aa aa aa (fun w' ae=>ld1 aa<|Wk.aV ae<|bW.get (i:=0) aX.cW.2 ab) ac<|sQ 12 aa aj aa aa aa (fun w' ae=>mL r8 oD jk (cR.md (dS) ae id) aa aa (⟨_,aa⟩)<|dT<|r.getD 0 []) ac<|aT [13,14] aa ac ?_;refine ug 15 aa aj aa (dW iW (jc Y n _ 112 aZ.drew (Wk.aV ac Z.du) aw) aa fun d7 aN bE=> ?_) (fun c w' ah σ' G=>by
  obtain ⟨rfl,aA,rfl⟩:=ah
  first
   | exact absurd aA aw
   | exact s5 rfl aw ((G 2<|.head _).trans rfl) ((G 3<|.tail _<|.head _).trans rfl) (aF.md Wk.dr) (pL ap<|CV am hk an aq (fun h=>bb<|by rw [h]; rfl)<|jG.1 fun h=>of_decide_eq_false aA<|by rw [sx.2 h]; rfl))
 obtain ⟨rfl,b6,bf⟩:=bE;have aK:width (r.getD 0 [])=2→r.getD 0 []∉seen:=by
  first
   | exact fun h=>absurd bb ab
   | exact fun _=>sx.1<|by have :=of_decide_eq_true b6; omega
 have A:Wk aZ aN:=by rw [bf]; exact Wk.dr
 obtain ⟨d2,bQ,bO⟩:=Ib an;obtain ⟨cL,b4,bM,bN⟩:=Ig w.heap.size (⟨Y,C,J,O,E,(bL s).length+1⟩:dw) F rest n seen r w.heap.size b8 c1 aN ⟨_,_,aD.wk A,Z.wk A,cc⟩ (aX.wk A) b2.2.2 aq bp aK ab bQ;have bP:=bO _ _ b4;have bF:(fun w'=>Wk aZ w') aN:=by rw [bf]; exact ac
 refine ⟨bF,?_⟩;refine hn aj<|dq 4 aa<|p (ld1 aa<|(a8<|Wk.bl A bn).trans<|congrArg some bP)<|au 1 aa<|p mv ?_;refine eP aa (LC bM aa bN aa fun d6 d8 bB=> ?_) (fun c w' ah σ' G=>by
  obtain ⟨l,e,ag,rfl,ax⟩:=ah;exact s5 aa aw ((G 2<|.head _).trans aa) ((G 3<|.tail _<|.head _).trans aa) ((aF.md A).mw (aD.wk A) (Z.wk A) ax) (pL ap<|CW am hk an aq aK ag))
 obtain ⟨rfl,F',rows',ln',ag,⟨cI,br,a0,ai,av⟩,ax⟩:=bB;have bX:=(aF.md A).mw (aD.wk A) (Z.wk A) ax;obtain ⟨d3,bZ,_⟩:=Z.sm;obtain ⟨d4,b0,_⟩:=Z.tm;obtain ⟨d5,b1,_⟩:=aD.cm;have a3:=(aX.wk A).md ax<|Wr.ne (eJ<|bZ.wk A) (eJ<|b0.wk A) (eJ<|b1.wk A) aw;obtain ⟨fs,a5,a9⟩:=ai.sm;have dA:=uY (a:=r.getD 0 []) (l:=seen);have a4:=CX am hk an aq aK ag;refine aQ 2 aa<|l9 9 fun I=>gH [0,1,2] aa I<|kZ 3 aa I ((a8 ai.cells).trans aa)<|lq 4 aa aj (fun _ _=>mv) I<|lq 5 aa aj (fun _ _=>a6 cM aa aa ab<|aB.ok (aB.wk a3.cW.2 I)<|bS ab) I<|kZ 6 aa I (bW.get (i:=0) a3.cW.2 ab)<|lq 7 aa aj (fun w' ae=>mL r8 oD jk (cR.md (a5) ae id) aa aa (⟨_,aa⟩)<|a9<|r.getD 0 []) I<|lq 8 aa aj (fun _ _=>bC<|seen.count (r.getD 0 [])+1) I<|dK 9 aa aj aj<|tc r8 jk (a5.wk I) aa aa aa (⟨_,aa⟩) fun bi bu bz=> ?_;have aG:=iQ bu;have bD:dy bi w.heap.size (⟨Y,C,J,O,E,(bL s).length+1⟩:dw) F' br rows' ln' (seen++ [r.getD 0 []]):=dy.Ki ai aG bz<|Kj _ a9;have bt:=dX.ms a0 ai aG;have bV:=bX.mw a0 ai<|fQ.ms ai aG;have dQ:=rL ag;have I:St bi w.heap.size (⟨Y,C,J,O,E,(bL s).length+1⟩:dw) F' rows' ln' (seen++ [r.getD 0 []]):=⟨_,_,bt,bD,⟨av.len,by rw [bG,fg]; omega,av.row,av.kd,av.al⟩⟩
 have b3:=If bp ag;have bR:=yx bo ag;exact eQ aj<|bc 1 aa<|tn<|⟨_,by simp only [cC]; have :=rL ag; omega,k - 1,F',rows',ln',seen++ [r.getD 0 []],a4.1,a4.2,I,b3,bR,bV,aa,aa⟩
 obtain rfl :rows= []:=by
  cases rows with
  | nil=>rfl
  | cons q rest=>exact absurd (by simp only [cC]; omega) bK
 rw [wy] at am;refine aJ 2 aa<|te _<|bc 1 aa<|jl<|jd<|jO<|bg 2 aa ?_;refine eP aa (dW OH (OV w.heap.size (⟨Y,C,J,O,E,(bL s).length+1⟩:dw) F [] ln seen bh ⟨_,_,G,ay,aS⟩ bo.2) aa fun eR cF dl=> ?_) (fun c w' ah σ' cg=>by
  obtain ⟨q,bY,rfl,bv⟩:=ah;exact s5 aa aw ((cg 2<|.head _).trans aa) ((cg 3<|.tail _<|.head _).trans aa) (bU.mw G ay bv) (Ar ap am.symm bY))
 obtain ⟨rfl,dF,⟨cJ,ef,eN,ch,dn⟩,bv⟩:=dl;have aY:=bU.mw G ay bv;have ew:=aY.lo;refine aC 1 aa<|jl<|jd<|jO<|bg 4 aa<|p (ld1 aa<|(a8 dn.cells).trans aa)<|p (cV (ps:= []) (L:= [.int .i64 0,.int .i64 0,.int .i64 0]) uA aa<|aa)<|e<|dd A0 aa aa (v:= .pointer<|some ⟨C,0,none⟩) aa aY.c2 aw fun eX ci cQ=>e<|gA kj aa aa aa aa (ci.bl aY.c3 fun h=>by omega) aw fun d9 cj cS=> ?_;have ck:Md (fun k=>k=aO∨k=aP) cF d9:=(ci.mono fun _ _ h=> .inl h).trans' cj fun _ _ h=> .inr h;refine aC 1 aa<|jl<|C7 ?_;have cq:TF cF [90,47] (fun k=>k=aO∨k=aP):=TF.or (TF.eq (dC aY.c2) aw)<|TF.eq (dC aY.c3) aw;obtain ⟨fm,dG,_⟩:=ch.cm;have de:=ch.md ck cq aw<|cq.no (eJ dG) aw;exact Wy aa aw aa aa (cj.bl cQ fun h=>by omega) cS aa (fun w' hm=>by
  unfold qw;rw [EU ap am.symm dF];exact ⟨⟨C,E,cJ,aa,de.wk hm,⟨seen,aS⟩,bo⟩,(aY.wk.trans' ck fun k hk h=>by omega).trans hm⟩)
end Go.Hb.iF
end
namespace Go.Hb.gZ
def l3 (F:aE) (V:fy):List ag:= [.int .i64 (F.kind:Nat),str F.sL,str F.tr,bf (F.sp.getD 0 0),bf (F.sp.getD 1 0),bf (F.sp.getD 2 0),bf (F.sp.getD 3 0),bf (F.sp.getD 4 0),.int .i64 (F.least:Nat),V.v9,V.v10,V.v11,V.v12]
structure qq (w:ak) (B:Nat) (F:aE) (V:fy):Prop where
 o9:bo w B 189 2 V.v9 F.dp.length (lu F.dp)
 e6:bo w B 51 1 V.v10 F.aliases.length V.sa
 al:eD w B 95 V.sa F.aliases
 eC:bo w B 192 5 V.v11 F.bw.length (nZ F.bw)
 dB:bo w B 134 7 V.v12 F.rules.length (iw<|F.rules.zip V.rn)
 nx:eD w B 95 V.rn (F.rules.map (·.next))
theorem xM {w:ak} {B e:Nat} {vs:List ag} {C:List (List Nat)} (h:eD w B e vs C):vs.all fX=true :=by
 rw [lV];intro v A;obtain ⟨i,hi⟩:=List.getElem?_of_mem A;have h1:=(ff.1 hi).1;obtain ⟨u,hu,hT⟩:=eD.get h (i:=i)<|by rw [← h.1]; exact h1
 rw [hi] at hu; cases hu;obtain ⟨a,c,rfl⟩:=hT.slice; rfl
theorem Xa {w:ak} {B e:Nat} {rs:List cJ} {vs:List ag} {E:List (List Nat)} (h:eD w B e vs E):(iw<|rs.zip vs).all fX=true :=by
 rw [lV];intro v A;obtain ⟨q,C,A⟩:=pG.1 A;have h1:=lV.1 (xM h) q.2 (Ah C).2;simp only [eS,fi,xz,or_false] at A;rcases A with rfl | rfl | rfl | rfl | rfl | rfl | rfl <;> first | rfl | exact h1
theorem Xb {rs:List cJ} {vs:List ag} {i:Nat} {v:ag} (hi:i < rs.length) (G:i < vs.length):(iw<|rs.zip vs).set (i*7 +6) v=iw (rs.zip<|vs.set i v):=by
 obtain ⟨r,E⟩:∃ r,rs[i]? =some r:=⟨_,bY hi⟩
 obtain ⟨u,hu⟩:∃ u,vs[i]? =some u:=⟨_,bY G⟩
 have I:(rs.zip vs)[i]? =some (r,u):=j7.2 ⟨E,hu⟩;have Y:rs.zip (vs.set i v)=(rs.zip vs).set i (r,v):=by
  apply qe;intro j;rw [mr];by_cases C:i=j
  · subst C;rw [if_pos rfl,if_pos (ff.1 I).1];exact j7.2 ⟨E,by simp [G]⟩
  · rw [if_neg C];cases h1:(rs.zip vs)[j]? with
    | none=>
      rw [MP,Ae] at h1 ⊢;rw [xw]; exact h1
    | some q=>
      have h2:=j7.1 h1;exact j7.2 ⟨h2.1,by rw [mr,if_neg C]; exact h2.2⟩
 have Z:(rs.zip vs).length=min rs.length vs.length:=Ae;have A:(iw<|rs.zip vs).length=(rs.zip vs).length*7:=mJ (f:=eS) (m:=7) (fun _=>rfl) _;rw [Y,show iw ((rs.zip vs).set i (r,v))=(iw<|rs.zip vs).take (i*7)++eS (r,v)++(iw<|rs.zip vs).drop (i*7 +7) from Ht (f:=eS) (m:=7) (fun _=>rfl) _ ab];apply qe;intro j;have J:=fun c A=>yl (f:=eS) (m:=7) (fun _=>rfl) (c:=c) I A;have O:∀ c,c < 7→(iw<|rs.zip vs)[i*7 +c]? =(eS (r,u))[c]? :=fun c h=>J c h;have V:((iw<|rs.zip vs).take<|i*7).length=i*7:=by rw [dJ,A]; omega
 rw [mr];by_cases h1:j < i*7
 · rw [if_neg ab,eX,mX ab,oG,if_pos h1]
 · rw [eX,nN ab,V];by_cases h2:j < i*7 +7
   · rw [mX (by show _ < 7; omega)];obtain ⟨c,rfl⟩:∃ c,j=i*7 +c:=⟨j - i*7,ab⟩
     have h3:c < 7:=ab;rw [O c h3,show i*7 +c - i*7=c by omega]
     match c,h3 with
     | 0,_=>rw [if_neg ab]; rfl
     | 1,_=>rw [if_neg ab]; rfl
     | 2,_=>rw [if_neg ab]; rfl
     | 3,_=>rw [if_neg ab]; rfl
     | 4,_=>rw [if_neg ab]; rfl
     | 5,_=>rw [if_neg ab]; rfl
     | 6,_=>rw [if_pos rfl,if_pos ab]; rfl
   · rw [if_neg ab,nN (by show 7≤_; omega),show (eS (r,v)).length=7 from rfl,rh];congr 1; omega
theorem oA {l:List (cJ×ag)} {i:Nat} {q:cJ×ag} (h:l[i]? =some q):iw l≠[]:=fun h2=>by
 have h3:(iw l).length=l.length*7:=mJ (f:=eS) (m:=7) (fun _=>rfl) _;have h4:=(ff.1 h).1;rw [h2] at h3;have h5:0=l.length*7:=h3;omega
theorem AF {F:aE} {V:fy} (I:V.v9.oneCell'=true) (C:V.v10.oneCell'=true) (E:V.v11.oneCell'=true) (G:V.v12.oneCell'=true):(l3 F V).all fX=true :=by
 rw [lV];intro v A;simp only [l3,fi,xz,or_false] at A;rcases A with rfl | rfl | rfl | rfl | rfl | rfl | rfl | rfl | rfl | rfl | rfl | rfl | rfl <;> first | rfl | assumption
theorem N6 {w:ak} {B fb mc:Nat} {F:aE} {V:fy} (h:dX w B fb mc F V):(l3 F V).all fX=true :=AF (e9 h.o9) (e9 h.e6) (e9 h.eC)<|e9 h.dB
theorem A7 {α:Type} {l m:List α} {i:Nat} (h:l.drop i=m.drop i):l[i]? =m[i]? :=by
 have h1:=congrArg (·[0]?) h;simpa using h1
theorem Dd {α:Type} {l:List α} {i:Nat} {x:α} (h:i < l.length):(l.set i x).take (i+1)=l.take i++ [x]:=by
 rw [List.take_add_one,List.take_set_of_le (cE i)]; simp [h]
theorem set_drop {α:Type} {l m:List α} {i:Nat} {x:α} (h:l.drop i=m.drop i):(l.set i x).drop (i+1)=m.drop (i+1):=by
 rw [List.drop_set_of_lt (Nat.lt_succ_self i),show i.succ=i+1 from rfl];simpa [tA] using congrArg (List.drop 1) h
theorem E5 {w:ak} {B e i:Nat} {vs:List ag} {A:List (List Nat)} {v:ag} (h:eD w B e (vs.take i) (A.take i)) (hi:i < A.length) (C:i < vs.length) (hT:Tg w B e (A.getD i []).length v ((A.getD i []).map bf)):eD w B e ((vs.set i v).take<|i+1) (A.take<|i+1):=by
 rw [Dd C,fN A i [] hi]; exact h.snoc hT
theorem Pe (a:Option bF) (n c:Nat) (xs:List ag) (w:ak) (I:aB w.heap a xs) (ae:xs.length=n*2) (V:a=none→n=0) (h1:xs.all fX=true) (hn:n≤1048576):
 ba az 80 (a7 [.slice a n c]) w (fun ai w'=>bo w' w.heap.size 189 2 ai n xs∧Wk w w'):=by
 refine enter func80 aa ntmps80 aa<|bg 9 aa<|p (rF YQ aa aa)<|aQ 2 aa<|cb aa (fun C=> ?_) fun C=> ?_;have Y:a=none:=by simpa using C
 refine aJ 7 aa<|aR aa ?_;have Z:=V Y;subst Z;obtain rfl :=fY (show xs.length=0 by omega);exact ⟨dE _ _ _ _,Md.refl _ _⟩;refine aH 4 aa<|e<|mF zm fun am av an A G=> ?_;have E:=G w.heap.size ab;refine au 1 aa<|e<|ap zm (E) aa (by have :=A.size; omega) aa (I.wk A.md) (ae) (h1) ab ab fun aj al ac O aq ao=> ?_;have J:=Wk.own A.md E O<|cE _;refine p bm<|aC 3 aa<|aR aa ?_;have ah:bo al w.heap.size 189 2 aj n xs:=by simpa using ac
 exact ⟨ah,J⟩
theorem Pd (v:ag) (n:Nat) (xs:List ag) (w:ak) (E:Rd w.heap v n 2 xs) (h1:xs.all fX=true) (hn:n≤1048576):ba az 80 [v].toArray w (fun v w'=>bo w' w.heap.size 189 2 v n xs∧Wk w w'):=by
 obtain ⟨a,c,rfl,A,G,C⟩:=E;exact Pe a n c xs w A G C h1 hn
theorem O7 (a:Option bF) (n c:Nat) (xs:List ag) (w:ak) (I:aB w.heap a xs) (ae:xs.length=n*5) (V:a=none→n=0) (h1:xs.all fX=true) (hn:n≤1048576):
 ba az 81 (a7 [.slice a n c]) w (fun ai w'=>bo w' w.heap.size 192 5 ai n xs∧Wk w w'):=by
 refine enter func81 aa ntmps81 aa<|bg 9 aa<|p (rF YS aa aa)<|aQ 2 aa<|cb aa (fun C=> ?_) fun C=> ?_;have Y:a=none:=by simpa using C
 refine aJ 7 aa<|aR aa ?_;have Z:=V Y;subst Z;obtain rfl :=fY (show xs.length=0 by omega);exact ⟨dE _ _ _ _,Md.refl _ _⟩;refine aH 4 aa<|e<|mF zo fun am av an A G=> ?_;have E:=G w.heap.size ab;refine au 1 aa<|e<|ap zo (E) aa (by have :=A.size; omega) aa (I.wk A.md) (ae) (h1) ab ab fun aj al ac O aq ao=> ?_;have J:=Wk.own A.md E O<|cE _;refine p bm<|aC 3 aa<|aR aa ?_;have ah:bo al w.heap.size 192 5 aj n xs:=by simpa using ac
 exact ⟨ah,J⟩
theorem O6 (v:ag) (n:Nat) (xs:List ag) (w:ak) (E:Rd w.heap v n 5 xs) (h1:xs.all fX=true) (hn:n≤1048576):ba az 81 [v].toArray w (fun v w'=>bo w' w.heap.size 192 5 v n xs∧Wk w w'):=by
 obtain ⟨a,c,rfl,A,G,C⟩:=E;exact O7 a n c xs w A G C h1 hn
theorem Pj (a:Option bF) (n c:Nat) (xs:List ag) (w:ak) (I:aB w.heap a xs) (ae:xs.length=n*1) (V:a=none→n=0) (h1:xs.all fX=true) (hn:n≤1048576):
 ba az 82 (a7 [.slice a n c]) w (fun ai w'=>bo w' w.heap.size 51 1 ai n xs∧Wk w w'):=by
 refine enter func82 aa ntmps82 aa<|bg 9 aa<|p (rF YR aa aa)<|aQ 2 aa<|cb aa (fun C=> ?_) fun C=> ?_;have Y:a=none:=by simpa using C
 refine aJ 7 aa<|aR aa ?_;have Z:=V Y;subst Z;obtain rfl :=fY (show xs.length=0 by omega);exact ⟨dE _ _ _ _,Md.refl _ _⟩;refine aH 4 aa<|e<|mF zn fun am av an A G=> ?_;have E:=G w.heap.size ab;refine au 1 aa<|e<|ap zn (E) aa (by have :=A.size; omega) aa (I.wk A.md) (ae) (h1) ab ab fun aj al ac O aq ao=> ?_;have J:=Wk.own A.md E O<|cE _;refine p bm<|aC 3 aa<|aR aa ?_;have ah:bo al w.heap.size 51 1 aj n xs:=by simpa using ac
 exact ⟨ah,J⟩
theorem Ph (v:ag) (n:Nat) (xs:List ag) (w:ak) (E:Rd w.heap v n 1 xs) (h1:xs.all fX=true) (hn:n≤1048576):ba az 82 [v].toArray w (fun v w'=>bo w' w.heap.size 51 1 v n xs∧Wk w w'):=by
 obtain ⟨a,c,rfl,A,G,C⟩:=E;exact Pj a n c xs w A G C h1 hn
theorem Pg (a:Option bF) (n c:Nat) (xs:List ag) (w:ak) (I:aB w.heap a xs) (ae:xs.length=n*7) (V:a=none→n=0) (h1:xs.all fX=true) (hn:n≤1048576):
 ba az 83 (a7 [.slice a n c]) w (fun ai w'=>bo w' w.heap.size 134 7 ai n xs∧Wk w w'):=by
 refine enter func83 aa ntmps83 aa<|bg 9 aa<|p (rF YH aa aa)<|aQ 2 aa<|cb aa (fun C=> ?_) fun C=> ?_;have Y:a=none:=by simpa using C
 refine aJ 7 aa<|aR aa ?_;have Z:=V Y;subst Z;obtain rfl :=fY (show xs.length=0 by omega);exact ⟨dE _ _ _ _,Md.refl _ _⟩;refine aH 4 aa<|e<|mF zf fun am av an A G=> ?_;have E:=G w.heap.size ab;refine au 1 aa<|e<|ap zf (E) aa (by have :=A.size; omega) aa (I.wk A.md) (ae) (h1) ab ab fun aj al ac O aq ao=> ?_;have J:=Wk.own A.md E O<|cE _;refine p bm<|aC 3 aa<|aR aa ?_;have ah:bo al w.heap.size 134 7 aj n xs:=by simpa using ac
 exact ⟨ah,J⟩
theorem Pf (v:ag) (n:Nat) (xs:List ag) (w:ak) (E:Rd w.heap v n 7 xs) (h1:xs.all fX=true) (hn:n≤1048576):ba az 83 [v].toArray w (fun v w'=>bo w' w.heap.size 134 7 v n xs∧Wk w w'):=by
 obtain ⟨a,c,rfl,A,G,C⟩:=E;exact Pg a n c xs w A G C h1 hn
theorem Pa (a:Option bF) (n c:Nat) (xs:List ag) (w:ak) (I:aB w.heap a xs) (ae:xs.length=n*2) (V:a=none→n=0) (h1:xs.all fX=true) (hn:n≤1048576):
 ba az 84 (a7 [.slice a n c]) w (fun ai w'=>bo w' w.heap.size 53 2 ai n xs∧Wk w w'):=by
 refine enter func84 aa ntmps84 aa<|bg 9 aa<|p (rF YI aa aa)<|aQ 2 aa<|cb aa (fun C=> ?_) fun C=> ?_;have Y:a=none:=by simpa using C
 refine aJ 7 aa<|aR aa ?_;have Z:=V Y;subst Z;obtain rfl :=fY (show xs.length=0 by omega);exact ⟨dE _ _ _ _,Md.refl _ _⟩;refine aH 4 aa<|e<|mF zg fun am av an A G=> ?_;have E:=G w.heap.size ab;refine au 1 aa<|e<|ap zg (E) aa (by have :=A.size; omega) aa (I.wk A.md) (ae) (h1) ab ab fun aj al ac O aq ao=> ?_;have J:=Wk.own A.md E O<|cE _;refine p bm<|aC 3 aa<|aR aa ?_;have ah:bo al w.heap.size 53 2 aj n xs:=by simpa using ac
 exact ⟨ah,J⟩
theorem O9 (v:ag) (n:Nat) (xs:List ag) (w:ak) (E:Rd w.heap v n 2 xs) (h1:xs.all fX=true) (hn:n≤1048576):ba az 84 [v].toArray w (fun v w'=>bo w' w.heap.size 53 2 v n xs∧Wk w w'):=by
 obtain ⟨a,c,rfl,A,G,C⟩:=E;exact Pa a n c xs w A G C h1 hn
theorem Pc (a:Option bF) (n c:Nat) (xs:List ag) (w:ak) (I:aB w.heap a xs) (ae:xs.length=n*1) (V:a=none→n=0) (h1:xs.all fX=true) (hn:n≤1048576):
 ba az 215 (a7 [.slice a n c]) w (fun ai w'=>bo w' w.heap.size 3 1 ai n xs∧Wk w w'):=by
 refine enter func215 aa ntmps215 aa<|bg 9 aa<|p (rF YM aa aa)<|aQ 2 aa<|cb aa (fun C=> ?_) fun C=> ?_;have Y:a=none:=by simpa using C
 refine aJ 7 aa<|aR aa ?_;have Z:=V Y;subst Z;obtain rfl :=fY (show xs.length=0 by omega);exact ⟨dE _ _ _ _,Md.refl _ _⟩;refine aH 4 aa<|e<|mF lx fun am av an A G=> ?_;have E:=G w.heap.size ab;refine au 1 aa<|e<|ap lx (E) aa (by have :=A.size; omega) aa (I.wk A.md) (ae) (h1) ab ab fun aj al ac O aq ao=> ?_;have J:=Wk.own A.md E O<|cE _;refine p bm<|aC 3 aa<|aR aa ?_;have ah:bo al w.heap.size 3 1 aj n xs:=by simpa using ac
 exact ⟨ah,J⟩
theorem Pb (v:ag) (n:Nat) (xs:List ag) (w:ak) (E:Rd w.heap v n 1 xs) (h1:xs.all fX=true) (hn:n≤1048576):ba az 215 [v].toArray w (fun v w'=>bo w' w.heap.size 3 1 v n xs∧Wk w w'):=by
 obtain ⟨a,c,rfl,A,G,C⟩:=E;exact Pc a n c xs w A G C h1 hn
theorem xI (B fb mc:Nat) (F:aE) (V:fy) (w:ak) (aP:dX w B fb mc F V) (dr:F.dp.length+F.aliases.length+F.bw.length+F.rules.length≤70000) (b0:Nx F):
 ba az 41 (a7 [bj fb]) w (fun v w'=>(∃ bD,v= .agg (l3 F bD).toArray∧qq w' w.heap.size F bD)∧Wk w w'):=by
 refine enter func41 aa ntmps41 aa<|bg 2 aa<|e<|gK LF fun bd ai ds bk bG=> ?_;have dw:=bk.size;have ap:=aP.wk bk.md;refine au 6 aa<|p (lh xd aa aa)<|aQ 2 aa<|cf (aa)<|aH 7 aa<|p (cQ Aw aa (aa) (show ∀ j,j < 13→Hb.aV ai.heap fb (0 +j)=(l3 F V)[j]? from fun j aY=>(a8 ap.cells).trans<|by match j,aY with | 0,_=>rfl | 1,_=>rfl | 2,_=>rfl | 3,_=>rfl | 4,_=>rfl | 5,_=>rfl | 6,_=>rfl | 7,_=>rfl | 8,_=>rfl | 9,_=>rfl | 10,_=>rfl | 11,_=>rfl | 12,_=>rfl))<|e<|gK LF fun ah E dt bQ cx=> ?_;have dz:=bQ.size;refine e<|gA AY aa aa aa (N6 ap) cx aw fun a5 bP cy=> ?_;have bH:Wk ai a5:=bQ.md.trans' bP fun q A h=>by omega
 have dA:=bP.size;have cI:=ap.wk bH;have aT:a5.heap[ah]? =some (.cells (l3 F ⟨V.v9,V.v10,V.v11,V.v12,V.sa,V.rn⟩).toArray 102 (0,0)):=cy;refine au 5 aa<|p (ld1 aa<|(a8 aT).trans aa)<|e<|aM (Pd V.v9 F.dp.length (lu F.dp) a5 (Rd.j5 cI.o9) (Bw (fun _=>rfl) _) ab) aa ?_;rintro Z cm ⟨b3,bh⟩;have dv:=bh.size;have b5:=eR b3 (show E.heap.size≤a5.heap.size by omega);refine au 1 aa<|e<|dd Ge aa aa (v:=Z) (e9 b3) (bh.bl aT) (by show _ < 13; omega) fun a9 bi cA=> ?_;have bJ:Wk ai a9:=(bH.trans bh).trans' bi fun q A h=>by omega
 have dC:=bi.size;have cJ:=ap.wk bJ;have b6:=da b5 bi fun q A h=>by have :=(dH b5 A).1; omega
 have bV:a9.heap[ah]? =some (.cells (l3 F ⟨Z,V.v10,V.v11,V.v12,V.sa,V.rn⟩).toArray 102 (0,0)):=cA;refine au 5 aa<|p (ld1 aa<|(a8 bV).trans aa)<|e<|aM (O6 V.v11 F.bw.length (nZ F.bw) a9 (Rd.j5 cJ.eC) (Bw (fun _=>rfl) _) ab) aa ?_;rintro v20 dL ⟨b8,aG⟩;have dx:=aG.size;have b9:=eR b8 (show E.heap.size≤a9.heap.size by omega);refine au 1 aa<|e<|dd Gg aa aa (v:=v20) (e9 b8) (aG.bl bV) (by show _ < 13; omega) fun bb aS cB=> ?_;have bL:Wk ai bb:=(bJ.trans aG).trans' aS fun q A h=>by omega
 have dE:=aS.size;have bN:=ap.wk bL;have b7:=da (aU b6 aG) aS fun q A h=>by have :=(dH (aU b6 aG) A).1; omega
 have ca:=da b9 aS fun q A h=>by have :=(dH b9 A).1; omega
 have bW:bb.heap[ah]? =some (.cells (l3 F ⟨Z,V.v10,v20,V.v12,V.sa,V.rn⟩).toArray 102 (0,0)):=cB;refine au 5 aa<|p (ld1 aa<|(a8 bW).trans aa)<|e<|aM (Ph V.v10 F.aliases.length V.sa bb (Rd.j5 bN.e6) (xM bN.al) ab) aa ?_;rintro v24 dM ⟨cb,aq⟩;have dy:=aq.size;have cc:=eR cb (show E.heap.size≤bb.heap.size by omega);refine au 1 aa<|e<|dd Gf aa aa (v:=v24) (e9 cb) (aq.bl bW) (by show _ < 13; omega) fun co aK cC=> ?_;have cG:Wk ai co:=(bL.trans aq).trans' aK fun q A h=>by omega
 have dF:=aK.size;have c7:=da (aU b7 aq) aK fun q A h=>by have :=(dH (aU b7 aq) A).1; omega
 have c1:=da (aU ca aq) aK fun q A h=>by have :=(dH (aU ca aq) A).1; omega
 have b1:=da cc aK fun q A h=>by have :=(dH cc A).1; omega
 have bX:co.heap[ah]? =some (.cells (l3 F ⟨Z,v24,v20,V.v12,V.sa,V.rn⟩).toArray 102 (0,0)):=cC;obtain ⟨am,an,rfl⟩:=cz b1;have dh:=aP.al.1;refine au 6 aa<|p (ld1 aa<|(a8 bX).trans aa)<|aQ 5 aa<|lp (fun aF cq O=> ∃ (i:Nat) (sa:List ag),(i≤F.aliases.length)∧(sa.length=F.aliases.length)∧(sa.drop i=V.sa.drop i)∧(eD O E.heap.size 95 (sa.take i)<|F.aliases.take i)∧(bo O E.heap.size 51 1 (.slice am F.aliases.length an) F.aliases.length<|sa)∧(bo O E.heap.size 189 2 (Z) F.dp.length<|lu F.dp)∧(bo O E.heap.size 192 5 (v20) F.bw.length<|nZ F.bw)∧(O.heap[ah]? =some (.cells (l3 F ⟨Z,.slice am F.aliases.length an,v20,V.v12,V.sa,V.rn⟩).toArray 102 (0,0)))∧(Wk ai O)∧(E.heap.size≤O.heap.size)∧(Sl cq [(2,bj bd),(3,bj ah),(27,.slice am F.aliases.length an),(28,ay (F.aliases.length)),(29,ay i)])∧(F.aliases.length - i=aF)) _ ⟨0,V.sa,ab,dh,aa,(eD.nil _ _ _),b1,c7,c1,bX,cG,(ab),aa,aa⟩ ?_;rintro aF cq O ⟨i,sa,hi,aN,cj,bs,Y,a3,a1,aL,aO,dG,df,rfl⟩;refine bA df<|bq 6 aa<|cd aa (fun aT=> ?_) fun aT=> ?_;refine bz 5 aa ?_;obtain ⟨dJ,di,bp⟩:=eD.get (ap.wk aO).al (show i < F.aliases.length by omega);obtain ⟨cu,ci,rfl⟩:=bp.slice;refine aH 2 aa<|p (a6 Bg aa aa ab<|aB.ok ((aX Y).2) fun h=>by rw [h] at aN; simp at aN; omega)<|p (ld1 aa<|aB.gV (aX Y).2<|(A7 cj).trans di)<|au 1 aa<|p bm<|aQ 2 aa<|l9 6 fun aA=>gH [0] aa aA<|kZ 1 aa aA ((a8 aL).trans aa)<|gH [2] aa aA<|qK 3 aa (mv) aA<|gN 4 aa aj<|aM (tV cu (F.aliases.getD i []).length ci ((F.aliases.getD i []).map bf) O.drew (aB.wk bp.cW.2 aA) (by simp) (fun h=>Tg.uu bp (by simp) h) (tO _)<|by have :=b0.1 _ (dR (d:= []) (show i < F.aliases.length by omega)); omega) aa ?_;rintro dk cn ⟨bv,bI⟩;have I:Wk O cn:=aA.trans bI;have cK:=I;have bR:(fun w'=>Wk O w') cn:=aA.trans bI;refine ⟨bR,?_⟩;refine qK 5 aa (a6 Bg aa aa ab<|aB.ok ((aX Y).2) fun h=>by rw [h] at aN; simp at aN; omega) bR<|dK 6 aa aj aj<|uB (j:=i) (aU Y I) tY aa aa (e9 bv) (by simp) ab fun dl av cV=> ?_;have cD:Wk ai dl:=Wk.own (aO.trans I) (aU Y I) av ab;have c3:=da (eR bv (show E.heap.size≤O.heap.size by omega)) av fun q A=>nA bv (aU Y I) aw A;have cM:=(bs.wk I).md av<|iO (aU Y I) aw;have c5:=da (aU a3 I) av fun q A=>nA (aU a3 I) (aU Y I) aw A;have cZ:=da (aU a1 I) av fun q A=>nA (aU a1 I) (aU Y I) aw A;have cR:=av.bl (Wk.bl I aL) fun h=>by have :=(dH (aU Y I) h).1; omega
 exact eQ aj<|bc 6 aa<|tn<|⟨_,ab,i+1,sa.set i dk,ab,(by rw [xw]; exact aN),(set_drop cj),(E5 cM ab ab<|Tg.j5 c3),cV,c5,cZ,cR,cD,(by have :=cK.size; have :=av.size; omega),aa,aa⟩
 refine aJ 2 aa<|bK<|dq 5 aa<|p (ld1 aa<|(a8 aL).trans aa)<|e<|aM (Pf V.v12 F.rules.length (iw<|F.rules.zip V.rn) O (Rd.j5 (ap.wk aO).dB) (Xa aP.nx) ab) aa ?_;rintro ck dN ⟨ce,ac⟩;have dD:=ac.size;have cg:=eR ce (show E.heap.size≤O.heap.size by omega);rw [eY ab,eY ab] at bs;refine au 1 aa<|e<|dd F4 aa aa (v:=ck) (e9 ce) (Wk.bl ac aL) (by show _ < 13; omega) fun cl ax cv=> ?_;have cE:Wk ai cl:=(aO.trans ac).trans' ax fun q A h=>by omega
 have du:=ax.size;have c8:=da (aU a3 ac) ax fun q A h=>by have :=(dH (aU a3 ac) A).1; omega
 have cY:=da (aU Y ac) ax fun q A h=>by have :=(dH (aU Y ac) A).1; omega
 have c2:=da (aU a1 ac) ax fun q A h=>by have :=(dH (aU a1 ac) A).1; omega
 have b2:=da cg ax fun q A h=>by have :=(dH cg A).1; omega
 have cO:=(bs.wk ac).md ax<|fL (Wk.bl ac aL) aw;have bT:cl.heap[ah]? =some (.cells (l3 F ⟨Z,.slice am F.aliases.length an,v20,ck,V.sa,V.rn⟩).toArray 102 (0,0)):=cv;obtain ⟨a12,aD,rfl⟩:=cz b2;have dc:V.rn.length=F.rules.length:=by have :=aP.nx.1; rwa [fC] at this
 refine au 6 aa<|p (ld1 aa<|(a8 bT).trans aa)<|aQ 5 aa<|lp (fun aF ct G=> ∃ (i:Nat) (rn:List ag),(i≤F.rules.length)∧(rn.length=F.rules.length)∧(rn.drop i=V.rn.drop i)∧(eD G E.heap.size 95 (rn.take i)<|(F.rules.map (·.next)).take i)∧(bo G E.heap.size 134 7 (.slice a12 F.rules.length aD) F.rules.length<|iw<|F.rules.zip rn)∧(bo G E.heap.size 189 2 (Z) F.dp.length<|lu F.dp)∧(bo G E.heap.size 51 1 (.slice am F.aliases.length an) F.aliases.length<|sa)∧(eD G E.heap.size 95 sa F.aliases)∧(bo G E.heap.size 192 5 (v20) F.bw.length<|nZ F.bw)∧(G.heap[ah]? =some (.cells (l3 F ⟨Z,.slice am F.aliases.length an,v20,.slice a12 F.rules.length aD,V.sa,V.rn⟩).toArray 102 (0,0)))∧(Wk ai G)∧(E.heap.size≤G.heap.size)∧(Sl ct [(2,bj bd),(3,bj ah),(47,ay (F.rules.length)),(48,ay i)])∧(F.rules.length - i=aF)) _ ⟨0,V.rn,ab,dc,aa,(eD.nil _ _ _),b2,c8,cY,cO,c2,bT,cE,(ab),aa,aa⟩ ?_;rintro aF ct G ⟨i,rn,hi,de,ch,bt,J,a4,a0,bS,a2,aW,aI,dI,dg,rfl⟩;refine bA dg<|bq 6 aa<|cd aa (fun cP=> ?_) fun cP=> ?_;refine bz 5 aa ?_;obtain ⟨vn,dj,br⟩:=eD.get (ap.wk aI).nx (show i < (F.rules.map (·.next)).length by rw [fC]; omega);obtain ⟨bE,bF,rfl⟩:=br.slice;obtain ⟨q,bB⟩:∃ q,F.rules[i]? =some q:=⟨_,bY ab⟩
 have db:(F.rules.map (·.next)).getD i []=q.next:=by rw [cH,fJ,bB]; rfl
 have c9:=b0.2 q<|gB bB;rw [← db] at c9;have bC:(F.rules.zip rn)[i]? =some (q,.slice bE ((F.rules.map (·.next)).getD i []).length bF):=j7.2 ⟨bB,(A7 ch).trans dj⟩;refine bz 5 aa<|l9 12 fun ae=>bU [0] aa ae<|ma 1 aa ae ((a8 aW).trans aa)<|bU [2,3] aa ae<|ma 4 aa ae ((a8 aW).trans aa)<|bU [5] aa ae<|cT 6 aa (a6 nk aa aa ab<|aB.ok ((aX J).2)<|oA bC) ae<|bU [7] aa ae<|ma 8 aa ae (fI (f:=eS) (m:=7) (fun _=>rfl) (aX J).2 bC 6 aw)<|gN 9 aa aj<|aM (tV bE ((F.rules.map (·.next)).getD i []).length bF (((F.rules.map (·.next)).getD i []).map bf) G.drew (aB.wk br.cW.2 ae) (by simp) (fun h=>Tg.uu br (by simp) h) (tO _) ab) aa ?_;rintro v60 cp ⟨bx,bM⟩;have C:Wk G cp:=ae.trans bM;have cL:=C;have bn:(fun w'=>Wk G w') cp:=ae.trans bM;refine ⟨bn,?_⟩;refine cT 10 aa (a6 nk aa aa ab<|aB.ok ((aX J).2)<|oA bC) bn<|bU [11] aa bn<|dK 12 aa aj aj<|uB (j:=i*7 +6) (aU J C) tY aa aa (e9 bx) (by rw [kg]; omega) ab fun cm ao b4=> ?_;rw [Xb ab ab] at b4;have cF:Wk ai cm:=Wk.own (aI.trans C) (aU J C) ao ab;have c4:=da (eR bx (show E.heap.size≤G.heap.size by omega)) ao fun q A=>nA bx (aU J C) aw A;have cU:=(bt.wk C).md ao<|iO (aU J C) aw;have cN:=(bS.wk C).md ao<|iO (aU J C) aw;have c6:=da (aU a4 C) ao fun q A=>nA (aU a4 C) (aU J C) aw A;have cX:=da (aU a0 C) ao fun q A=>nA (aU a0 C) (aU J C) aw A;have c0:=da (aU a2 C) ao fun q A=>nA (aU a2 C) (aU J C) aw A;have cS:=ao.bl (Wk.bl C aW) fun h=>by have :=(dH (aU J C) h).1; omega
 exact eQ aj<|bc 6 aa<|tn<|⟨_,ab,i+1,rn.set i v60,ab,(by rw [xw]; exact de),(set_drop ch),(E5 cU (by rw [fC]; omega) ab<|Tg.j5 c4),b4,c6,cX,cN,c0,cS,cF,(by have :=cL.size; have :=ao.size; omega),aa,aa⟩
 refine aJ 2 aa<|bK<|dq 4 aa<|p (cQ Aw aa (aa) (show ∀ j,j < 13→Hb.aV G.heap ah (0 +j)=(l3 F ⟨Z,.slice am F.aliases.length an,v20,.slice a12 F.rules.length aD,V.sa,V.rn⟩)[j]? from fun j aY=>(a8 aW).trans<|by match j,aY with | 0,_=>rfl | 1,_=>rfl | 2,_=>rfl | 3,_=>rfl | 4,_=>rfl | 5,_=>rfl | 6,_=>rfl | 7,_=>rfl | 8,_=>rfl | 9,_=>rfl | 10,_=>rfl | 11,_=>rfl | 12,_=>rfl))<|e<|gA AY aa aa aa (AF (e9 a4) (e9 a0) (e9 a2)<|e9 J) (Wk.bl aI bG) aw fun dn aR cw=>aC 3 aa<|vJ aa (dU (cs:=l3 F ⟨Z,.slice am F.aliases.length an,v20,.slice a12 F.rules.length aD,V.sa,V.rn⟩) aa Aw aa fun j aY=>(bO.bu ⟨_,cw⟩ j).trans aa) ?_;have aZ:∀ {t s n:Nat} {v:ag} {xs:List ag},bo G E.heap.size t s v n xs→bo dn w.heap.size t s v n xs:=fun h=>eR (da h aR fun q A h2=>by have :=(dH h A).1; omega) ab;rw [eY ab,eY (by rw [fC]; omega)] at bt;have bZ:∀ k,k=bd→∀ cur z,G.heap[k]?≠some (.cells cur 95 z):=fL (Wk.bl aI bG) aw;exact ⟨⟨⟨Z,.slice am F.aliases.length an,v20,.slice a12 F.rules.length aD,sa,rn⟩,aa,⟨aZ a4,aZ a0,(bS.md aR bZ).mono ab,aZ a2,aZ J,(bt.md aR bZ).mono ab⟩⟩,(bk.md.trans aI).trans' aR fun q A h=>by omega⟩
end Go.Hb.gZ
section
namespace Go.Hb
open Go.Hb.iF Go.Hb.gZ
noncomputable def lO (r:List Tx):Nat×Int:=if r.length≠1 then (0,111) else ee (r.getD 0 []) 8192
def Nj (w0 w':ak) (X:Except Nat bp) (v:ag):Prop :=(∃ x a,X= .ok x∧v= .tuple #[.agg [str x.1,a].toArray,.int .i64 (0:Nat)]∧bo w' w0.heap.size 95 1 a x.2.length (x.2.map bf))∨(∃ e,X= .error e∧e≠0∧v= .tuple #[.agg [str [],.slice none 0 0].toArray,.int .i64 (e:Nat)])
theorem Jw {s:Tx} {i:Nat} (hi:i < s.length):(s.take<|i+1).drop i= [s.getD i 0]:=by
 rw [wS 0 (cE i) hi,iR (by rw [dJ]; omega),List.nil_append]
theorem Lp (b:UInt8):qV [b]=jh b:=by unfold qV; rw [Ow]; cases jh b <;> rfl
theorem Gl {F:aE} {x:Nat} (h:(eb F.bw x).isSome=true∨x∈F.sp):eM F x=true :=by
 unfold eM; rcases h with h | h
 · rw [h,Bool.or_true]
 · rw [decide_eq_true h]; rfl
theorem QC {F:aE} {x:Nat} (h:(eb F.bw x).isSome=false) (h1:x∉F.sp):eM F x=false :=by
 unfold eM; rw [h,decide_eq_false h1]; rfl
theorem XM {F:aE} (h:F.sp.length=5):[F.sp.getD 0 0,F.sp.getD 1 0,F.sp.getD 2 0,F.sp.getD 3 0,F.sp.getD 4 0]=F.sp:=by
 match F.sp,h with
 | [a,b,c,d,e],_=>rfl
theorem TH (a:Option bF) (c:Nat) (l:List Nat) (x:Nat) (w:ak) (C:aB w.heap a (l.map bf)) (ac:l.length≤1048576):
 ba az 207 (a7 [.slice a l.length c,bf x]) w (fun v w'=>(∃ k:Int,v= .int .i64 k∧(0≤k↔x∈l)∧ -1≤k∧k≤1048576)∧Wk w w'):=by
 refine enter func207 aa ntmps207 aa<|bq 14 aa<|lp (fun A O J=> ∃ (i:Nat),(i≤l.length)∧(∀ j,j < i→l.getD j 0≠x)∧(J=w)∧(Sl O [(0,.slice a l.length c),(1,bf x),(7,ay (l.length)),(8,ay i)])∧(l.length - i=A)) _ ⟨0,ab,(fun j G=>by omega),aa,aa,aa⟩ ?_;rintro A O J ⟨i,hi,I,V,Z,rfl⟩;refine bA Z ?_;subst V;refine bq 6 aa<|cd aa (fun Y=> ?_) fun Y=> ?_;refine aH 12 aa<|ep (bf x)<|au 2 aa<|p (a6 bX aa aa ab<|aB.ok (C)<|bS ab)<|p (ld1 aa<|aB.gV C (show (l.map bf)[i]? =some (bf<|l.getD i 0) by rw [fJ,cH,bY (by omega :i < l.length)]; rfl)) ?_;refine aQ 3 aa<|cd aa (fun E=> ?_) fun E=> ?_;exact aJ 9 aa<|tr<|bc 2 aa<|aR aa<|⟨⟨(i:Nat),aa,⟨fun _=>by obtain rfl :x=l.getD i 0:=ab; exact dR ab,fun _=>by omega⟩,ab,ab⟩,Md.refl _ _⟩
 exact aJ 7 aa<|tn<|⟨_,ab,i+1,ab,(fun j G=>by rcases fG j i with h | h <;> first | exact I j h | (rw [show j=i by omega]; exact fun h2=>E<|by rw [h2])),aa,aa,aa⟩
 exact aJ 2 aa<|bK<|bc 8 aa<|aR aa<|⟨⟨-1,aa,⟨fun h=>absurd h ab,fun h=>by obtain ⟨j,G,e⟩:=mM 0 h; exact absurd e<|I j ab⟩,ab,ab⟩,Md.refl _ _⟩
theorem PW (a:Option bF) (c:Nat) (l:List Nat) (x:Nat) (w:ak) (A:aB w.heap a (l.map bf)) (E:l.length≤1048576):
 ba az 141 (a7 [.slice a l.length c,bf x]) w (fun v w'=>v= .bool (decide (x∈l))∧Wk w w'):=by
 refine enter func141 aa ntmps141 aa<|bg 8 aa<|ep (bf x)<|e<|aM (TH a c l x w A E) aa ?_;rintro J O ⟨⟨G,rfl,C,I⟩,hE7⟩;exact aC 5 aa<|aR aa<|⟨by show bR (decide (G≥0))=_; exact congrArg bR (decide_eq_decide.2 C),hE7⟩
theorem tZ (ln er:Int) (w:ak):
 ba az 77 (a7 [.int .i64 ln,.int .i64 er]) w (fun v w'=>v= .agg [.int .i64 2,.int .i64 ln,.int .i64 er].toArray∧Wk w w'):=by
 exact enter func77 aa ntmps77 aa<|bg 2 aa<|e<|al q4 fun I Y J G C=>au 6 aa<|p (cV (ps:= [(0,.int .i64 2),(1,.int .i64 ln),(2,.int .i64 er)]) (L:= [.int .i64 2,.int .i64 ln,.int .i64 er]) uA aa<|aa)<|e<|c8 kj aa aa aa aa (C) (by simp) fun Z E A=>aC 3 aa<|vJ aa (dU (cs:= [.int .i64 2,.int .i64 ln,.int .i64 er]) aa lJ aa fun j O=>A.bu j)<|⟨aa,G.md.trans' E fun q V h=>by omega⟩
theorem QS (n:Nat) (r:List Tx) (B:Nat) (a:Option bF) (c:Nat) (w:ak) (hT:Tg w B 9 r.length (.slice a r.length c) (r.map str)) (J:∀ x∈r,x.length≤70000) (Z:r.length≤70000):
 ba az 78 (a7 [.agg [ay n,.slice a r.length c].toArray]) w (fun v w'=>v= .tuple #[ay ((lO r).1),.int .i64 (lO r).2]∧Wk w w'):=by
 refine enter func78 aa ntmps78 aa<|bg 2 aa<|e<|iL aa fun V O Y A C=> ?_;have E:=hT.wk A.md;refine au 8 aa<|p (ld1 aa<|(C.aV 1).trans aa)<|aQ 4 aa<|cd aa (fun I=> ?_) fun I=> ?_;refine aJ 8 aa<|f2 aa aa aa ?_;have h1:r.length≠1:=ab;exact ⟨by unfold lO; rw [if_pos h1]; rfl,A.md⟩;refine aH 5 aa<|p (ld1 aa<|(C.aV 1).trans aa)<|p (a6 cM aa aa ab<|aB.ok (E.cW.2)<|bS ab)<|p (ld1 aa<|bW.get (i:=0) E.cW.2 ab)<|e<|aM (yQ (r.getD 0 []) 8192 O (by have :=J _ (dR (d:= []) (show 0 < r.length by omega)); omega) ab) aa ?_;rintro v12 ac ⟨rfl,G⟩;refine aC 7 aa<|f2 aa aa aa ?_;have h1:¬r.length≠1:=ab;exact ⟨by unfold lO; rw [if_neg h1]; rfl,A.md.trans G⟩
theorem QJ (B fb mc:Nat) (F:aE) (V:fy) (n:Nat) (r:List Tx) (bl:Nat) (ar:Option bF) (cr:Nat) (w:ak) (aK:dX w B fb mc F V) (bH:∃ seen,k6 F [] seen) (bX:Tg w bl 9 r.length (.slice ar r.length cr) (r.map str)) (b9:∀ x∈r,x.length≤70000) (cq:r.length≤70000):
 ba az 79 (a7 [bj fb,.agg [bf (F.sp.getD 0 0),bf (F.sp.getD 1 0),bf (F.sp.getD 2 0),bf (F.sp.getD 3 0),bf (F.sp.getD 4 0)].toArray,.agg [ay n,.slice ar r.length cr].toArray]) w (fun v w'=>Nj w w' (gh F r) v∧Wk w w'):=by
 obtain ⟨seen,aq⟩:=bH;have cp:=aq.len;have cv:=td<|r.getD 0 [];refine enter func79 aa ntmps79 aa<|bg 2 aa<|e<|iL aa fun aD cJ cm a4 bC=>e<|iL aa fun ci cL cn aL bE=>e<|al sd fun aZ bd co aA a0=> ?_;have av:Wk w bd:=a4.md.trans<|aL.md.trans aA.md;have b8:=aA.md.B<|aL.md.B bC;have bb:=aA.md.B bE;have hT:=bX.wk av;have bL:=aK.wk av;have cy:=a4.size;have cA:=aL.size;have cB:=aA.size;refine au 7 aa<|p (ld1 aa<|(bb.aV 1).trans aa)<|aQ 4 aa<|cd aa (fun bZ=> ?_) fun bZ=> ?_;exact aH 2 aa<|p (cV (ps:= []) (L:= [.string ⟨⟨[]⟩⟩,.slice none 0 0]) pf aa<|aa)<|e<|c8 kT aa aa aa aa (a0) (by simp) fun cY bU bB=>aC 5 aa<|eF aa (dU (cs:= [str [],.slice none 0 0]) aa l0 aa fun j E=>bB.bu j) et<|⟨.inr ⟨111,GC ab,aw,aa⟩,av.trans' bU fun q A h=>by omega⟩
 have I:r.length=1:=ab;have ct:(r.getD 0 []).length≤70000:=b9 _<|dR ab;refine aH 5 aa<|p (ld1 aa<|(bb.aV 1).trans aa)<|p (a6 cM aa aa ab<|aB.ok (hT.cW.2)<|bS ab)<|p (ld1 aa<|bW.get (i:=0) hT.cW.2 ab)<|e<|aM (DS (r.getD 0 []) bd ab) aa ?_;rintro v28 cf ⟨rfl,ai⟩;have ac:=av.trans ai;have ae:=ai.B a0;have cx:=ai.size;refine p mv<|aQ 17 aa<|cd aa (fun b0=> ?_) fun b0=> ?_;exact aH 2 aa<|p (cV (ps:= []) (L:= [.string ⟨⟨[]⟩⟩,.slice none 0 0]) pf aa<|aa)<|au 1 aa<|e<|c8 kT aa aa aa aa (ae) (by simp) fun cZ bV bG=>aC 5 aa<|eF aa (dU (cs:= [str [],.slice none 0 0]) aa l0 aa fun j E=>bG.bu j) et<|⟨.inr ⟨_,x8 I ab,ab,aa⟩,ac.trans' bV fun q A h=>by omega⟩
 have O:(bD<|r.getD 0 []).2.2.2=0:=ab;refine bz 11 aa<|lp (fun ag bi ap=> ∃ (i:Nat),(i≤(bD<|r.getD 0 []).1.length)∧(∀ j,j < i→jh ((bD<|r.getD 0 []).1.getD j 0)=true)∧(Wk cf ap)∧(Sl bi [(0,bj fb),(4,bj aD),(6,bj aZ),(8,str (bD<|r.getD 0 []).1),(9,str (bD<|r.getD 0 []).2.1),(10,.bool (bD<|r.getD 0 []).2.2.1),(38,ay ((bD<|r.getD 0 []).1.length)),(39,ay i)])∧((bD<|r.getD 0 []).1.length - i=ag)) _ ⟨0,ab,(fun j E=>by omega),(Md.refl _ _),aa,aa⟩ ?_;rintro ag bi ap ⟨i,hi,a8,C,ca,rfl⟩;refine bA ca<|bq 6 aa<|cd aa (fun b1=> ?_) fun b1=> ?_;refine aH 16 aa<|p (mR u9 aa aa aa ab)<|e<|aM (Lq (((bD<|r.getD 0 []).1.take<|i+1).drop i) ap<|by rw [Jw ab]; simp) aa ?_;rintro cE cK ⟨rfl,bJ⟩;have a9:=Jw (s:=(bD<|r.getD 0 []).1) (i:=i) ab;have aF:=C.trans bJ;refine aQ 3 aa<|cb aa (fun aP=> ?_) fun aP=> ?_;have aT:jh ((bD<|r.getD 0 []).1.getD i 0)=false :=by rw [← Lp,← a9]; simpa using aP
 exact aH 2 aa<|p (cV (ps:= []) (L:= [.string ⟨⟨[]⟩⟩,.slice none 0 0]) pf aa<|aa)<|e<|c8 kT aa aa aa aa (Wk.B aF ae) (by simp) fun cP bM bn=>aC 6 aa<|tr<|bc 2 aa<|eF aa (dU (cs:= [str [],.slice none 0 0]) aa l0 aa fun j E=>bn.bu j) et<|⟨.inr ⟨21,x9 I O (.inl<|tU ab aT),aw,aa⟩,(ac.trans aF).trans' bM fun q A h=>by omega⟩
 have aT:jh ((bD<|r.getD 0 []).1.getD i 0)=true :=by rw [← Lp,← a9]; simpa using aP
 exact aJ 7 aa<|tn<|⟨_,ab,i+1,ab,(fun j E=>by rcases fG j i with h | h <;> first | exact a8 j h | (rw [show j=i by omega]; exact aT)),aF,aa,aa⟩
 refine aJ 2 aa<|bK<|dz 11 aa<|cd aa (fun J=> ?_) fun J=> ?_;exact aH 2 aa<|p (cV (ps:= []) (L:= [.string ⟨⟨[]⟩⟩,.slice none 0 0]) pf aa<|aa)<|e<|c8 kT aa aa aa aa (Wk.B C ae) (by simp) fun cQ bN bp=>aC 6 aa<|eF aa (dU (cs:= [str [],.slice none 0 0]) aa l0 aa fun j E=>bp.bu j) et<|⟨.inr ⟨21,x9 I O (.inr J),aw,aa⟩,(ac.trans C).trans' bN fun q A h=>by omega⟩
 have aj:=vA (w:=(bD<|r.getD 0 []).1) fun j E=>a8 j ab;refine bz 8 aa<|cd aa (fun b2=> ?_) fun b2=> ?_;exact aH 2 aa<|p (cV (ps:= []) (L:= [.string ⟨⟨[]⟩⟩,.slice none 0 0]) pf aa<|aa)<|e<|c8 kT aa aa aa aa (Wk.B C ae) (by simp) fun cR bO br=>aC 6 aa<|eF aa (dU (cs:= [str [],.slice none 0 0]) aa l0 aa fun j E=>br.bu j) et<|⟨.inr ⟨22,GD I O aj J ab,aw,aa⟩,(ac.trans C).trans' bO fun q A h=>by omega⟩
 refine bz 7 aa<|cb aa (fun am=> ?_) fun am=> ?_;exact aH 3 aa<|p (cV (ps:= [(0,str (bD<|r.getD 0 []).1)]) (L:= [str (bD<|r.getD 0 []).1,.slice none 0 0]) pf aa<|aa)<|e<|c8 kT aa aa aa aa (Wk.B C ae) (by simp) fun cS bP bt=>aC 6 aa<|eF aa (dU (cs:= [str (bD<|r.getD 0 []).1,.slice none 0 0]) aa l0 aa fun j E=>bt.bu j) et<|⟨.inl ⟨_,.slice none 0 0,GF I O aj J ab (by simpa using am),aa,dE _ _ _ _⟩,(ac.trans C).trans' bP fun q A h=>by omega⟩
 refine aH 7 aa<|e<|aM (G1 B fb mc F V (bD<|r.getD 0 []).2.1 ap (bL.wk<|ai.trans C) aq.kd aq.al ab ab) aa ?_;rintro ce aW ⟨b5,aG⟩;have ax:=ac.trans<|C.trans aG;have aO:=Wk.B (C.trans aG) ae;obtain ⟨cg,cj,rfl,a5⟩:∃ a,∃ e:Nat,ce= .tuple #[a,ay e]∧((e=0∧∃ l,gx F.kind F.aliases (bD<|r.getD 0 []).2.1= .ok l∧bo aW ap.heap.size 95 1 a l.length (l.map bf))∨(e≠0∧gx F.kind F.aliases (bD<|r.getD 0 []).2.1= .error e)):=by
  rcases b5 with ⟨a,l,h1,h2,h3⟩ | ⟨a,e,h1,h2,h3⟩;exact ⟨a,0,h1,.inl ⟨aa,l,h2,h3⟩⟩;exact ⟨a,e,h1,.inr ⟨h2,h3⟩⟩
 refine p mv<|au 2 aa<|p bm<|aQ 10 aa<|cd aa (fun b3=> ?_) fun b3=> ?_;obtain ⟨b7,an⟩:=a5.resolve_left fun h=>by omega
 exact aH 2 aa<|p (cV (ps:= []) (L:= [.string ⟨⟨[]⟩⟩,.slice none 0 0]) pf aa<|aa)<|au 1 aa<|e<|c8 kT aa aa aa aa (aO) (by simp) fun cT bQ bv=>aC 5 aa<|eF aa (dU (cs:= [str [],.slice none 0 0]) aa l0 aa fun j E=>bv.bu j) et<|⟨.inr ⟨_,GG I O aj J ab (by simpa using am) an,b7,aa⟩,ax.trans' bQ fun q A h=>by omega⟩
 obtain ⟨_,set,an,ao⟩:=a5.resolve_right fun h=>by omega
 obtain ⟨Y,Z,rfl⟩:=cz ao;have cu:=yi (fun l b6=>(aq.al l b6).1) an;refine aH 5 aa<|p mv<|aQ 5 aa<|lp (fun ag bk aY=> ∃ (j:Nat),(j≤set.length)∧(∀ q,q < j→eM F (set.getD q 0)=true)∧(Wk aW aY)∧(Sl bk [(0,bj fb),(4,bj aD),(6,bj aZ),(8,str (bD<|r.getD 0 []).1),(13,.slice Y set.length Z),(75,.slice Y set.length Z),(76,ay (set.length)),(77,ay j)])∧(set.length - j=ag)) _ ⟨0,ab,(fun q A=>by omega),(Md.refl _ _),aa,aa⟩ ?_;rintro ag bk aY ⟨j,E,aN,G,cc,rfl⟩;refine bA cc<|bq 6 aa<|cd aa (fun b4=> ?_) fun b4=> ?_;refine aH 6 aa<|p (a6 GL aa aa ab<|aB.ok ((aX<|aU ao G).2)<|bS ab)<|p (ld1 aa<|aB.gV (aX<|aU ao G).2 (show (set.map bf)[j]? =some (bf<|set.getD j 0) by rw [fJ,cH,bY (by omega :j < set.length)]; rfl)) ?_;refine au 7 aa<|e<|aM (Bk B fb mc F V (set.getD j 0) aY (aK.wk<|ax.trans G) ab) aa ?_;rintro cF cN ⟨rfl,a1⟩;have cC:=a1.size;have cD:=G.size;refine p mv<|au 2 aa<|e<|al uN fun ch cI cl a3 bs=>e<|c8 sM aa aa aa aa (bs) (by simp) fun bh bR ck=> ?_;have cw:=a3.size;have ah:Wk aW bh:=(G.trans<|a1.trans a3.md).trans' bR fun q A h=>by omega
 refine au 8 aa<|gb (t:=89) aa (fun aS=> ?_) fun aS=> ?_;refine bI aa (N5 vw aa)<|au 1 aa<|eg aa aa aa<|aM (PW (some ⟨aD,0,none⟩) 5 [F.sp.getD 0 0,F.sp.getD 1 0,F.sp.getD 2 0,F.sp.getD 3 0,F.sp.getD 4 0] (set.getD j 0) bh (aB.dT<|Wk.B ((ai.trans<|C.trans aG).trans ah) b8)<|by simp) aa ?_;rintro cG cO ⟨rfl,aI⟩;rw [XM aK.gl] at*;refine aQ 4 aa<|cb aa (fun aR=> ?_) fun aR=> ?_;exact aH 2 aa<|p (cV (ps:= []) (L:= [.string ⟨⟨[]⟩⟩,.slice none 0 0]) pf aa<|aa)<|e<|c8 kT aa aa aa aa (Wk.B (ah.trans aI) aO) (by simp) fun cU bT bw=>aC 6 aa<|tr<|bc 2 aa<|eF aa (dU (cs:= [str [],.slice none 0 0]) aa l0 aa fun j E=>bw.bu j) et<|⟨.inr ⟨120,GH I O aj J ab (by simpa using am) an (i:=j) ab (QC (by simpa using aS)<|by simpa using aR),aw,aa⟩,(ax.trans<|ah.trans aI).trans' bT fun q A h=>by omega⟩
 exact aJ 7 aa<|tn<|⟨_,ab,j+1,ab,(fun q A=>by rcases fG q j with h | h <;> first | exact aN q h | (rw [show q=j by omega]; exact Gl<|.inr<|by simpa using aR)),(ah.trans aI),aa,aa⟩
 exact aC 15 aa<|tn<|⟨_,ab,j+1,ab,(fun q A=>by rcases fG q j with h | h <;> first | exact aN q h | (rw [show q=j by omega]; exact Gl<|.inl<|by simpa using aS)),ah,aa,aa⟩
 exact aJ 2 aa<|bK<|dq 6 aa<|p (cV (ps:= [(0,str (bD<|r.getD 0 []).1),(1,.slice Y set.length Z)]) (L:= [str (bD<|r.getD 0 []).1,.slice Y set.length Z]) pf aa<|aa)<|e<|c8 kT aa aa aa aa (Wk.B G aO) (by simp) fun cX a2 bx=>aC 4 aa<|eF aa (dU (cs:= [str (bD<|r.getD 0 []).1,.slice Y set.length Z]) aa l0 aa fun j E=>bx.bu j) et<|⟨.inl ⟨((bD<|r.getD 0 []).1,set),.slice Y set.length Z,Bb I O aj J ab (by simpa using am) an (fun j E=>aN j ab),aa,eR (da (aU ao G) a2 fun q A h=>by have :=(dH ao A).1; have :=C.size; omega)<|by have :=C.size; omega⟩,(ax.trans G).trans' a2 fun q A h=>by omega⟩
end Go.Hb
end
section
namespace Go.Hb.iU
open Go.Hb.iF Go.Hb.gZ
theorem Sc:Bo az 102 3=some (96,3):=aj
def qF (q:bp×ag):List ag:= [str q.1.1,q.2]
def kD (l:List (bp×ag)):List ag:=l.flatMap qF
theorem GB (l:List (bp×ag)) (q:bp×ag):kD (l++ [q])=kD l++qF q:=by simp [kD]
theorem Q9 (l:List (bp×ag)):(kD l).length=l.length*2:=mJ (f:=qF) (m:=2) (fun _=>rfl) l
theorem pc {w:ak} {B e size n k:Nat} {v:ag} {xs:List ag} (h:bo w B e size v n xs) (hk:v.ownBlock=some k) (E:∀ cur z,w.heap[k]?≠some (.cells cur e z)):False:=by
 rcases h.2 with ⟨rfl,rfl⟩ | ⟨g,cap,cur,rfl,_,C,_⟩
 · cases hk
 · have A:g=k:=by simpa [jS] using hk
   subst A;exact E _ _ C
structure nR (w:ak) (B:Nat) (f:ag→Option ag) (xs:List bp):Prop where
 own:∀ s:Tx,bo w B 3 1 ((f<|str s).getD<|bQ none 0 0) (idxs s xs).length ((idxs s xs).map bJ)
 nil:∀ s:Tx,idxs s xs= []→(f<|str s).getD (bQ none 0 0)=(bQ none 0 0)
theorem nR.md {G:Nat→Prop} {w w':ak} {B:Nat} {f:ag→Option ag} {xs:List bp} (h:nR w B f xs) (hm:Md G w w') (A:∀ k,G k→∀ cur z,w.heap[k]?≠some (.cells cur 3 z)):nR w' B f xs:=by
 refine ⟨fun s=> ?_,h.nil⟩;refine da (h.own s) hm fun k hk E=> ?_;exact pc (h.own s) hk fun cur z C=>A k E cur z C
theorem CK {w:ak} {B B' k n C:Nat} {v E:ag} {xs G:List ag} (h:bo w B 3 1 v n xs) (V:bo w B' 3 1 E C G) (hk:v.ownBlock=some k) (Z:E.ownBlock=some k) (hn:0 < n) (ai:0 < C):xs[0]? =G[0]? :=by
 rcases h.2 with ⟨rfl,rfl⟩ | ⟨g,cap,cur,rfl,_,Y,_,_,_,aa⟩
 · omega
 · rcases V.2 with ⟨rfl,rfl⟩ | ⟨O,ae,ah,rfl,_,A,_,_,_,ac⟩
   · omega
   · have I:g=k:=by simpa [jS] using hk
     have J:O=k:=by simpa [jS] using Z
     subst I J;rw [Y] at A;cases A;rw [← aa,← ac,oG,oG,if_pos ab,if_pos ab]
theorem nR.sep {w:ak} {B k:Nat} {f:ag→Option ag} {xs:List bp} {s t:Tx} (h:nR w B f xs) (I:s≠t) (hs:((f<|str s).getD<|bQ none 0 0).ownBlock=some k):((f<|str t).getD<|bQ none 0 0).ownBlock≠some k:=by
 intro A;have C:idxs s xs≠[]:=fun e=>by rw [h.nil s e] at hs; cases hs
 have E:idxs t xs≠[]:=fun e=>by rw [h.nil t e] at A; cases A
 have he:=CK (h.own s) (h.own t) hs A (mu.2 C)<|mu.2 E;cases h1:idxs s xs with
 | nil=>exact C h1
 | cons i l=>
   cases h2:idxs t xs with
   | nil=>exact E h2
   | cons j m=>
     rw [h1,h2] at he;have G:i=j:=by have h:=he; simp only [pF,Aa,Option.some.injEq,bJ,Value.int.injEq,true_and] at h; omega
     subst G;have m1:i∈idxs s xs:=by rw [h1]; simp
     have m2:i∈idxs t xs:=by rw [h2]; simp
     unfold idxs at m1 m2;have J:=of_decide_eq_true (qh.1 m1).2;have O:=of_decide_eq_true (qh.1 m2).2;exact I<|J.symm.trans O
theorem nR.put {w E V:ak} {B mb:Nat} {f:ag→Option ag} {xs:List bp} {x:bp} {v:ag} (h:nR w B f xs) (hm:Md (fun k=>((f<|str x.1).getD<|bQ none 0 0).ownBlock=some k) w E)
 (O:bo E B 3 1 v (idxs x.1 xs++ [xs.length]).length ((idxs x.1 xs++ [xs.length]).map bJ)) (J:∀ cur z,E.heap[mb]?≠some (.cells cur 3 z)) (I:Md (fun k=>k=mb) E V):nR V B (bM f (str x.1) v) (xs++ [x]):=by
 refine ⟨fun s=> ?_,fun s hs=> ?_⟩
 · by_cases A:x.1=s
   · subst A;rw [ow,BX,if_pos rfl];exact da O I fun k hk C=>pc O hk fun cur z G=>J cur z<|C ▸ G
   · rw [me (fun e=>A (str_inj.1 e).symm),BX,if_neg A,ez];have h1:=da (h.own s) hm fun k hk C=>h.sep A C hk;exact da h1 I fun k hk C=>pc h1 hk fun cur z G=>J cur z<|C ▸ G
 · rw [BX] at hs;by_cases A:x.1=s
   · rw [if_pos A] at hs; simp at hs
   · rw [if_neg A,ez] at hs;rw [me (fun e=>A (str_inj.1 e).symm)]; exact h.nil s hs
structure lE (w:ak) (B wb mb:Nat) (va:ag) (vs:List ag) (xs:List bp):Prop where
 cells:w.heap[wb]? =some (.cells [va,.map (some mb)].toArray 184 (0,0))
 own:bo w B 53 2 va xs.length (kD<|xs.zip vs)
 fl:eD w B 95 vs (xs.map (·.2))
 mp:∃ f,cR w.heap mb jN f∧nR w B f xs
theorem lE.md {G:Nat→Prop} {w w':ak} {B wb mb:Nat} {va:ag} {vs:List ag} {xs:List bp} (h:lE w B wb mb va vs xs) (hm:Md G w w') {L:List Nat} (hT:TF w L G) (C:(L.contains 186 || L.contains 55 || L.contains 97 || L.contains 5)=false) (J:¬G mb):lE w' B wb mb va vs xs:=by
 simp only [po] at C;obtain ⟨⟨⟨h1,h2⟩,h3⟩,h4⟩:=C;obtain ⟨f,E,I⟩:=h.mp;exact ⟨hm.iK hT h.cells h1,cj h.own hm hT h2,h.fl.md hm (fun k hk cur z A=>hT.no (dC A) h3 hk),⟨f,E.md hm J,I.md hm fun k hk cur z A=>hT.no (dC A) h4 hk⟩⟩
theorem lE.wk {w w':ak} {B wb mb:Nat} {va:ag} {vs:List ag} {xs:List bp} (h:lE w B wb mb va vs xs) (hm:Wk w w'):lE w' B wb mb va vs xs:=h.md (L:= []) hm (fun _ hk=>hk.elim) rfl id
theorem A3 {F:aE} {t:Tx} {ln:Nat} {row:List Tx} {rows:List Rw} (h:¬65536 < t.length) (h1:bT t=(ln,row)::rows) (h2:(lO row).2≠0):∃ e:Nat,(lO row).2=(e:Int)∧fD F t= .error (ln,e):=by
 unfold lO at h2 ⊢;by_cases A:row.length≠1
 · rw [if_pos A]; exact ⟨111,rfl,QT h h1 A⟩
 · rw [if_neg A] at h2 ⊢;have h3:=qN (s:=row.getD 0 []) (most:=8192) h2;exact ⟨13,h3.2,QW h h1 (jG.1 A) h3.1⟩
theorem Gn {F:aE} {t:Tx} {ln:Nat} {row:List Tx} {rows:List Rw} (h:¬65536 < t.length) (h1:bT t=(ln,row)::rows) (h2:(lO row).2=0):∃ n:Nat,(lO row).1=n∧n≤8192∧fD F t=fk F ((bL t).length+1) n rows:=by
 unfold lO at h2 ⊢;by_cases A:row.length≠1
 · rw [if_pos A] at h2; cases h2
 · rw [if_neg A] at h2 ⊢;exact ⟨_,aa,by have :=rT (row.getD 0 []) 8192 h2; omega,Gq h h1 (jG.1 A)<|o8 h2⟩
theorem zx {u:Tx} {a:ag} (h:a.oneCell'=true):[str u,a].all fX=true :=by rw [uX,uX,h]; rfl
def Nn (l e:Nat):ag:= .agg [.int .i64 2,.int .i64 (l:Nat),.int .i64 (e:Nat)].toArray
def Nh (w':ak) (B0:Nat) (xs:List bp) (v:ag):Prop := ∃ B wb mb va vs,B0≤B∧v= .tuple #[.pointer (some ⟨wb,0,none⟩),.agg [.int .i64 0,.int .i64 0,.int .i64 0].toArray]∧lE w' B wb mb va vs xs∧B0≤wb∧B0≤mb
def Ng (e:Nat×Nat) (v:ag):Prop :=v= .tuple #[.pointer none,Nn e.1 e.2]
def mA (F:aE) (t:Tx) (w:ak) (v:ag) (w':ak):Prop :=(match fD F t with | .ok xs=>Nh w' w.heap.size xs v | .error e=>Ng e v)∧Wk w w'
theorem mA.no {F:aE} {t:Tx} {w w':ak} {l e:Nat} (h:fD F t= .error (l,e)) (hm:Wk w w'):mA F t w (.tuple #[.pointer none,.agg [.int .i64 2,.int .i64 (l:Nat),.int .i64 (e:Nat)].toArray]) w':=by
 unfold mA; rw [h]; exact ⟨rfl,hm⟩
theorem QZ (B fb mc:Nat) (F:aE) (V:fy) (t:Tx) (w:ak) (ci:dX w B fb mc F V) (dn:∃ seen,k6 F [] seen) (ei:Nx F) (hs:t.length≤1048576):
 ba az 40 (a7 [bj fb,str t]) w (mA F t w):=by
 refine enter func40 aa ntmps40 aa<|bg 3 aa<|e<|gK q4 fun bB eG eT ck cb=> ?_;have ca:bO eG.heap bB [.int .i64 0,.int .i64 0,.int .i64 0]:=⟨_,cb⟩
 refine au 6 aa<|p (lh xd aa aa)<|aQ 2 aa<|cf (aa)<|aH 5 aa<|e<|aM (KH t _ hs) aa ?_;rintro v22 b4 ⟨⟨a22,rfl,cx⟩,hE22⟩;have ch:=ck.md.trans hE22;have fj:=ck.size;refine p mv<|au 2 aa<|p bm<|aQ 10 aa<|cd aa (fun bX=> ?_) fun bX=> ?_;have ct:65536 < t.length:=tj fun h=>bX<|by rw [if_neg h]
 refine aH 3 aa<|e<|aM (tZ 0 (if 65536 < t.length then 10 else 0) b4) aa ?_;rintro v28 fK ⟨rfl,bE⟩;have ff:=(hE22.trans bE).size;refine au 1 aa<|e<|c8 kj aa aa aa aa (Wk.B (hE22.trans bE) ca) (by simp) fun fX dB dj=>aC 4 aa<|eF aa et (dU (cs:= [.int .i64 2,.int .i64 0,.int .i64 (if 65536 < t.length then 10 else 0)]) aa lJ aa fun j ao=>dj.bu j) ?_;have h:=mA.no (F:=F) (Gr ct)<|(ch.trans bE).trans' dB fun q C h=>by omega
 show mA F t w (.tuple #[.pointer none,.agg [.int .i64 2,.int .i64 0,.int .i64 (if 65536 < t.length then 10 else 0)].toArray]) _;rw [if_pos ct];exact h;have a1:¬65536 < t.length:=fun h=>bX<|by rw [if_pos h]; decide
 rw [if_neg a1] at cx;obtain ⟨ey,c0,rfl⟩:=cz cx;have e0:=o6 t;refine aH 5 aa<|e<|aM (J6 t _ hs) aa ?_;rintro v31 av ⟨⟨a31,rfl,cw⟩,hE31⟩;rw [if_neg a1] at cw;obtain ⟨cW,bt,bv⟩:=cw;obtain ⟨ar,cr,rfl⟩:=cz bt;have aA:=ch.trans hE31;have aR:=Wk.B (hE22.trans hE31) ca;have fg:=(hE22.trans hE31).size;have cS:=y5 t;refine p mv<|au 2 aa<|p bm<|au 6 aa<|p mv<|aQ 4 aa<|cd aa (fun bZ=> ?_) fun bZ=> ?_;have eh:bT t= []:=fY ab;refine aH 2 aa<|p mv<|au 1 aa<|p (bC<|(bL t).length+1)<|e<|aM (tZ ((bL t).length+1:Nat) 116 av) aa ?_;rintro v40 fM ⟨rfl,bF⟩;have fh:=bF.size;exact au 1 aa<|e<|c8 kj aa aa aa aa (Wk.B bF aR) (by simp) fun fZ dD dk=>aC 4 aa<|eF aa et (dU (cs:= [.int .i64 2,ay ((bL t).length+1),.int .i64 116]) aa lJ aa fun j ao=>dk.bu j)<|mA.no (Gs a1 eh)<|(aA.trans bF).trans' dD fun q C h=>by omega
 obtain ⟨⟨cU,aN⟩,rest,Y⟩:∃ q rest,bT t=q::rest:=by
  cases h:bT t with
  | nil=>rw [h] at bZ; exact absurd rfl bZ
  | cons q rest=>exact ⟨q,rest,rfl⟩
 have b2:=bv.1;rw [Y] at bt bv b2 cS;obtain ⟨⟨aL,eA⟩,rvs',rfl⟩:∃ q b3,cW=q::b3:=by
  cases cW with
  | nil=>exact absurd b2<|by simp
  | cons q b3=>exact ⟨q,b3,rfl⟩
 obtain ⟨eo,cO⟩:=bv.2 0 (aL,eA) (cU,aN) rfl rfl;obtain rfl :aL=cU:=eo;obtain ⟨a0,cZ,rfl⟩:=cO.slice;have aW:=(aX bt).2;have d7:=(aX bt).1;have cD:∀ q∈(aL,aN)::rest,q.2.length≤70000∧∀ x∈q.2,x.length≤70000:=fun q C=>by
  have h:=y6 (show q∈bT t by rw [Y]; exact C);exact ⟨ab,fun x ev=>by have :=(h.2.2.2.2 x ev).2; omega⟩
 have cB:=cD _<|mY ..;simp only [cC] at b2 cS d7;refine aH 4 aa<|p mv<|p (a6 ub aa aa (by rw [Y]; simp only [cC]; omega)<|aB.ok (aW)<|mh<|by simp)<|p (cQ xJ aa (aa)<|mi (i:=0) aW aa)<|e<|aM (QS aL aN b4.heap.size a0 cZ av cO cB.2 cB.1) aa ?_;rintro v45 eE ⟨rfl,aF⟩;have fi:=aF.size;refine p mv<|aQ 13 aa<|cd aa (fun cu=> ?_) fun cu=> ?_;obtain ⟨eO,d9,bV⟩:=A3 (F:=F) a1 Y cu;refine aH 2 aa<|p mv<|p (a6 ub aa aa (by rw [Y]; simp only [cC]; omega)<|aB.ok (aW.wk aF)<|mh<|by simp)<|au 1 aa<|p (ld1 aa<|mi (i:=0) (aW.wk aF) aa 0 aw)<|au 1 aa<|e<|aM (tZ (aL:Nat) (lO aN).2 eE) aa ?_;rintro v55 fN ⟨rfl,bH⟩;have fk:=bH.size;refine au 1 aa<|e<|c8 kj aa aa aa aa (Wk.B (aF.trans bH) aR) (by simp) fun fS dw c4=>aC 4 aa<|eF aa et (dU (cs:= [.int .i64 2,ay aL,.int .i64 (lO aN).2]) aa lJ aa fun j ao=>c4.bu j) ?_;have h:=mA.no bV<|(aA.trans<|aF.trans bH).trans' dw fun q C h=>by omega
 show mA F t w (.tuple #[.pointer none,.agg [.int .i64 2,ay aL,.int .i64 (lO aN).2].toArray]) _;rw [d9];exact h;obtain ⟨n,cG,e1,bV⟩:=Gn (F:=F) a1 Y (show (lO aN).2=0 by omega);have dv:=ci.wk<|aA.trans aF;obtain ⟨seen,cc⟩:=dn;have eY:=cc.len;refine aH 4 aa<|e<|sY fun Z fO eU bS dh=> ?_;have fo:=bS.size;refine p (cV (ps:= [(1,.map (some Z))]) (L:= [.slice none 0 0,.map (some Z)]) XY aa<|aa)<|e<|nU aa fun ah eH eV bh di=> ?_;have fq:=bh.size;have ds:=aF.trans<|bS.md.trans bh.md;refine au 6 aa<|e<|aM (xI B fb mc F V eH (dv.wk<|bS.md.trans bh.md) ab ei) aa ?_;rintro v60 fP ⟨⟨eK,rfl,_⟩,hE60⟩;have fs:=hE60.size;refine p (RW Sc EW aa aa)<|e<|al ZK fun bw fG eR bb c5=> ?_;have e5:=bb.size;refine e<|c8 Qu aa aa aa aa (c5) (by simp) fun I a5 c6=> ?_;have dq:Wk av I:=(ds.trans<|hE60.trans bb.md).trans' a5 fun q C h=>by omega
 have e7:=a5.size;have d1:I.heap[ah]? =some (.cells [.slice none 0 0,.map (some Z)].toArray 184 (0,0)):=a5.bl (Wk.bl (hE60.trans bb.md) di) fun h=>by omega
 have ee:cR I.heap Z jN (fun _=>none):=cR.md (cR.wk (cR.nil dh)<|bh.md.trans<|hE60.trans bb.md) a5 fun h=>by omega
 have dN:lE I I.heap.size ah Z (.slice none 0 0) [] []:=⟨d1,dE _ _ _ _,eD.nil _ _ _,⟨_,ee,⟨fun s=>dE _ _ _ _,fun s _=>rfl⟩⟩⟩
 have dY:bO I.heap bw [bf (F.sp.getD 0 0),bf (F.sp.getD 1 0),bf (F.sp.getD 2 0),bf (F.sp.getD 3 0),bf (F.sp.getD 4 0)]:=c6;have ce:aB av.heap (iy ar cr 1 2) (k3 rvs'):=by
  have h:=aW.drop (cap:=cr) (k:=1) (size:=2)<|by rw [Kd]; simp only [cC]; omega
  exact h
 have dR:jg F ((bL t).length+1) (fD F t) [] (n - 0) (rest.drop 0):=by rw [bV]; exact jg.start
 refine au 5 aa<|p mv<|p (wT ub aa aa<|by rw [Y]; simp only [cC]; omega)<|aQ 5 aa<|lp (fun b8 a3 ax=> ∃ (i:Nat) (xs:List bp) (vs:List ag) (va:ag),(i≤rest.length∧i≤n)∧(xs.length=i)∧(jg F ((bL t).length+1) (fD F t) xs (n - i)<|rest.drop i)∧(lE ax I.heap.size ah Z va vs xs)∧(Wk av ax)∧(bO ax.heap bw [bf (F.sp.getD 0 0),bf (F.sp.getD 1 0),bf (F.sp.getD 2 0),bf (F.sp.getD 3 0),bf (F.sp.getD 4 0)])∧(I.heap.size≤ax.heap.size)∧(a3 10=ay n)∧(a3 63= .slice (iy ar cr 1 2) rest.length (cr - 1))∧(a3 64=ay (rest.length))∧(Sl a3 [(0,bj fb),(5,bj bB),(6,.slice ey (bL t).length c0),(11,bj ah),(12,bj bw),(65,ay i)])∧(rest.length - i=b8)) _ ⟨0,[],[],.slice none 0 0,ab,aa,dR,dN,dq,dY,(cE _),(by first | rfl | (rw [← cG]; rfl)),(by first | rfl | (rw [Y]; rfl)),(by first | rfl | (rw [Y]; rfl)),aa,aa⟩ ?_;rintro b8 a3 ax ⟨i,xs,vs,va,hi,cT,ai,aP,J,cp,fz,er,es,eu,ep,rfl⟩;refine bA ep<|fx 10 er<|fx 63 es<|fx 64 eu<|bq 6 aa<|cd aa (fun d4=> ?_) fun d4=> ?_;refine bz 5 aa ?_;obtain ⟨⟨ln,r⟩,hri⟩:∃ q,rest[i]? =some q:=⟨_,bY ab⟩
 have d8:rest.drop i=(ln,r)::rest.drop (i+1):=by rw [MB ab]; rw [bY ab] at hri; rw [vj hri]
 obtain ⟨p,cP⟩:∃ p,rvs'[i]? =some p:=⟨_,bY ab⟩
 obtain ⟨c1,co⟩:=bv.2 (i+1) p (ln,r) cP hri;obtain ⟨ez,fB⟩:=p;obtain rfl :ln=ez:=c1.symm;obtain ⟨a,c,rfl⟩:=co.slice;have cF:=cD (ln,r)<|nO _<|gB hri;rw [d8] at ai;refine aH 2 aa<|p (a6 ub aa aa ab<|aB.ok (ce.wk J)<|mh ab)<|p (cQ xJ aa (aa)<|mi (ce.wk J) cP)<|e<|al LG fun b6 fI bn bR c7=> ?_;have e8:=bR.size;refine au 1 aa<|e<|c8 F8 aa aa aa aa (c7) (by simp) fun aT bP c9=> ?_;have a4:Wk av aT:=(J.trans bR.md).trans' bP fun q C h=>by omega
 have cg:Wk ax aT:=bR.md.trans' bP fun q C h=>by omega
 have bn:bO aT.heap b6 [ay ln,.slice a r.length c]:=c9;have fc:=bP.size;refine aQ 10 aa<|cd aa (fun d5=> ?_) fun d5=> ?_;refine aH 3 aa<|p (ld1 aa<|(bn.aV 0).trans aa)<|e<|aM (tZ (ln:Nat) 116 aT) aa ?_;rintro v75 fQ ⟨rfl,bI⟩;have ft:=bI.size;refine au 1 aa<|e<|c8 kj aa aa aa aa (Wk.B (a4.trans bI) aR) (by simp) fun fT dx db=>aC 6 aa<|tr<|bc 2 aa<|eF aa et (dU (cs:= [.int .i64 2,ay ln,.int .i64 116]) aa lJ aa fun j ao=>db.bu j) ?_;rw [show n - i=0 by omega] at ai;exact mA.no ai.more<|(aA.trans<|a4.trans bI).trans' dx fun q C h=>by omega
 refine aH 5 aa<|p (cQ EW aa (aa) fun j ao=>(Wk.B cg cp).bu j)<|p (cQ xJ aa (aa) fun j ao=>bn.bu j)<|e<|aM (QJ B fb mc F V ln r b4.heap.size a c aT (ci.wk<|aA.trans a4) ⟨seen,cc⟩ (co.wk a4) cF.2 cF.1) aa ?_;rintro v80 eI ⟨du,bM⟩;obtain ⟨A,a80,b7,rfl,cN,cy⟩:∃ (u:Tx) (a:ag) (e:Nat),v80= .tuple #[.agg [str u,a].toArray,ay e]∧a.oneCell'=true∧((e=0∧∃ l,gh F r= .ok (u,l)∧bo eI aT.heap.size 95 1 a l.length (l.map bf))∨(e≠0∧gh F r= .error e)):=by
  rcases du with ⟨x,a,h1,h2,h3⟩ | ⟨e,h1,h2,h3⟩;exact ⟨x.1,a,0,h2,e9 h3,.inl ⟨aa,x.2,h1,h3⟩⟩;exact ⟨_,_,e,h3,aa,.inr ⟨h2,h1⟩⟩
 have fu:=bM.size;refine p mv<|au 2 aa<|e<|gK sd fun bx fJ eS bd b9=> ?_;have fa:=bd.size;refine e<|gA kT aa aa aa (zx cN) b9 aw fun aq a9 dc=> ?_;have aO:Wk ax aq:=(cg.trans<|bM.trans bd.md).trans' a9 fun q C h=>by omega
 have cq:aq.heap[bx]? =some (.cells [str A,a80].toArray 53 (0,0)):=dc;have fd:=a9.size;have dZ:bO aq.heap b6 [ay ln,.slice a r.length c]:=a9.B (Wk.B (bM.trans bd.md) bn) fun h=>by omega
 refine aQ 10 aa<|cd aa (fun d6=> ?_) fun d6=> ?_;obtain ⟨e2,hex⟩:=cy.resolve_left fun h=>by omega
 refine aH 3 aa<|p (ld1 aa<|(dZ.aV 0).trans aa)<|au 1 aa<|e<|aM (tZ (ln:Nat) (b7:Nat) aq) aa ?_;rintro fF fR ⟨rfl,bN⟩;have fv:=bN.size;exact au 1 aa<|e<|c8 kj aa aa aa aa (Wk.B (J.trans<|aO.trans bN) aR) (by simp) fun fU dy de=>aC 6 aa<|tr<|bc 2 aa<|eF aa et (dU (cs:= [.int .i64 2,ay ln,ay b7]) aa lJ aa fun j ao=>de.bu j)<|mA.no (ai.bad ab hex)<|(aA.trans<|J.trans<|aO.trans bN).trans' dy fun q C h=>by omega
 obtain ⟨_,aK,hex,el⟩:=cy.resolve_right fun h=>by omega
 have bk:=aP.wk aO;have eg:¬(va.ownBlock=some ah):=dO bk.own bk.cells aw;have ef:¬(va.ownBlock=some bx):=fun h=>by have :=(dH aP.own h).2; omega
 have fA:=aO.size;refine bz 3 aa ?_;have bi:(fun w'=>Md (fun q=>va.ownBlock=some q) aq w') aq.drew:=(Md.refl _ _).drew;refine gO (fun w'=>Md (fun q=>va.ownBlock=some q) aq w') 10 aa wide bi<|bU [0,1,2,3] aa bi<|eW 4 aa (fun w' E=>ld1 aa<|Md.aV E ((a8 bk.cells).trans aa) eg) bi<|eW 5 aa (fun w' E=>cQ l0 aa (aa) fun j ao=>bO.bu ⟨_,Md.bl E cq ef⟩ j) bi<|gN 6 aa aj<|lf zg aa aa aa fun eN eJ eX dG dl=> ?_;have aG:=iQ dG.md;have G:=bk.wk aG;have fw:=aG.size;have cl:(fun w'=>Md (fun q=>va.ownBlock=some q) aq w') eJ:=Md.mono aG fun _ _ h=>h.elim;refine ⟨cl,?_⟩;refine gN 7 aa aj<|ap zg (G.own) aa ab aa (aB.dT dl) (aa) (zx cN) ab ab fun a2 b5 cL ae ex eZ=> ?_;obtain ⟨f,cA,ec⟩:=G.mp;have aY:=ae.bl G.cells<|dO G.own G.cells aw;have cM:bo b5 I.heap.size 53 2 a2 (xs++ [(A,aK)]).length (kD<|(xs++ [(A,aK)]).zip<|vs++ [a80]):=by
  have ed:xs.length=vs.length:=by have :=G.fl.1; rw [fC] at this; omega
  rw [List.zip_append ed,List.zip_cons_cons,List.zip_nil_right,GB,bG]; exact cL
 have ex:=ae.size;have dS:=ae.B (Wk.B (aO.trans aG) cp) fun h=>by have :=(dH G.own h).1; omega
 have d0:=ae.bl (Wk.bl aG cq) fun h=>by have :=(dH aP.own h).2; omega
 have dt:Wk av b5:=(J.trans<|aO.trans aG).trans' ae fun q C h=>by have :=(dH G.own h).1; omega
 have cm:(fun w'=>Md (fun q=>va.ownBlock=some q) aq w') b5:=cl.trans' ae fun _ _ h=>h;refine ⟨cm,?_⟩;refine bU [8,9] aa cm<|dK 10 aa aj aj<|dd F5 aa aa (v:=a2) (e9 cL) aY (by show _ < 2; omega) fun aD am c2=> ?_;have br:aD.heap[ah]? =some (.cells [a2,.map (some Z)].toArray 184 (0,0)):=c2;have e3:=am.size;have dp:Wk av aD:=dt.trans' am fun q C h=>by omega
 have dV:=am.B dS fun h=>by omega
 have bW:=am.bl d0 fun h=>by omega
 have cJ:=da cM am fun q C h=>dO cM aY aw<|h ▸ C;have dL:Tg aD I.heap.size 95 aK.length a80 (aK.map bf):=((((((Tg.j5 el).mono ab).wk bd.md).md a9<|fL b9 aw).wk aG).md ae<|iO G.own aw).md am<|fL aY aw;have ea:=((G.fl.md ae<|iO G.own aw).md am<|fL aY aw).snoc dL;have b0:=(cA.md ae fun h=>pc G.own h fun cur z=>cA.o7).md am fun h=>by omega
 have bs:=(ec.md ae<|iO G.own aw).md am<|fL aY aw;have b1:¬(((f<|str A).getD<|bQ none 0 0).ownBlock=some ah):=dO (bs.own A) br aw;have cH:¬(((f<|str A).getD<|bQ none 0 0).ownBlock=some bx):=dO (bs.own A) bW aw;have cI:¬(((f<|str A).getD<|bQ none 0 0).ownBlock=some Z):=fun h=>pc (bs.own A) h fun cur z=>b0.o7;refine eQ aj<|dz 1 aa ?_;have O:(fun w'=>Md (fun q=>((f<|str A).getD<|bQ none 0 0).ownBlock=some q) aD w') aD.drew:=(Md.refl _ _).drew;refine gO (fun w'=>Md (fun q=>((f<|str A).getD<|bQ none 0 0).ownBlock=some q) aD w') 16 aa wide O<|gH [0,1,2] aa O<|lq 3 aa aj (fun w' E=>ld1 aa<|Md.aV E ((a8 br).trans aa) b1) O<|gH [4] aa O<|lq 5 aa aj (fun w' E=>ld1 aa<|Md.aV E ((a8 bW).trans aa) cH) O<|gH [6,7,8] aa O<|lq 9 aa aj (fun w' E=>ld1 aa<|Md.aV E ((a8 br).trans aa) b1) O<|gH [10] aa O<|lq 11 aa aj (fun w' E=>ld1 aa<|Md.aV E ((a8 bW).trans aa) cH) O<|lq 12 aa aj (fun w' E=>mL DD zK jk (cR.md (b0) E cI) aa aa (⟨_,aa⟩)<|aa) O<|gH [13] aa O<|gN 14 aa aj<|gv lx aa aa fun eM eC eP dF c3=> ?_;have ac:=iQ dF.md;have aS:=bs.md ac fun _ hk=>hk.elim;have e4:=ac.size;have cn:(fun w'=>Md (fun q=>((f<|str A).getD<|bQ none 0 0).ownBlock=some q) aD w') eC:=Md.mono ac fun _ _ h=>h.elim;refine ⟨cn,?_⟩;refine gN 15 aa aj<|ap lx (aS.own A) aa ab aa (aB.dT c3) (aa) (aa) (by have :=BW A xs; omega) (by have :=BW A xs; omega) fun eB cX ej an ew aZ=> ?_;have ew:=an.size;have aZ:=(b0.wk ac).md an cI;have em:bo cX I.heap.size 3 1 eB (idxs A xs++ [xs.length]).length ((idxs A xs++ [xs.length]).map bJ):=by
  rw [bG,gS,cT]; exact ej
 have dJ:(fun w'=>Md (fun q=>((f<|str A).getD<|bQ none 0 0).ownBlock=some q) aD w') cX:=cn.trans' an fun _ _ h=>h;refine ⟨dJ,?_⟩;refine dK 16 aa aj aj<|tc DD jk (aZ) aa aa aa (⟨_,aa⟩) fun cY aI dI=> ?_;have en:=nR.put (x:=(A,aK)) aS an em (fun cur z=>aZ.o7) aI;have d3:=aI.bl (an.bl (Wk.bl ac br) b1) fun h=>by omega
 have cK:=da (aU cJ ac) an fun q C=>nA (aU cJ ac) (aS.own A) aw C;have ek:=da cK aI fun q C h=>pc cK C fun cur z=>h ▸ aZ.o7;have eb:=((ea.wk ac).md an<|iO (aS.own A) aw).md aI fun k hk cur z h=>aZ.o7<|hk ▸ h;have dP:lE cY I.heap.size ah Z a2 (vs++ [a80]) (xs++ [(A,aK)]):=⟨d3,ek,by rw [gS]; exact eb,⟨_,dI,en⟩⟩
 have dr:Wk av cY:=((dp.trans ac).trans' an fun q C h=>by have :=(dH (aS.own A) h).1; omega).trans' aI fun q C h=>by omega
 have dW:=aI.B (an.B (Wk.B ac dV) fun h=>by have :=(dH (aS.own A) h).1; omega) fun h=>by omega
 have fe:=aI.size;exact eQ aj<|bc 6 aa<|tn<|⟨_,ab,i+1,xs++ [(A,aK)],vs++ [a80],a2,ab,(by rw [bG,cT]; rfl),(by rw [show n - (i+1)=n - i - 1 by omega]; exact ai.step ab hex),dP,dr,dW,(ab),(by first | rfl | (rw [← cG]; rfl)),(by first | rfl | (rw [Y]; rfl)),(by first | rfl | (rw [Y]; rfl)),aa,aa⟩
 refine aJ 2 aa<|bK<|dz 4 aa ?_;obtain ⟨eL,cv,rfl⟩:=cz aP.own;refine aH 4 aa<|p (ld1 aa<|(a8 aP.cells).trans aa)<|aQ 5 aa<|cd aa (fun d2=> ?_) fun d2=> ?_;refine aH 4 aa<|p (bC<|(bL t).length+1)<|e<|aM (tZ ((bL t).length+1:Nat) 116 ax) aa ?_;rintro fE fH ⟨rfl,bD⟩;have e6:=bD.size;refine au 1 aa<|e<|c8 kj aa aa aa aa (Wk.B (J.trans bD) aR) (by simp) fun fV dA df=>aC 4 aa<|eF aa et (dU (cs:= [.int .i64 2,ay ((bL t).length+1),.int .i64 116]) aa lJ aa fun j ao=>df.bu j) ?_;rw [iR ab] at ai;exact mA.no (ai.ends ab)<|(aA.trans<|J.trans bD).trans' dA fun q C h=>by omega
 refine aH 5 aa<|p (cV (ps:= []) (L:= [.int .i64 0,.int .i64 0,.int .i64 0]) uA aa<|aa)<|au 1 aa<|e<|c8 kj aa aa aa aa (Wk.B J aR) (by simp) fun fW cj dg=>aC 3 aa<|eF aa et (dU (cs:= [.int .i64 0,.int .i64 0,.int .i64 0]) aa lJ aa fun j ao=>dg.bu j) ?_;rw [iR ab,show n - i=0 by omega] at ai;have dQ:=ai.done;have dM:TF ax [47] (fun q=>q=bB):=TF.eq (dC<|Wk.bl (hE22.trans<|hE31.trans J) cb) aw;unfold mA;rw [dQ];exact ⟨⟨I.heap.size,ah,Z,_,vs,ab,aa,aP.md cj dM aw (fun h=>by omega),ab,ab⟩,(aA.trans J).trans' cj fun q C h=>by omega⟩
end Go.Hb.iU
end
section
namespace Go.Hb
open Go.Hb.gZ Go.Hb.iU
theorem ZB {α:Type} {f:α×ag→List ag} {m c i:Nat} (A:∀ q,(f q).length=m) (C:c < m) (hs:∀ a u v,(f (a,u)).set c v=f (a,v)) {rs:List α} {vs:List ag} {v:ag} (hi:i < rs.length) (J:i < vs.length):((rs.zip vs).flatMap f).set (i*m+c) v=(rs.zip<|vs.set i v).flatMap f:=by
 obtain ⟨r,I⟩:∃ r,rs[i]? =some r:=⟨_,bY hi⟩
 obtain ⟨u,hu⟩:∃ u,vs[i]? =some u:=⟨_,bY J⟩
 have O:(rs.zip vs)[i]? =some (r,u):=j7.2 ⟨I,hu⟩;have Z:rs.zip (vs.set i v)=(rs.zip vs).set i (r,v):=by
  apply qe;intro j;rw [mr];by_cases E:i=j
  · subst E;rw [if_pos rfl,if_pos (ff.1 O).1];exact j7.2 ⟨I,by simp [J]⟩
  · rw [if_neg E];cases h1:(rs.zip vs)[j]? with
    | none=>
      rw [MP,Ae] at h1 ⊢;rw [xw]; exact h1
    | some q=>
      have h2:=j7.1 h1;exact j7.2 ⟨h2.1,by rw [mr,if_neg E]; exact h2.2⟩
 have aa:(rs.zip vs).length=min rs.length vs.length:=Ae;have G:((rs.zip vs).flatMap f).length=(rs.zip vs).length*m:=mJ A _;have hle:i*m+m≤(rs.zip vs).length*m:=by rw [← Nat.succ_mul]; exact Nat.mul_le_mul_right _ ab
 rw [Z,Ht A _ ab];apply qe;intro j;have V:=fun c C=>yl A (c:=c) O C;have Y:(((rs.zip vs).flatMap f).take<|i*m).length=i*m:=by rw [dJ,G]; omega
 rw [mr];by_cases h1:j < i*m
 · rw [if_neg ab,eX,mX ab,oG,if_pos h1]
 · rw [eX,nN ab,Y];by_cases h2:j < i*m+m
   · rw [mX (by rw [A]; omega)];obtain ⟨d,rfl⟩:∃ d,j=i*m+d:=⟨j - i*m,ab⟩
     rw [V d ab,show i*m+d - i*m=d by omega,← hs r u v,mr];by_cases h3:c=d
     · subst h3; rw [if_pos rfl,if_pos rfl,if_pos (by rw [G]; omega),if_pos (by rw [A]; exact C)]
     · rw [if_neg ab,if_neg h3]
   · rw [if_neg ab,nN (by rw [A]; omega),A,rh];congr 1; omega
theorem Rf {xs:List bp} {vs:List ag} {i:Nat} {v:ag} (hi:i < xs.length) (A:i < vs.length):(kD<|xs.zip vs).set (i*2 +1) v=kD (xs.zip<|vs.set i v):=ZB (f:=qF) (m:=2) (c:=1) (fun _=>rfl) aw (fun _ _ _=>rfl) hi A
theorem vF {l:List (bp×ag)} {i:Nat} {q:bp×ag} (h:l[i]? =some q):kD l≠[]:=fun h2=>by
 have h3:=Q9 l;have h4:=(ff.1 h).1;rw [h2] at h3;have h5:0=l.length*2:=h3;omega
theorem NT (l:List Nat):(l.map bJ).all fX=true :=by
 rw [lV]; intro v A; obtain ⟨x,_,rfl⟩:=je.1 A; rfl
theorem Re {w:ak} {B e:Nat} {xs:List bp} {vs:List ag} {E:List (List Nat)} (h:eD w B e vs E):(kD<|xs.zip vs).all fX=true :=by
 rw [lV];intro v A;obtain ⟨q,C,A⟩:=pG.1 A;have h1:=lV.1 (xM h) q.2 (Ah C).2;simp only [qF,fi,xz,or_false] at A;rcases A with rfl | rfl
 · rfl
 · exact h1
def qp (w:ak) (B:Nat) (vs:List ag) (A:List (List Nat)):Prop :=vs.length=A.length∧∀ (i:Nat) v l,vs[i]? =some v→A[i]? =some l→bo w B 95 1 v l.length (l.map bf)
theorem qp.t {w:ak} {B:Nat} {vs:List ag} {A:List (List Nat)} (h:qp w B vs A):eD w B 95 vs A:=⟨h.1,fun i v l h1 h2=>Tg.j5<|h.2 i v l h1 h2⟩
theorem E4 {G:Nat→Prop} {w w':ak} {B:Nat} {vs:List ag} {A:List (List Nat)} (h:qp w B vs A) (hm:Md G w w') (C:∀ k,G k→∀ cur z,w.heap[k]?≠some (.cells cur 95 z)):qp w' B vs A:=⟨h.1,fun i v l h1 h2=>da (h.2 i v l h1 h2) hm fun k hk E=>pc (h.2 i v l h1 h2) hk<|C k E⟩
theorem NW (w:ak) (B:Nat):qp w B [] []:=⟨rfl,fun i v l A=>by simp at A⟩
theorem NV {w:ak} {B i:Nat} {vs:List ag} {A:List (List Nat)} {v:ag} (h:qp w B (vs.take i) (A.take i)) (hi:i < A.length) (I:i < vs.length) (G:bo w B 95 1 v (A.getD i []).length ((A.getD i []).map bf)):qp w B ((vs.set i v).take<|i+1) (A.take<|i+1):=by
 refine ⟨by simp; have :=h.1; simp at this; omega,fun j u l h1 h2=> ?_⟩;rw [oG] at h1 h2;by_cases C:j < i+1
 · rw [if_pos C] at h1 h2;rw [mr] at h1;by_cases E:i=j
   · subst E;rw [if_pos rfl,if_pos I] at h1;cases h1;rw [show A.getD i []=l by rw [cH,h2]; rfl] at G;exact G
   · rw [if_neg E] at h1;exact h.2 j u l (by rw [oG,if_pos ab]; exact h1)<|by rw [oG,if_pos ab]; exact h2
 · rw [if_neg C] at h1; cases h1
theorem QQ (B wb mb:Nat) (va:ag) (vs:List ag) (xs:List bp) (w:ak) (A:lE w B wb mb va vs xs) (I:xs.length≤70000) (s:Tx):
 ba az 161 (a7 [bj wb,str s]) w (fun v w'=>bo w' w.heap.size 3 1 v (idxs s xs).length ((idxs s xs).map bJ)∧Wk w w'):=by
 obtain ⟨f,E,G⟩:=A.mp;exact enter func161 aa ntmps161 aa<|bg 9 aa<|p (lh DG aa aa)<|aQ 2 aa<|cf (aa)<|aH 7 aa<|p (ld1 aa<|(a8 A.cells).trans aa)<|au 1 aa<|p (mL DD zK jk (E) aa aa (⟨_,aa⟩)<|aa)<|e<|aM (Pb _ (idxs s xs).length ((idxs s xs).map bJ) w (Rd.j5<|G.own s) (NT _)<|by have :=BW s xs; omega) aa fun J O C=>p bm<|aC 3 aa<|aR aa<|C
theorem QI (B wb mb:Nat) (va:ag) (vs:List ag) (xs:List bp) (w:ak) (G:lE w B wb mb va vs xs) (aP:xs.length≤70000) (aA:∀ x∈xs,x.2.length≤64):
 ba az 42 (a7 [bj wb]) w (fun v w'=>(∃ vs,bo w' w.heap.size 53 2 v xs.length (kD<|xs.zip vs)∧eD w' w.heap.size 95 vs (xs.map (·.2))∧qp w' w.heap.size vs (xs.map (·.2)))∧Wk w w'):=by
 refine enter func42 aa ntmps42 aa<|bg 9 aa<|p (lh DG aa aa)<|aQ 2 aa<|cf (aa)<|aH 7 aa<|p (ld1 aa<|(a8 G.cells).trans aa)<|e<|aM (O9 va xs.length (kD<|xs.zip vs) w (Rd.j5 G.own) (Re G.fl) ab) aa ?_;rintro v11 aV ⟨al,ap⟩;obtain ⟨ae,ai,rfl⟩:=cz al;have aI:vs.length=xs.length:=by have :=G.fl.1; rwa [fC] at this
 refine p bm<|au 5 aa<|p mv<|aQ 5 aa<|lp (fun aj ao E=> ∃ (i:Nat) (sa:List ag),(i≤xs.length)∧(sa.length=xs.length)∧(sa.drop i=vs.drop i)∧(qp E w.heap.size (sa.take i)<|(xs.map (·.2)).take i)∧(bo E w.heap.size 53 2 (.slice ae xs.length ai) xs.length<|kD<|xs.zip sa)∧(Wk w E)∧(Sl ao [(3,.slice ae xs.length ai),(13,ay (xs.length)),(14,ay i)])∧(xs.length - i=aj)) _ ⟨0,vs,ab,aI,aa,(NW _ _),al,ap,aa,aa⟩ ?_;rintro aj ao E ⟨i,sa,hi,aG,an,J,C,I,aF,rfl⟩;refine bA aF<|bq 6 aa<|cd aa (fun ax=> ?_) fun ax=> ?_;refine bz 5 aa ?_;obtain ⟨aT,aK,V⟩:=eD.get (G.wk I).fl (show i < (xs.map (·.2)).length by rw [fC]; omega);obtain ⟨ah,ci,rfl⟩:=V.slice;obtain ⟨x,ac⟩:∃ x,xs[i]? =some x:=⟨_,bY ab⟩
 have aN:(xs.map (·.2)).getD i []=x.2:=by rw [cH,fJ,ac]; rfl
 have aL:=aA x<|gB ac;rw [← aN] at aL;have Z:(xs.zip sa)[i]? =some (x,.slice ah ((xs.map (·.2)).getD i []).length ci):=j7.2 ⟨ac,(A7 an).trans aK⟩;refine aH 10 aa<|p (a6 Bf aa aa ab<|aB.ok ((aX C).2)<|vF Z)<|au 1 aa<|p (ld1 aa<|fI (f:=qF) (m:=2) (fun _=>rfl) (aX C).2 Z 1 aw)<|e<|aM (tV ah ((xs.map (·.2)).getD i []).length ci (((xs.map (·.2)).getD i []).map bf) E V.cW.2 (by simp) (fun h=>Tg.uu V (by simp) h) (tO _) ab) aa ?_;rintro v24 aW ⟨Y,A⟩;have aS:=A.size;refine p (a6 Bf aa aa ab<|aB.ok ((aX<|aU C A).2)<|vF Z)<|au 1 aa<|e<|uB (j:=i*2 +1) (aU C A) tY aa aa (e9 Y) (by rw [kg]; omega) ab fun aO O am=> ?_;rw [Rf ab ab] at am;have aq:Wk w aO:=Wk.own (I.trans A) (aU C A) O ab;have aD:=da (eR Y (show w.heap.size≤E.heap.size from I.size)) O fun q aE=>nA Y (aU C A) aw aE;have av:=E4 (E4 J A fun _ hk=>hk.elim) O<|iO (aU C A) aw;exact aC 7 aa<|tn<|⟨_,ab,i+1,sa.set i v24,ab,(by rw [xw]; exact aG),(gZ.set_drop an),(NV av (by rw [fC]; omega) ab aD),am,aq,aa,aa⟩
 refine aJ 2 aa<|bK<|bc 9 aa<|aR aa ?_;rw [eY ab,eY (by rw [fC]; omega)] at J;exact ⟨⟨sa,C,J.t,J⟩,I⟩
end Go.Hb
end
section
namespace Go.Hb.jJ
def og (c:di):List ag:= [bJ c.flag,.int .i64 (c.kind:Nat),.bool c.eB,.int .i64 (c.first:Nat),.int .i64 (c.count:Nat)]
def rK (l:List di):List ag:=l.flatMap og
def jZ (q:cJ×ag):List ag:= [.int .i64 (q.1.kind:Nat),bJ q.1.flag,.bool q.1.eB,str q.1.strip,str q.1.add,str q.1.cond,q.2,.int .i64 (q.1.line:Nat)]
def np (l:List (cJ×ag)):List ag:=l.flatMap jZ
def iT (w:ak) (B e:Nat) (vs:List ag) (A:List (List Nat)):Prop :=vs.length=A.length∧∀ (i:Nat) v l,vs[i]? =some v→A[i]? =some l→Tg w B e l.length v (l.map bJ)
theorem iT.nil (w:ak) (B e:Nat):iT w B e [] []:=⟨rfl,fun i v l A=>by simp at A⟩
theorem iT.md {F:Nat→Prop} {w w':ak} {B e:Nat} {vs:List ag} {A:List (List Nat)} (h:iT w B e vs A) (hm:Md F w w') (C:∀ k,F k→∀ cur z,w.heap[k]?≠some (.cells cur e z)):iT w' B e vs A:=⟨h.1,fun i v l h1 h2=>(h.2 i v l h1 h2).md hm C⟩
theorem iT.wk {w w':ak} {B e:Nat} {vs:List ag} {A:List (List Nat)} (h:iT w B e vs A) (hm:Wk w w'):iT w' B e vs A:=h.md hm fun _ hk=>hk.elim
theorem iT.snoc {w:ak} {B e:Nat} {vs:List ag} {C:List (List Nat)} {v:ag} {l:List Nat} (A:iT w B e vs C) (G:Tg w B e l.length v (l.map bJ)):iT w B e (vs++ [v]) (C++ [l]):=by
 refine ⟨by rw [bG,bG,A.1]; rfl,fun i I J h1 h2=> ?_⟩;have E:=A.1;by_cases hi:i < vs.length
 · rw [mX hi] at h1;rw [mX ab] at h2;exact A.2 i I J h1 h2
 · rw [nN ab] at h1;rw [nN ab,← E] at h2;cases hj:i - vs.length with
   | zero=>rw [hj] at h1 h2; cases h1; cases h2; exact G
   | succ j=>rw [hj] at h1; simp at h1
theorem iT.get {w:ak} {B e i:Nat} {vs:List ag} {A:List (List Nat)} (h:iT w B e vs A) (hi:i < A.length):∃ v,vs[i]? =some v∧Tg w B e (A.getD i []).length v ((A.getD i []).map bJ):=by
 have h1:i < vs.length:=by rw [h.1]; exact hi
 refine ⟨vs[i],bY h1,h.2 i _ _ (bY h1) ?_⟩;rw [cH,bY hi]; rfl
structure gD where
 rb:Nat
 fb:Nat
 eof:Nat
 vr:ag
 vs:List (Nat×ag)
 rows:List Rw
structure eo where
 v9:ag
 v10:ag
 v11:ag
 v12:ag
 sa:List ag
 rn:List ag
def o3 (F:aE) (V:eo):List ag:= [.int .i64 (F.kind:Nat),str F.sL,str F.tr,bJ (F.sp.getD 0 0),bJ (F.sp.getD 1 0),bJ (F.sp.getD 2 0),bJ (F.sp.getD 3 0),bJ (F.sp.getD 4 0),.int .i64 (F.least:Nat),V.v9,V.v10,V.v11,V.v12]
def HQ (H:gD) (k:Nat) (vh:ag) (ln:Nat):List ag:= [.pointer (some ⟨H.fb,0,none⟩),H.vr,.int .i64 (k:Nat),.int .i64 (H.eof:Nat),vh,.int .i64 (ln:Nat)]
structure eL (w:ak) (B B0 fb:Nat) (F:aE) (V:eo):Prop where
 cells:w.heap[fb]? =some (.cells (o3 F V).toArray 154 (0,0))
 o9:bo w B 351 2 V.v9 F.dp.length (lu F.dp)
 e6:bo w B 85 1 V.v10 F.aliases.length V.sa
 al:iT w B0 3 V.sa F.aliases
 eC:bo w B 216 5 V.v11 F.bw.length (rK F.bw)
 dB:bo w B 214 8 V.v12 F.rules.length (np<|F.rules.zip V.rn)
 nx:iT w B0 3 V.rn (F.rules.map (·.next))
 lo:B≤fb
 gl:F.sp.length=5
theorem eL.md {G:Nat→Prop} {w w':ak} {B B0 fb:Nat} {F:aE} {V:eo} (h:eL w B B0 fb F V) (hm:Md G w w') {L:List Nat} (hT:TF w L G) (A:(L.contains 156 || L.contains 353 || L.contains 87 || L.contains 5 || L.contains 218 || L.contains 216)=false):eL w' B B0 fb F V:=by
 simp only [po] at A;obtain ⟨⟨⟨⟨⟨h1,h2⟩,h3⟩,h4⟩,h5⟩,h6⟩:=A;have C:∀ k,G k→∀ cur z,w.heap[k]?≠some (.cells cur 3 z):=fun k hk cur z E=>hT.no (dC E) h4 hk;exact ⟨hm.iK hT h.cells h1,cj h.o9 hm hT h2,cj h.e6 hm hT h3,h.al.md hm C,cj h.eC hm hT h5,cj h.dB hm hT h6,h.nx.md hm C,h.lo,h.gl⟩
theorem eL.wk {w w':ak} {B B0 fb:Nat} {F:aE} {V:eo} (h:eL w B B0 fb F V) (hm:Wk w w'):eL w' B B0 fb F V:=h.md (L:= []) hm (fun _ hk=>hk.elim) rfl
structure oL (w:ak) (B B0 fb:Nat) (F:aE) (V:eo):Prop where
 cells:w.heap[fb]? =some (.cells (o3 F V).toArray 154 (0,0))
 e6:bo w B 85 1 V.v10 F.aliases.length V.sa
 al:iT w B0 3 V.sa F.aliases
theorem eL.r {w:ak} {B B0 fb:Nat} {F:aE} {V:eo} (h:eL w B B0 fb F V):oL w B B0 fb F V:=⟨h.cells,h.e6,h.al⟩
theorem oL.md {G:Nat→Prop} {w w':ak} {B B0 fb:Nat} {F:aE} {V:eo} (h:oL w B B0 fb F V) (hm:Md G w w') {L:List Nat} (hT:TF w L G) (A:(L.contains 156 || L.contains 87 || L.contains 5)=false):oL w' B B0 fb F V:=by
 simp only [po] at A;obtain ⟨⟨h1,h3⟩,h4⟩:=A;exact ⟨hm.iK hT h.cells h1,cj h.e6 hm hT h3,h.al.md hm fun k hk cur z C=>hT.no (dC C) h4 hk⟩
theorem oL.wk {w w':ak} {B B0 fb:Nat} {F:aE} {V:eo} (h:oL w B B0 fb F V) (hm:Wk w w'):oL w' B B0 fb F V:=h.md (L:= []) hm (fun _ hk=>hk.elim) rfl
theorem eL.put {w w':ak} {B B0 fb:Nat} {F F':aE} {V:eo} (h:eL w B B0 fb F V) (hm:Md (fun k=>k=fb) w w') (C:w'.heap[fb]? =some (.cells (o3 F' V).toArray 154 (0,0))) (h1:F'.dp=F.dp) (h2:F'.aliases=F.aliases) (h3:F'.bw=F.bw) (h4:F'.rules=F.rules) (h5:F'.sp.length=5):eL w' B B0 fb F' V:=by
 have hT:TF w [156] (fun k=>k=fb):=TF.eq (dC h.cells) aw;have A:∀ k,k=fb→∀ cur z,w.heap[k]?≠some (.cells cur 3 z):=fL h.cells aw;exact ⟨C,h1 ▸ cj h.o9 hm hT aw,h2 ▸ cj h.e6 hm hT aw,h2 ▸ h.al.md hm A,h3 ▸ cj h.eC hm hT aw,h4 ▸ cj h.dB hm hT aw,h4 ▸ h.nx.md hm A,h.lo,h5⟩
theorem eL.AB {w C I:ak} {B B0 fb:Nat} {F:aE} {V:eo} {v:ag} {x:Tx×Tx} (h:eL w B B0 fb F V) (hm:Md (fun k=>V.v9.ownBlock=some k) w C) (Y:bo C B 351 2 v (F.dp++ [x]).length (lu<|F.dp++ [x])) (A:Md (fun k=>k=fb) C I) (Z:I.heap[fb]? =some (.cells (o3 {F with dp:=F.dp++ [x]} {V with v9:=v}).toArray 154 (0,0))):eL I B B0 fb {F with dp:=F.dp++ [x]} {V with v9:=v} :=by
 have hT:TF w [353] (fun k=>V.v9.ownBlock=some k):=TF.own h.o9 aw;have G:=hm.iK hT h.cells aw;have E:TF C [156] (fun k=>k=fb):=TF.eq (dC G) aw;have J:∀ k,V.v9.ownBlock=some k→∀ cur z,w.heap[k]?≠some (.cells cur 3 z):=iO h.o9 aw;have O:∀ k,k=fb→∀ cur z,C.heap[k]?≠some (.cells cur 3 z):=fL G aw;exact ⟨Z,da Y A (fun k hk aa=>dO Y G aw<|aa ▸ hk),cj (cj h.e6 hm hT aw) A E aw,(h.al.md hm J).md A O,cj (cj h.eC hm hT aw) A E aw,cj (cj h.dB hm hT aw) A E aw,(h.nx.md hm J).md A O,h.lo,h.gl⟩
theorem eL.Az {w C O:ak} {B B0 fb:Nat} {F:aE} {V:eo} {v:ag} {x:List Nat} {vx:ag} (h:eL w B B0 fb F V) (ab:Tg w B0 3 x.length vx (x.map bJ)) (hm:Md (fun k=>V.v10.ownBlock=some k) w C) (Y:bo C B 85 1 v (F.aliases++ [x]).length (V.sa++ [vx])) (A:Md (fun k=>k=fb) C O) (Z:O.heap[fb]? =some (.cells (o3 {F with aliases:=F.aliases++ [x]} {V with v10:=v,sa:=V.sa++ [vx]}).toArray 154 (0,0))):eL O B B0 fb {F with aliases:=F.aliases++ [x]} {V with v10:=v,sa:=V.sa++ [vx]} :=by
 have hT:TF w [87] (fun k=>V.v10.ownBlock=some k):=TF.own h.e6 aw;have G:=hm.iK hT h.cells aw;have E:TF C [156] (fun k=>k=fb):=TF.eq (dC G) aw;have I:∀ k,V.v10.ownBlock=some k→∀ cur z,w.heap[k]?≠some (.cells cur 3 z):=iO h.e6 aw;have J:∀ k,k=fb→∀ cur z,C.heap[k]?≠some (.cells cur 3 z):=fL G aw;exact ⟨Z,cj (cj h.o9 hm hT aw) A E aw,da Y A (fun k hk aa=>dO Y G aw<|aa ▸ hk),((h.al.md hm I).md A J).snoc ((ab.md hm I).md A J),cj (cj h.eC hm hT aw) A E aw,cj (cj h.dB hm hT aw) A E aw,(h.nx.md hm I).md A J,h.lo,h.gl⟩
theorem eL.AA {w C I:ak} {B B0 fb:Nat} {F:aE} {V:eo} {v:ag} {x:di} (h:eL w B B0 fb F V) (hm:Md (fun k=>V.v11.ownBlock=some k) w C) (Y:bo C B 216 5 v (F.bw++ [x]).length (rK<|F.bw++ [x])) (A:Md (fun k=>k=fb) C I) (Z:I.heap[fb]? =some (.cells (o3 {F with bw:=F.bw++ [x]} {V with v11:=v}).toArray 154 (0,0))):eL I B B0 fb {F with bw:=F.bw++ [x]} {V with v11:=v} :=by
 have hT:TF w [218] (fun k=>V.v11.ownBlock=some k):=TF.own h.eC aw;have G:=hm.iK hT h.cells aw;have E:TF C [156] (fun k=>k=fb):=TF.eq (dC G) aw;have J:∀ k,V.v11.ownBlock=some k→∀ cur z,w.heap[k]?≠some (.cells cur 3 z):=iO h.eC aw;have O:∀ k,k=fb→∀ cur z,C.heap[k]?≠some (.cells cur 3 z):=fL G aw;exact ⟨Z,cj (cj h.o9 hm hT aw) A E aw,cj (cj h.e6 hm hT aw) A E aw,(h.al.md hm J).md A O,da Y A (fun k hk aa=>dO Y G aw<|aa ▸ hk),cj (cj h.dB hm hT aw) A E aw,(h.nx.md hm J).md A O,h.lo,h.gl⟩
theorem eL.xO {w C O:ak} {B B0 fb:Nat} {F:aE} {V:eo} {v:ag} {x:cJ} {vx:ag} (h:eL w B B0 fb F V) (ab:Tg w B0 3 x.next.length vx (x.next.map bJ)) (hm:Md (fun k=>V.v12.ownBlock=some k) w C) (Y:bo C B 214 8 v (F.rules++ [x]).length (np<|(F.rules++ [x]).zip<|V.rn++ [vx])) (A:Md (fun k=>k=fb) C O) (Z:O.heap[fb]? =some (.cells (o3 {F with rules:=F.rules++ [x]} {V with v12:=v,rn:=V.rn++ [vx]}).toArray 154 (0,0))):eL O B B0 fb {F with rules:=F.rules++ [x]} {V with v12:=v,rn:=V.rn++ [vx]} :=by
 have hT:TF w [216] (fun k=>V.v12.ownBlock=some k):=TF.own h.dB aw;have G:=hm.iK hT h.cells aw;have E:TF C [156] (fun k=>k=fb):=TF.eq (dC G) aw;have I:∀ k,V.v12.ownBlock=some k→∀ cur z,w.heap[k]?≠some (.cells cur 3 z):=iO h.dB aw;have J:∀ k,k=fb→∀ cur z,C.heap[k]?≠some (.cells cur 3 z):=fL G aw;exact ⟨Z,cj (cj h.o9 hm hT aw) A E aw,cj (cj h.e6 hm hT aw) A E aw,(h.al.md hm I).md A J,cj (cj h.eC hm hT aw) A E aw,da Y A (fun k hk aa=>dO Y G aw<|aa ▸ hk),(by rw [gS]; exact ((h.nx.md hm I).md A J).snoc<|(ab.md hm I).md A J),h.lo,h.gl⟩
structure iG (w:ak) (B:Nat) (H:gD) (k ln:Nat) (seen:List Tx) (vh:ag):Prop where
 cells:w.heap[H.rb]? =some (.cells (HQ H k vh ln).toArray 208 (0,0))
 hd:bo w B 9 1 vh seen.length (seen.map str)
 lo:B≤H.rb
section
variable {w w':ak} {B k ln:Nat} {H:gD} {seen:List Tx} {vh:ag}
theorem iG.md {G:Nat→Prop} (h:iG w B H k ln seen vh) (hm:Md G w w') {L:List Nat} (hT:TF w L G) (A:(L.contains 210 || L.contains 11)=false):iG w' B H k ln seen vh:=by
 simp only [po] at A;exact ⟨hm.iK hT h.cells A.1,cj h.hd hm hT A.2,h.lo⟩
theorem iG.wk (h:iG w B H k ln seen vh) (hm:Wk w w'):iG w' B H k ln seen vh:=h.md (L:= []) hm (fun _ hk=>hk.elim) rfl
theorem iG.fb {B0:Nat} {A:aE} {V:eo} (h:iG w B H k ln seen vh) (C:eL w B B0 H.fb A V) (hm:Md (fun k=>k=H.fb) w w'):iG w' B H k ln seen vh:=h.md hm (TF.eq (L:= [156]) (dC C.cells) aw) aw
theorem iG.own {B' e s n:Nat} {v:ag} {xs:List ag} (h:iG w B H k ln seen vh) (C:bo w B' e s v n xs) (hm:Md (fun k=>v.ownBlock=some k) w w') (A:([e+2].contains 210 || [e+2].contains 11)=false):iG w' B H k ln seen vh:=h.md hm (TF.own (L:= [e+2]) C<|by simp) A
theorem iG.pQ {cs:Array ag} {z:Nat×Nat} (h:iG w B H k ln seen vh) (A:w.heap[H.fb]? =some (.cells cs 154 z)) (hm:Md (fun k=>k=H.fb) w w'):iG w' B H k ln seen vh:=h.md hm (TF.eq (L:= [156]) (dC A) aw) aw
theorem iG.cU {k' ln':Nat} (h:iG w B H k ln seen vh) (hm:Md (fun k=>k=H.rb) w w') (A:w'.heap[H.rb]? =some (.cells (HQ H k' vh ln').toArray 208 (0,0))):iG w' B H k' ln' seen vh:=⟨A,cj h.hd hm (TF.eq (L:= [210]) (dC h.cells) aw) aw,h.lo⟩
theorem eL.rb {B0:Nat} {A:aE} {V:eo} (h:eL w B B0 H.fb A V) (C:iG w B H k ln seen vh) (hm:Md (fun k=>k=H.rb) w w'):eL w' B B0 H.fb A V:=h.md hm (TF.eq (L:= [210]) (dC C.cells) aw) aw
end
structure oJ (F:aE) (rows:List Rw) (seen:List Tx):Prop where
 len:F.dp.length+F.aliases.length+F.bw.length+F.rules.length+rows.length≤70000
 sl:seen.length+rows.length≤70000
 row:∀ q∈rows,q.2≠[]∧q.2.length≤70000∧∀ x∈q.2,x.length≤70000
 kd:F.kind=1∨F.kind=2∨F.kind=3
def GS (A:ak) (H:gD):Prop := ∃ B0,Tg A B0 209 H.rows.length H.vr (k3 H.vs)∧iH A B0 9 H.vs H.rows∧H.rows.length≤70000
def na (A w:ak) (H:gD) (F:aE) (k ln:Nat) (seen:List Tx):Prop := ∃ V vh,eL w A.heap.size 0 H.fb F V∧iG w A.heap.size H k ln seen vh∧oJ F (H.rows.drop k) seen∧Wk A w∧k≤H.rows.length
def Nl (w':ak) (H:gD) (X:Except (Nat×Nat) (aE×List Rw)) (v:ag):Prop := ∃ l e:Nat,X= .error (l,e)∧e≠0∧v= .int .i64 (e:Nat)∧Hb.aV w'.heap H.rb 5=some (.int .i64 (l:Nat))
def gd (A:ak) (H:gD) (seen:List Tx) (X:Except (Nat×Nat) (aE×List Rw)) (v:ag) (w':ak):Prop :=((∃ F' k' ln',X= .ok (F',H.rows.drop k')∧v= .int .i64 (0:Nat)∧na A w' H F' k' ln' seen)∨Nl w' H X v)∧Wk A w'
theorem oJ.qE {F:aE} {q:Rw} {rest:List Rw} {seen:List Tx} (h:oJ F (q::rest) seen):oJ F rest seen:=⟨by have :=h.len; simp only [cC] at this; omega,by have :=h.sl; simp only [cC] at this; omega,fun A h2=>h.row A (nO _ h2),h.kd⟩
theorem iG.du {w:ak} {B:Nat} {H:gD} {k ln:Nat} {seen:List Tx} {vh:ag} (h:iG w B H k ln seen vh):Hb.aV w.heap H.rb 5=some (.int .i64 (ln:Nat)):=(a8 h.cells).trans rfl
theorem GS.get {E w:ak} {H:gD} {k:Nat} (h:GS E H) (hm:Wk E w) (hk:k < H.rows.length):∃ n r ar cr a c,H.rows.drop k=(n,r)::H.rows.drop (k+1)∧H.vr= .slice a H.rows.length c∧aB w.heap a (k3 H.vs)∧H.vs[k]? =some (n,.slice ar r.length cr)∧(∃ B0,Tg E B0 9 r.length (.slice ar r.length cr) (r.map str))∧H.vs.length=H.rows.length:=by
 obtain ⟨B0,h1,h2,_⟩:=h;obtain ⟨a,c,I⟩:=h1.slice;have J:=h2.1;obtain ⟨q,C⟩:∃ q,H.rows[k]? =some q:=⟨_,bY hk⟩
 obtain ⟨n,r⟩:=q;obtain ⟨p,hp⟩:∃ p,H.vs[k]? =some p:=⟨_,bY ab⟩
 obtain ⟨G,A⟩:=h2.2 k p (n,r) hp C;obtain ⟨O,V⟩:=p;simp only at G A;subst G;obtain ⟨ar,cr,rfl⟩:=A.slice;rw [I] at h1;refine ⟨O,r,ar,cr,a,c,?_,I,(h1.wk hm).cW.2,hp,⟨B0,A⟩,J⟩;rw [MB hk];rw [bY hk] at C;rw [vj C]
end Go.Hb.jJ
end
namespace Go.Hb
theorem UW {l:List UInt8} {j:Nat} {b:UInt8} (h:j < l.length):b∈l.take (j+1)↔b∈l.take j∨l.getD j 0=b:=by
 rw [fN l j 0 h,List.mem_append,List.mem_singleton,eq_comm (a:=b)]
theorem wv (s:List UInt8) (w:ak) (hs:s.length≤1048576):
 ba az 154 (a7 [str s]) w (fun v w'=>v= .bool (gL s)∧Wk w w'):=by
 refine enter func154 aa ntmps154 aa<|bq 12 aa<|lp (fun C I G=> ∃ (i:Nat),(i≤s.length)∧(∀ j,j < i→jh (s.getD j 0)=true)∧(Wk w G)∧(Sl I [(0,str s),(3,.int .i64 i)])∧(s.length - i=C)) _ ⟨0,ab,(fun j E=>by omega),(Md.refl _ _),aa,aa⟩ ?_;rintro C I G ⟨i,hi,hp,A,Y,rfl⟩;refine bA Y<|bq 9 aa<|cd aa (fun O=> ?_) fun O=> ?_;refine aH 8 aa<|p (e5 u9 aa aa ab)<|au 2 aa<|gs (t:=14) aa (fun V=> ?_) fun V=> ?_;exact aC 16 aa<|tr<|bc 2 aa<|aR aa<|⟨by show bR false =_; rw [tU (i:=i) ab (Bq ab)],A⟩
 refine au 2 aa<|bI aa (e5 u9 aa aa ab)<|aQ 4 aa<|cd aa (fun J=> ?_) fun J=> ?_;exact aJ 8 aa<|tr<|bc 2 aa<|aR aa<|⟨by show bR false =_; rw [tU (i:=i) ab (Bq ab)],A⟩
 have Z:jh (s.getD i 0)=true :=RS ab ab;exact aJ 8 aa<|tn<|⟨_,ab,i+1,ab,(fun j E=>by rcases fG j i with h | h <;> first | exact hp j h | (rw [show j=i by omega]; exact Z)),A,aa,aa⟩
 exact aJ 2 aa<|bK<|bc 8 aa<|aR aa<|⟨by show bR true =_; rw [vA (fun j E=>hp j ab)],A⟩
theorem zd (s:List UInt8) (w:ak) (hs:s.length≤1048576):
 ba az 158 (a7 [str s]) w (fun v w'=>v=JQ (bD s)∧Wk w w'):=by
 refine enter func158 aa ntmps158 aa<|bg 10 aa<|e<|mF iP fun Z aW a0 ax ao=> ?_;have aP:bo aW w.heap.size 5 1 (.slice (some ⟨Z,0,none⟩) 0 0) (([]:List UInt8)).length (U8<|([]:List UInt8)):=ao _ ab;refine aQ 10 aa<|lp (fun ae al V=> ∃ (i:Nat) (acc:List UInt8) (J:ag),(i≤s.length∧acc.length≤i)∧(bo V w.heap.size 5 1 (J) (acc).length<|U8<|acc)∧(Wk w V)∧(jR acc (s.drop i)=bD s)∧(Sl al [(0,str s),(6,J),(7,.int .i64 i)])∧(s.length - i=ae)) _ ⟨0,[],.slice (some ⟨Z,0,none⟩) 0 0,(by simp),aP,ax.md,aa,aa,aa⟩ ?_;rintro ae al V ⟨i,acc,J,hi,C,A,hd,aR,rfl⟩;refine bA aR ?_;obtain ⟨Y,ac,rfl⟩:=cz C;refine bq 9 aa<|cd aa (fun aD=> ?_) fun aD=> ?_;refine aH 8 aa<|p (e5 u9 aa aa ab)<|aQ 3 aa<|cd aa (fun aE=> ?_) fun aE=> ?_;have aA:(s.getD i 0).toNat=47:=ab;exact bz 1 aa<|dZ fun E=>aT [0,2,3] aa E<|bP 4 aa (bC<|i+1) E<|bP 5 aa (mS u9 aa aa ab) E<|fz 1 aa (fun w' ay=>n9 nV aa ((aX<|aU C ay).2)<|aa) E<|aT [6,7,8,9] aa E<|hn aj<|bc 4 aa<|tr<|bc 2 aa<|f4 aa aa aa aa aa<|⟨by rw [← hd,drop_cons 0 (by omega :i < s.length),DR aA]; rfl,Md.trans A (Md.refl _ _).drew⟩
 refine bz 2 aa ?_;refine ei (fun am O=> ∃ (k:Nat),(k < s.length∧i≤k∧k≤i+1)∧(Wk w O)∧(bo O w.heap.size 5 1 (.slice Y acc.length ac) (acc).length<|U8<|acc)∧(jR (acc++ [s.getD k 0]) (s.drop<|k+1)=bD s)∧(Sl am [(0,str s),(6,.slice Y acc.length ac),(7,.int .i64 k)])) ?_ ?_;refine bg 4 aa<|p (e5 u9 aa aa ab)<|aQ 3 aa<|cd aa (fun aF=> ?_) fun aF=> ?_;have G:(s.getD i 0).toNat=92:=ab;refine aH 3 aa<|p (bC<|i+1)<|aQ 12 aa<|cd aa (fun aG=> ?_) fun aG=> ?_;exact aJ 10 aa<|tr<|bc 1 aa<|tr<|bc 2 aa<|f4 aa aa aa aa aa<|⟨by rw [← hd,drop_cons 0 (by omega :i < s.length),iR ab,DO G]; rfl,A⟩
 refine aH 6 aa<|p (e5 u9 aa aa ab)<|au 2 aa<|gs (t:=37) aa (fun aL=> ?_) fun aL=> ?_;refine au 2 aa<|bI aa (e5 u9 aa aa ab)<|au 3 aa<|gs (t:=43) aa (fun aM=> ?_) fun aM=> ?_;refine au 2 aa<|bI aa (e5 u9 aa aa ab)<|aQ 4 aa<|cd aa (fun aI=> ?_) fun aI=> ?_;exact aJ 9 aa<|tr<|bc 1 aa<|tr<|bc 2 aa<|f4 aa aa aa aa aa<|⟨by rw [← hd,drop_cons 0 (by omega :i < s.length),drop_cons 0 (by omega :i+1 < s.length),DP G (by rw [lM]; exact decide_eq_false ab)]; rfl,A⟩
 exact aJ 1 aa<|tn<|⟨i+1,ab,A,C,(by rw [← hd,drop_cons 0 (by omega :i < s.length),drop_cons 0 (by omega :i+1 < s.length),xf G (by rw [lM]; exact decide_eq_true ab)]),aa⟩
 exact aC 9 aa<|tn<|⟨i+1,ab,A,C,(by rw [← hd,drop_cons 0 (by omega :i < s.length),drop_cons 0 (by omega :i+1 < s.length),xf G (by rw [lM]; exact decide_eq_true ab)]),aa⟩
 exact au 5 aa<|p mv<|aC 9 aa<|tn<|⟨i+1,ab,A,C,(by rw [← hd,drop_cons 0 (by omega :i < s.length),drop_cons 0 (by omega :i+1 < s.length),xf G (by rw [lM]; exact decide_eq_true ab)]),aa⟩
 exact aJ 1 aa<|tn<|⟨i,ab,A,C,(by rw [← hd,drop_cons 0 (by omega :i < s.length),DQ ab ab]),aa⟩
 rintro am O ⟨k,hk,av,ai,aK,aS⟩;refine bA aS<|aH 5 aa<|p (e5 u9 aa aa ab)<|e<|gv iP aa aa fun aY aV aZ I an=> ?_;have ah:Wk w aV:=Md.trans av I.md;refine e<|ap iP (aU ai I.md) aa (by have :=ah.size; omega) aa (aB.dT an) (aa) (aa) ab ab fun v54 a3 aN aw a2 a1=> ?_;have aq:=Wk.own ah (aU ai I.md) aw<|cE _;have aO:=rW aN;exact p bm<|au 4 aa<|p (bC<|k+1)<|aC 3 aa<|tn<|⟨_,ab,k+1,acc++ [s.getD k 0],v54,(by rw [bG,fg]; omega),aO,aq,aK,aa,aa⟩
 exact aJ 2 aa<|bK<|dq 5 aa<|p (n9 nV aa ((aX C).2)<|aa)<|aC 7 aa<|f4 aa aa aa aa aa<|⟨by rw [← hd,iR ab,zI]; rfl,A⟩
theorem WT (s:List UInt8) (w:ak) (hs:s.length≤1048576):
 ba az 155 (a7 [str s]) w (fun v w'=>v= .tuple #[str (letE s).1,.int .i64 (letE s).2]∧Wk w w'):=by
 refine enter func155 aa ntmps155 aa<|bg 9 aa<|e<|aM (wv s _ hs) aa ?_;rintro v10 a9 ⟨rfl,ac⟩;refine au 10 aa<|gs (t:=14) aa (fun aw=> ?_) fun aw=> ?_;exact aC 14 aa<|f2 aa aa aa<|⟨by show gR #[str [],.int .i64 21]=_; unfold letE; rw [if_pos (.inl<|List.length_eq_zero_iff.1 ab)]; rfl,ac⟩
 refine aQ 5 aa<|cb aa (fun ae=> ?_) fun ae=> ?_;exact aJ 8 aa<|f2 aa aa aa<|⟨by show gR #[str [],.int .i64 21]=_; unfold letE; rw [if_pos (.inr<|by simpa using ae)]; rfl,ac⟩
 refine aH 4 aa<|e<|mF iP fun aE aF a5 aP aN=> ?_;have a0:bo aF w.heap.size 5 1 (.slice (some ⟨aE,0,none⟩) 0 0) (([]:List UInt8)).length (U8<|([]:List UInt8)):=aN _<|by have :=ac.size; omega
 have aO:Wk w aF:=Md.trans ac aP.md;refine aQ 10 aa<|lp (fun O aI ai=> ∃ (i:Nat) (aA:ag),(i≤s.length)∧(bo ai w.heap.size 5 1 (aA) (lets<|s.take i).length<|U8<|lets<|s.take i)∧(Wk w ai)∧(Sl aI [(0,str s),(5,aA),(6,.int .i64 i)])∧(s.length - i=O)) _ ⟨0,.slice (some ⟨aE,0,none⟩) 0 0,ab,a0,aO,aa,aa⟩ ?_;rintro O aI ai ⟨i,aA,hi,C,V,a1,rfl⟩;refine bA a1 ?_;obtain ⟨al,am,rfl⟩:=cz C;have aW:=Cb<|s.take i;rw [dJ] at aW;refine bq 9 aa<|cd aa (fun aS=> ?_) fun aS=> ?_;refine bz 16 aa<|lp (fun O aK aG=> ∃ (j:Nat) (ob:Bool),(j≤(lets<|s.take i).length)∧(ob=decide (s.getD i 0∈(lets<|s.take i).take j))∧(Wk ai aG)∧(Sl aK [(0,str s),(5,.slice al (lets<|s.take i).length am),(6,.int .i64 i),(7,.bool ob),(8,.int .i64 j)])∧((lets<|s.take i).length - j=O)) _ ⟨0,false,ab,aa,(Md.refl _ _),aa,aa⟩ ?_;rintro O aK aG ⟨j,ob,a8,ah,A,a2,rfl⟩;refine bA a2<|bg 8 aa<|gs (t:=29) aa (fun aY=> ?_) fun aY=> ?_;refine aQ 5 aa<|cb aa (fun av=> ?_) fun av=> ?_;have aZ:¬s.getD i 0∈(lets<|s.take i).take j:=of_decide_eq_false<|by rw [← ah]; simpa using av
 exact bz 4 aa<|dZ fun J=>aT [0,1] aa J<|bP 2 aa (a6 mI aa aa ab<|aB.ok ((aX<|aU C A).2)<|qT ab) J<|cw 3 aa J (qS (i:=j) (aX<|aU C A).2 ab)<|aT [4,5] aa J<|bP 6 aa (e5 u9 aa aa ab) J<|aT [7,8] aa J<|hn aj<|bc 7 aa<|tn<|⟨_,ab,j+1,decide (((lets<|s.take i).getD j 0).toNat=((s.getD i 0).toNat:Int)),ab,(decide_eq_decide.2<|by rw [UW ab]; constructor <;> intro h <;> first | exact .inr (lC.1 ab) | (rcases h with h | h <;> first | exact absurd h aZ | (rw [h]))),(Md.trans A (Md.refl _ _).drew),aa,aa⟩
 have Z:ob=decide (s.getD i 0∈lets (s.take i)):=by
  have h1:ob=true :=by simpa using av
  rw [h1] at ah;rw [h1]; exact (decide_eq_true<|MW<|of_decide_eq_true ah.symm).symm
 refine aJ 2 aa<|bK<|dz 8 aa<|cb aa (fun G=> ?_) fun G=> ?_;have I:¬s.getD i 0∈lets (s.take i):=of_decide_eq_false<|by rw [← Z]; simpa using G
 refine aH 4 aa<|p (e5 u9 aa aa ab)<|e<|gv iP aa aa fun aL aD aR E an=> ?_;have Y:Wk w aD:=Md.trans (Md.trans V A) E.md;refine e<|ap iP (aU (aU C A) E.md) aa (by have :=Y.size; omega) aa (aB.dT an) (aa) (aa) ab ab fun v50 a4 ax aq a3 aV=> ?_;have ao:=Wk.own Y (aU (aU C A) E.md) aq<|cE _;have ay:=rW ax;exact p bm<|aC 8 aa<|tn<|⟨_,ab,i+1,v50,ab,(by rw [rP ab,if_neg I]; exact ay),ao,aa,aa⟩
 have I:s.getD i 0∈lets (s.take i):=of_decide_eq_true<|by rw [← Z]; simpa using G
 exact aJ 8 aa<|tn<|⟨_,ab,i+1,.slice al (lets<|s.take i).length am,ab,(by rw [rP ab,if_pos I]; exact aU C A),(Md.trans V A),aa,aa⟩
 have Z:ob=decide (s.getD i 0∈lets (s.take i)):=by rw [ah,eY ab]
 refine aC 8 aa<|bK<|dz 8 aa<|cb aa (fun G=> ?_) fun G=> ?_;have I:¬s.getD i 0∈lets (s.take i):=of_decide_eq_false<|by rw [← Z]; simpa using G
 refine aH 4 aa<|p (e5 u9 aa aa ab)<|e<|gv iP aa aa fun aL aD aR E an=> ?_;have Y:Wk w aD:=Md.trans (Md.trans V A) E.md;refine e<|ap iP (aU (aU C A) E.md) aa (by have :=Y.size; omega) aa (aB.dT an) (aa) (aa) ab ab fun v50 a4 ax aq a3 aV=> ?_;have ao:=Wk.own Y (aU (aU C A) E.md) aq<|cE _;have ay:=rW ax;exact p bm<|aC 8 aa<|tn<|⟨_,ab,i+1,v50,ab,(by rw [rP ab,if_neg I]; exact ay),ao,aa,aa⟩
 have I:s.getD i 0∈lets (s.take i):=of_decide_eq_true<|by rw [← Z]; simpa using G
 exact aJ 8 aa<|tn<|⟨_,ab,i+1,.slice al (lets<|s.take i).length am,ab,(by rw [rP ab,if_pos I]; exact aU C A),(Md.trans V A),aa,aa⟩
 exact aJ 2 aa<|bK<|dq 5 aa<|p (n9 nV aa ((aX C).2)<|aa)<|aC 5 aa<|f2 aa aa aa<|⟨by show gR #[str (lets<|s.take i),.int .i64 0]=_; unfold letE; rw [if_neg (fun h=>h.elim (fun h=>by rw [h] at aw; exact aw aa) fun h=>by rw [h] at ae; cases ae),show s.take i=s from eY ab]; rfl,V⟩
end Go.Hb
namespace Go.Hb.xE
theorem Yx {L:List Nat} (h:¬L.length≤64) (h2:L.length≤65) {M:List Nat} (h1:L=M.take 65) (x:Nat):L=(M++ [x]).take 65:=by
 have h3:=congrArg jr h1;rw [dJ] at h3;rw [List.take_append_of_le_length ab,← h1]
theorem Yy {L:List Nat} (h:L.length≤64) {M:List Nat} (h1:L=M.take 65) (x:Nat):L++ [x]=(M++ [x]).take 65:=by
 have h3:=congrArg jr h1;rw [dJ] at h3;rw [eY (by rw [bG,fg]; omega)];rw [eY ab] at h1; rw [h1]
theorem Y0 {l out:List Nat} {nx:Int} (h:rl l out nx) (E:nx < 65536):out.length≤65536:=by
 have h1:∀ x∈out,x < 65536:=fun x A=>by have :=((h.2 x).1 A).2; omega
 have h2:out.Nodup:=h.1.imp fun C=>by omega
 have h3:=List.Nodup.length_le_of_subset h2 fun x A=>List.mem_range.2<|h1 x A;simpa using h3
theorem C6 (b:UInt8) (w:ak):
 ba az 272 (a7 [.int .u8 b.toNat]) w (fun v w'=>v= .bool (jD b)∧Wk w w'):=by
 refine enter func272 aa ntmps272 aa<|bg 10 aa<|gs (t:=5) aa (fun E=> ?_) fun E=> ?_;refine au 4 aa<|gs (t:=9) aa (fun G=> ?_) fun G=> ?_;refine au 4 aa<|gs (t:=13) aa (fun A=> ?_) fun A=> ?_;refine au 4 aa<|gs (t:=17) aa (fun C=> ?_) fun C=> ?_;exact aC 7 aa<|aR aa<|⟨by show bR (decide _)=_; rw [p5]; exact bv (by constructor <;> intro h <;> first | exact ⟨ab,ab,ab,ab,h⟩ | exact h.2.2.2.2),Md.refl _ _⟩
 exact au 3 aa<|p bm<|aC 3 aa<|aR aa<|⟨by show bR false =_; rw [p5,decide_eq_false ab],Md.refl _ _⟩
 exact au 3 aa<|p mv<|au 3 aa<|p bm<|aC 3 aa<|aR aa<|⟨by show bR false =_; rw [p5,decide_eq_false ab],Md.refl _ _⟩
 exact au 3 aa<|p mv<|au 3 aa<|p mv<|au 3 aa<|p bm<|aC 3 aa<|aR aa<|⟨by show bR false =_; rw [p5,decide_eq_false ab],Md.refl _ _⟩
 exact au 3 aa<|p mv<|au 3 aa<|p mv<|au 3 aa<|p mv<|au 3 aa<|p bm<|aC 3 aa<|aR aa<|⟨by show bR false =_; rw [p5,decide_eq_false ab],Md.refl _ _⟩
theorem Lr (kind:Nat) (s:List UInt8) (w:ak) (hk:kind=1∨kind=2∨kind=3) (hs:s.length≤1048576):
 ba az 252 (a7 [ay kind,str s]) w (fun v w'=>v=bJ (eZ kind s)∧Wk w w'):=by
 refine enter func252 aa ntmps252 aa<|bq 18 aa<|cd aa (fun Z=> ?_) fun Z=> ?_;refine aH 7 aa<|gs (t:=15) aa (fun ag=> ?_) fun ag=> ?_;exact aC 17 aa<|aR aa<|⟨by rw [ud ab (fun h=>by omega) (fun h=>by omega)]; rfl,Md.refl _ _⟩
 refine au 1 aa<|bI aa (jz 0 u9 aa aa ab)<|eg aa aa aa<|aM (C6 (s.getD 0 0) _) aa ?_;rintro ai am ⟨rfl,O⟩;refine aQ 4 aa<|cb aa (fun C=> ?_) fun C=> ?_;exact aJ 9 aa<|aR aa<|⟨by rw [ud ab (fun h=>by rw [h.2.2] at C; cases C) (fun h=>by omega)]; rfl,O⟩
 exact aH 5 aa<|p (jz 0 u9 aa aa ab)<|p (l6 u3 qU aa<|qX<|by have :=js (s.getD 0 0); omega)<|aC 6 aa<|aR aa<|⟨by rw [Hj ⟨ab,ab,by simpa using C⟩]; rfl,O⟩
 refine bz 6 aa<|cd aa (fun ac=> ?_) fun ac=> ?_;refine bz 8 aa<|cd aa (fun ae=> ?_) fun ae=> ?_;exact aJ 9 aa<|aR aa<|⟨by rw [ud ab (fun h=>by omega) (fun h=>by omega)]; rfl,Md.refl _ _⟩
 refine aH 5 aa<|p (jz 0 u9 aa aa ab)<|e<|aM (C6 (s.getD 0 0) _) aa ?_;rintro v31 an ⟨rfl,I⟩;refine au 6 aa<|p (jz 1 u9 aa aa ab)<|e<|aM (C6 (s.getD 1 0) _) aa ?_;rintro al ao ⟨rfl,J⟩;refine au 9 aa<|gb (t:=37) aa (fun G=> ?_) fun G=> ?_;exact aC 15 aa<|aR aa<|⟨by rw [ud ab (fun h=>by omega) (fun h=>by rw [h.2.2.1] at G; cases G)]; rfl,Md.trans I J⟩
 refine aQ 5 aa<|cb aa (fun E=> ?_) fun E=> ?_;exact aJ 9 aa<|aR aa<|⟨by rw [ud ab (fun h=>by omega) (fun h=>by rw [h.2.2.2] at E; cases E)]; rfl,Md.trans I J⟩
 refine bz 3 aa ?_;have g0:=js<|s.getD 0 0;have g1:=js<|s.getD 1 0;exact dZ fun A=>aT [0] aa A<|bP 1 aa (jz 0 u9 aa aa ab) A<|bP 2 aa (l6 u3 qU aa<|qX<|by have :=js (s.getD 0 0); omega) A<|bP 3 aa (pV ((256 *(s.getD 0 0).toNat:Nat):Int) aa aa<|kq ab ab) A<|aT [4] aa A<|bP 5 aa (jz 1 u9 aa aa ab) A<|bP 6 aa (l6 u3 qU aa<|qX<|by have :=js (s.getD 1 0); omega) A<|bP 7 aa (bC<|256 *(s.getD 0 0).toNat+(s.getD 1 0).toNat) A<|aT [8] aa A<|hn aj<|bc 4 aa<|aR aa<|⟨by rw [Hk ⟨ab,ab,by simpa using G,by simpa using E⟩]; rfl,(Md.trans I J).drew⟩
 refine aH 6 aa<|e<|aM (s6 s 65535 _ hs aw) aa ?_;rintro v51 ap ⟨rfl,V⟩;have ah:=Jm s;refine p mv<|aQ 13 aa<|cd aa (fun Y=> ?_) fun Y=> ?_;exact aJ 7 aa<|aR aa<|⟨by rw [Bt ab]; unfold bJ; exact iv (by have h1:=Y; unfold ee at*; split <;> first | rfl | (rename_i h2; rw [if_neg h2] at h1; exact absurd aa h1)),V⟩
 exact aJ 9 aa<|aR aa<|⟨by rw [Bt ab]; rfl,V⟩
theorem WY (kind:Nat) (s:List UInt8) (w:ak) (hk:kind=1∨kind=2∨kind=3) (hs:s.length≤1048576):
 ba az 211 (a7 [ay kind,str s]) w (fun v w'=>v= .tuple #[bJ (ir kind s).1,ay ((ir kind s).2)]∧Wk w w'):=by
 refine enter func211 aa ntmps211 aa<|bg 12 aa<|gs (t:=9) aa (fun h=>absurd h ab) fun G=>aQ 5 aa<|cd aa (fun h=>absurd h ab) fun E=>aH 6 aa<|e<|aM (Lr kind s _ hk hs) aa ?_;rintro I J ⟨rfl,A⟩;refine aQ 10 aa<|cd aa (fun C=> ?_) fun C=> ?_;exact aJ 8 aa<|f2 aa aa aa<|⟨by unfold ir; rw [if_pos (show eZ kind s=0 by omega)]; rfl,A⟩
 exact aJ 10 aa<|f2 aa aa aa<|⟨by unfold ir; rw [if_neg (show ¬eZ kind s=0 by omega)]; rfl,A⟩
theorem V7 (kind:Nat) (s:List UInt8) (w:ak) (hk:kind=1∨kind=2∨kind=3) (hs:s.length≤1048576):
 ba az 255 (a7 [ay kind,str s]) w (fun v w'=>bo w' w.heap.size 9 1 (v) (ea kind s).length ((ea kind s).map str)∧Wk w w'):=by
 refine enter func255 aa ntmps255 aa<|bq 17 aa<|cd aa (fun aK=> ?_) fun aK=> ?_;refine bz 12 aa<|lp (fun O av G=> ∃ (i fr:Nat) (A:List (List UInt8)) (C:ag),((i≤s.length∧fr≤i∧A.length≤i∧A++fW 44 ((s.take i).drop fr) (s.drop i)=fW 44 [] s)∨(i=s.length+1∧A=fW 44 [] s))∧(bo G w.heap.size 9 1 (C) (A).length<|(A).map str)∧(Wk w G)∧(Sl av [(0,ay kind),(1,str s),(5,C),(6,ay fr),(7,ay i)])∧(s.length+1 - i=O)) _ ⟨0,0,[],.slice none 0 0,(.inl ⟨ab,ab,by simp,aa⟩),(dE _ _ _ _),(Md.refl _ _),aa,aa⟩ ?_;rintro O av G ⟨i,fr,A,C,hi,E,I,aX,rfl⟩;refine bA aX<|bq 9 aa<|cd aa (fun aL=> ?_) fun aL=> ?_;refine bz 5 aa ?_;obtain ⟨a8,bb,a9,hd⟩:=hi.resolve_right fun h=>by omega
 refine aH 6 aa<|gs (t:=22) aa (fun aP=> ?_) fun aP=> ?_;have dY:A++ [(s.take i).drop fr]=fW 44 [] s:=by rw [← hd,iR (show s.length≤i by omega),fW]
 refine au 10 aa<|ep (C)<|au 3 aa<|p (mR u9 aa aa aa ab)<|e<|gv gk aa aa fun aA an aI J Y=> ?_;have V:Wk w an:=Md.trans I J.md;refine e<|ap gk (aU E J.md) aa (by have :=V.size; omega) aa (aB.dT Y) (aa) (aa) ab ab fun am a1 aj ac a0 aO=> ?_;have Z:=Wk.own V (aU E J.md) ac<|cE _;have al:=nB aj;exact p bm<|au 4 aa<|p (bC<|i+1)<|au 6 aa<|p (bC<|i+1)<|aC 2 aa<|tn<|⟨_,ab,i+1,i+1,A++ [(s.take i).drop fr],am,(.inr ⟨ab,dY⟩),al,Z,aa,aa⟩
 refine au 2 aa<|bI aa (e5 u9 aa aa ab)<|aQ 4 aa<|cd aa (fun ah=> ?_) fun ah=> ?_;have dY:A++ [(s.take i).drop fr]++fW 44 [] (s.drop<|i+1)=fW 44 [] s:=by rw [← hd,drop_cons 0 (show i < s.length by omega),fW,if_pos (lC.1 (by have a4:(44:UInt8).toNat=44:=rfl; omega)),eX]; rfl
 refine aH 2 aa<|ep (C)<|au 3 aa<|p (mR u9 aa aa aa ab)<|e<|gv gk aa aa fun aA an aI J Y=> ?_;have V:Wk w an:=Md.trans I J.md;refine e<|ap gk (aU E J.md) aa (by have :=V.size; omega) aa (aB.dT Y) (aa) (aa) ab ab fun am a1 aj ac a0 aO=> ?_;have Z:=Wk.own V (aU E J.md) ac<|cE _;have al:=nB aj;exact p bm<|au 4 aa<|p (bC<|i+1)<|au 6 aa<|p (bC<|i+1)<|aC 2 aa<|tn<|⟨_,ab,i+1,i+1,A++ [(s.take i).drop fr],am,(.inl ⟨ab,ab,(by rw [bG,fg]; omega),by rw [show (s.take<|i+1).drop (i+1)= [] from iR (by rw [dJ]; omega)]; exact dY⟩),al,Z,aa,aa⟩
 have dY:A++fW 44 ((s.take<|i+1).drop fr) (s.drop<|i+1)=fW 44 [] s:=by rw [← hd,drop_cons 0 (show i < s.length by omega),fW,if_neg (fun h=>by rw [h] at ah; exact ah rfl),← wS 0 ab ab]
 exact aH 5 aa<|p (bC<|i+1)<|aC 2 aa<|tn<|⟨_,ab,i+1,fr,A,C,(.inl ⟨ab,ab,ab,dY⟩),E,I,aa,aa⟩
 refine aJ 2 aa<|bK<|dq 4 aa<|ep (C)<|p (nT (C) aa)<|aC 4 aa<|aR aa ?_;have ai:A=ea kind s:=by unfold ea; rw [if_pos ab]; rcases hi with h | h <;> first | omega | exact h.2
 exact ⟨by rw [← ai]; exact E,I⟩;refine bz 9 aa<|lp (fun O aw G=> ∃ (i:Nat) (A:List (List UInt8)) (C:ag),(i≤s.length+kind∧A.length≤i)∧(A++chunks kind (s.drop i)=chunks kind s)∧(bo G w.heap.size 9 1 (C) (A).length<|(A).map str)∧(Wk w G)∧(Sl aw [(0,ay kind),(1,str s),(5,C),(8,ay i)])∧(s.length - i=O)) _ ⟨0,[],.slice none 0 0,(by simp),aa,(dE _ _ _ _),(Md.refl _ _),aa,aa⟩ ?_;rintro O aw G ⟨i,A,C,hi,hd,E,I,aY,rfl⟩;refine bA aY<|bq 9 aa<|cd aa (fun aM=> ?_) fun aM=> ?_;have aT:s.drop i≠[]:=fun h=>by have :=congrArg jr h; rw [fP,gr] at this; omega
 refine aH 8 aa<|p (bC<|i+kind)<|aQ 3 aa ?_;refine ei (fun ax aq=> ∃ (j:Nat),(i≤j∧j≤s.length∧(s.take j).drop i=(s.drop i).take kind)∧(aq=G)∧(Sl ax [(0,ay kind),(1,str s),(5,C),(8,ay i),(9,ay j)])) ?_ ?_;refine bq 8 aa<|cd aa (fun aN=> ?_) fun aN=> ?_;exact aJ 5 aa<|tn<|⟨s.length,(by refine ⟨ab,ab,?_⟩; rw [List.take_length,eY (by rw [fP]; omega)]),aa,aa⟩
 exact aJ 1 aa<|tn<|⟨i+kind,(by refine ⟨ab,ab,?_⟩; rw [List.drop_take,Nat.add_sub_cancel_left]),aa,aa⟩
 rintro ax aq ⟨j,aS,aF,aZ⟩;refine bA aZ ?_;subst aF;refine aH 1 aa<|ep (C)<|au 3 aa<|p (mR u9 aa aa aa ab)<|e<|gv gk aa aa fun a3 a2 a5 ae aD=> ?_;have ao:Wk w a2:=Md.trans I ae.md;refine e<|ap gk (aU E ae.md) aa (by have :=ao.size; omega) aa (aB.dT aD) (aa) (aa) ab ab fun v60 bd aV aG bc a6=> ?_;have aE:=Wk.own ao (aU E ae.md) aG<|cE _;have aW:=nB aV;exact p bm<|au 6 aa<|p (bC<|i+kind)<|aC 2 aa<|tn<|⟨_,ab,i+kind,A++ [(s.drop i).take kind],v60,(by rw [bG,fg]; omega),(by rw [← hd,xS (k:=kind) ab aT,eX,tA]; rfl),(by rw [← aS.2.2]; exact aW),aE,aa,aa⟩
 refine aJ 2 aa<|bK<|dq 4 aa<|ep (C)<|p (nT (C) aa)<|aC 3 aa<|aR aa ?_;have ai:A=ea kind s:=by unfold ea; rw [if_neg ab,← hd,iR ab,xT,ez]
 exact ⟨by rw [← ai]; exact E,I⟩
theorem C3 (l:List Nat) (a:Option bF) (c:Nat) (w:ak) (C:aB w.heap a (l.map bJ)) (aS:l.length≤1048576) (aE:∀ x∈l,x < 65536):
 ba az 256 (a7 [.slice a l.length c]) w (fun v w'=>bo w' w.heap.size 3 1 (v) (kL l).length ((kL l).map bJ)∧Wk w w'):=by
 refine enter func256 aa ntmps256 aa<|bq 16 aa<|lp (fun J aj O=> ∃ (out:List Nat) (last:Int) (I:ag),(-1≤last∧last < 65536)∧(rl l out last)∧(bo O w.heap.size 3 1 (I) (out).length<|(out).map bJ)∧(Wk w O)∧(out.length≤65536)∧(Sl aj [(0,.slice a l.length c),(3,I),(4,.int .i64 last)])∧((65536 - last).toNat=J)) _ ⟨[],-1,.slice none 0 0,(aw),(rl.nil l),(dE _ _ _ _),(Md.refl _ _),(Nat.zero_le _),aa,aa⟩ ?_;rintro J aj O ⟨out,last,I,aT,ai,Z,an,aX,aI,rfl⟩;refine bA aI<|bq 13 aa<|lp (fun J al ac=> ∃ (i:Nat) (nx:Int),(i≤l.length∧ -1≤nx)∧(lH l last i nx)∧(Wk w ac)∧(Wk O ac)∧(Sl al [(0,.slice a l.length c),(3,I),(4,.int .i64 last),(5,.int .i64 nx),(6,ay i)])∧(l.length - i=J)) _ ⟨0,-1,(ab),(lH.nil l last),an,(Md.refl _ _),aa,aa⟩ ?_;rintro J al ac ⟨i,nx,hi,E,A,G,aK,rfl⟩;refine bA aK<|bq 9 aa<|cd aa (fun av=> ?_) fun av=> ?_;refine aH 8 aa<|p (a6 ke aa aa ab<|aB.ok (C.wk A)<|bS ab)<|p (ld1 aa<|yG (f:=bJ) (i:=i) 0 (C.wk A) ab)<|au 3 aa<|gs (t:=19) aa (fun aA=> ?_) fun aA=> ?_;refine au 3 aa<|gs (t:=22) aa (fun aD=> ?_) fun aD=> ?_;exact au 7 aa<|p (wo aa)<|au 6 aa<|p (a6 ke aa aa ab<|aB.ok (C.wk A)<|bS ab)<|p (ld1 aa<|yG (f:=bJ) (i:=i) 0 (C.wk A) ab)<|au 6 aa<|p (bC<|i+1)<|aC 2 aa<|tn<|⟨_,ab,i+1,((l.getD i 0:Nat):Int),(ab),(E.take ab ab<|.inl ab),A,G,aa,aa⟩
 refine au 2 aa<|bI aa (a6 ke aa aa ab<|aB.ok (C.wk A)<|bS ab)<|bI aa (ld1 aa<|yG (f:=bJ) (i:=i) 0 (C.wk A) ab)<|aQ 6 aa<|cd aa (fun ax=> ?_) fun ax=> ?_;exact aH 3 aa<|p (a6 ke aa aa ab<|aB.ok (C.wk A)<|bS ab)<|p (ld1 aa<|yG (f:=bJ) (i:=i) 0 (C.wk A) ab)<|au 6 aa<|p (bC<|i+1)<|aC 2 aa<|tn<|⟨_,ab,i+1,((l.getD i 0:Nat):Int),(ab),(E.take ab ab<|.inr ab),A,G,aa,aa⟩
 exact aH 5 aa<|p (bC<|i+1)<|aC 2 aa<|tn<|⟨_,ab,i+1,nx,(ab),(E.skip<|.inr ⟨ab,ab⟩),A,G,aa,aa⟩
 exact au 19 aa<|p (bC<|i+1)<|aC 2 aa<|tn<|⟨_,ab,i+1,nx,(ab),(E.skip<|.inl ab),A,G,aa,aa⟩
 refine aJ 2 aa<|bK<|dz 9 aa<|cd aa (fun Y=> ?_) fun Y=> ?_;refine aH 2 aa<|ep (I)<|p (nT (I) aa)<|aC 5 aa<|tr<|bc 1 aa<|aR aa ?_;have aL:=lH.done (by rw [show i=l.length by omega] at E; exact E) ai Y;exact ⟨by rw [← aL]; exact aU Z G,A⟩;obtain ⟨m,hm,aF,aV,ah⟩:=lH.more (by rw [show i=l.length by omega] at E; exact E) ai Y;have aW:=aE m hm;refine aH 4 aa<|ep (I)<|au 1 aa<|e<|gv lx aa aa fun aN aM aO V am=> ?_;have ae:Wk w aM:=Md.trans A V.md;refine e<|ap lx (aU (aU Z G) V.md) aa (by have :=ae.size; omega) aa (aB.dT am) (aa) (aa) ab ab fun v41 aZ aG aq aY aP=> ?_;have ao:=Wk.own ae (aU (aU Z G) V.md) aq<|cE _;exact p bm<|aC 7 aa<|tn<|⟨_,ab,out++ [m],nx,v41,(ab),ah,(by rw [bG,gS]; subst aF; exact aG),ao,(Y0 ah ab),aa,aa⟩
theorem J0 (kind:Nat) (s:List UInt8) (w:ak) (hk:kind=1∨kind=2∨kind=3) (hs:s.length≤1048576):
 ba az 214 (a7 [ay kind,str s]) w (fun v w'=>(∃ a,v= .tuple #[a,ay ((ed kind s).2)]∧bo w' w.heap.size 3 1 (a) ((ed kind s).1).length (((ed kind s).1).map bJ))∧Wk w w'):=by
 refine enter func214 aa ntmps214 aa<|bg 12 aa<|gs (t:=12) aa (fun h=>absurd h ab) fun a3=>aQ 5 aa<|cd aa (fun h=>absurd h ab) fun a1=>bz 10 aa<|cd aa (fun E=> ?_) fun E=> ?_;refine aJ 8 aa<|f2 aa aa aa ?_;have av:s= []:=fY ab;exact ⟨⟨.slice none 0 0,by unfold ed; rw [if_pos av]; rfl,by unfold ed; rw [if_pos av]; exact dE _ _ _ _⟩,Md.refl _ _⟩;refine aH 11 aa<|e<|aM (V7 kind s _ hk hs) aa ?_;rintro v21 Z ⟨ao,V⟩;obtain ⟨aA,aD,rfl⟩:=cz ao;have an:=(aX ao).2;have a4:=JG (kind:=kind) (s:=s) ab;refine p bm<|aQ 9 aa<|lp (fun al ax aj=> ∃ (i:Nat) (fs:List Nat) (ah:ag),(i≤(ea kind s).length∧fs.length≤65)∧(¬∃ x∈(ea kind s).take i,eZ kind x=0)∧(fs=(((ea kind s).take i).map<|eZ kind).take 65)∧(bo aj Z.heap.size 3 1 (ah) (fs).length<|(fs).map bJ)∧(Wk Z aj)∧(Sl ax [(0,ay kind),(1,str s),(6,ah),(7,.slice aA (ea kind s).length aD),(8,ay i)])∧((ea kind s).length - i=al)) _ ⟨0,[],.slice none 0 0,(by simp),(by rintro ⟨x,Y,_⟩; simp at Y),aa,(dE _ _ _ _),(Md.refl _ _),aa,aa⟩ ?_;rintro al ax aj ⟨i,fs,ah,hi,O,J,I,A,aS,rfl⟩;refine bA aS<|bq 9 aa<|cd aa (fun aK=> ?_) fun aK=> ?_;refine bz 5 aa ?_;obtain ⟨ac,ae,rfl⟩:=cz I;refine aH 4 aa<|p (a6 cM aa aa ab<|aB.ok (an.wk A)<|bS ab)<|p (ld1 aa<|bW.get (i:=i) (an.wk A) ab)<|e<|aM (Lr kind ((ea kind s).getD i []) _ hk<|by have :=JH (kind:=kind) ab (yu (d:= []) (show i < (ea kind s).length by omega)); omega) aa ?_;rintro v33 a8 ⟨rfl,G⟩;refine aQ 10 aa<|cd aa (fun aL=> ?_) fun aL=> ?_;refine aJ 10 aa<|tr<|bc 2 aa<|f2 aa aa aa ?_;have C:ed kind s=([],31):=by unfold ed; rw [if_neg (fun h=>by rw [h] at E; exact E rfl),if_pos ⟨_,yu (d:= []) (show i < (ea kind s).length by omega),ab⟩]
 exact ⟨⟨.slice none 0 0,by rw [C]; rfl,by rw [C]; exact dE _ _ _ _⟩,Md.trans V<|Md.trans A G⟩;refine bz 9 aa<|cd aa (fun aN=> ?_) fun aN=> ?_;refine aH 3 aa<|e<|gv lx aa aa fun aZ aW a0 ai aE=> ?_;have am:Wk Z aW:=Md.trans (Md.trans A G) ai.md;refine e<|ap lx (aU (aU I G) ai.md) aa (by have :=am.size; omega) aa (aB.dT aE) (aa) (aa) ab ab fun aw aY aP aI a5 a2=> ?_;have aF:=Wk.own am (aU (aU I G) ai.md) aI<|cE _;have aR:bo aY Z.heap.size 3 1 (aw) (fs++ [eZ kind ((ea kind s).getD i [])]).length ((fs++ [eZ kind ((ea kind s).getD i [])]).map bJ):=by
  rw [bG,gS]; exact aP
 exact p bm<|au 5 aa<|p (bC<|i+1)<|aC 2 aa<|tn<|⟨_,ab,i+1,fs++ [eZ kind ((ea kind s).getD i [])],aw,(by rw [bG,fg]; omega),(Bj ab O ab),(by rw [fN _ i [] ab,gS]; exact Yy ab J _),aR,aF,aa,aa⟩
 exact aH 5 aa<|p (bC<|i+1)<|aC 2 aa<|tn<|⟨_,ab,i+1,fs,.slice ac fs.length ae,ab,(Bj ab O ab),(by rw [fN _ i [] ab,gS]; exact Yx ab ab J _),(aU I G),(Md.trans A G),aa,aa⟩
 refine aJ 2 aa<|bK<|dz 4 aa ?_;obtain ⟨ac,ae,rfl⟩:=cz I;have aT:(ea kind s).take i=(ea kind s):=eY ab;rw [aT] at J O;refine bz 6 aa<|cd aa (fun aO=> ?_) fun aO=> ?_;refine aJ 8 aa<|f2 aa aa aa ?_;have C:ed kind s=([],32):=by unfold ed; rw [if_neg (fun h=>by rw [h] at E; exact E rfl),if_neg O,if_pos ab]
 exact ⟨⟨.slice none 0 0,by rw [C]; rfl,by rw [C]; exact dE _ _ _ _⟩,Md.trans V A⟩;refine aH 5 aa<|e<|aM (C3 fs ac ae _ (aX I).2 ab fun x Y=>by rw [J] at Y; obtain ⟨y,_,rfl⟩:=je.1 (MW Y); exact Hi _ _) aa ?_;rintro aV a9 ⟨aq,aG⟩;refine p bm<|aC 4 aa<|f2 aa aa aa ?_;have C:ed kind s=(kL ((ea kind s).map<|eZ kind),0):=by unfold ed; rw [if_neg (fun h=>by rw [h] at E; exact E rfl),if_neg O,if_neg ab]
 rw [J,eY (by rw [fC]; omega)] at aq;exact ⟨⟨aV,by rw [C]; rfl,by rw [C]; exact eR aq<|by have :=V.size; have :=A.size; omega⟩,Md.trans V<|Md.trans A aG⟩
end Go.Hb.xE
