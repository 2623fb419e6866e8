/-
  Walks and plain laws that the law rests on, laid together. No conditions but those that each theorem names.
-/
import Derived.Test.YtkiemnnhcilhpaaGreatDoorMnDicOrder4
set_option linter.unusedVariables false
section
set_option maxRecDepth 20000
set_option maxHeartbeats 1000000
namespace Go.Hb.sh
open Go.Hb.c6
open Go.Proofs
open Go.Hb.ff Go.Hb.fP Go.Hb.jV Go.Hb.gh Go.Hb.ji Go.Hb.kO Go.Hb.kr Go.Hb.iW
theorem Du (B:Nat) (H:bw) (F:aM) (rows:List Rw) (ln:Nat) (seen:List Tx) (r:List Tx) (i:Nat) (a:Option Addr) (c:Nat) (w:World) (j:St w B H F rows ln seen) (p:Tg w i 9 r.length (.slice a r.length c) (r.map str)) (q:∀ x∈r,x.length≤70000) (hw:r.length=width (r.getD 0 [])) (C:fR F seen) (A:width (r.getD 0 [])=2→r.getD 0 []∉seen) (s:F.bW.length+F.aliases.length+F.bf.length+F.rules.length+rows.length < 70000) (hk:r.getD 0 []=fu):c8 Tryz.prog 58 (List.toArray [.pointer (some ⟨H.rb,0,none⟩),.slice a r.length c]) w (eW B H seen (bB H.eof F seen rows ln r) w) (eV B H (bB H.eof F seen rows ln r) w):=by
 have h:=En B H F rows ln seen r i a c w j p (by rw [hw,hk]; decide) q
 rw [show bB H.eof F seen rows ln r=gY F seen rows ln r from by unfold bB; rw [hk]; rfl]
 exact h
theorem DC (B:Nat) (H:bw) (F:aM) (rows:List Rw) (ln:Nat) (seen:List Tx) (r:List Tx) (i:Nat) (a:Option Addr) (c:Nat) (w:World) (j:St w B H F rows ln seen) (p:Tg w i 9 r.length (.slice a r.length c) (r.map str)) (q:∀ x∈r,x.length≤70000) (hw:r.length=width (r.getD 0 [])) (C:fR F seen) (A:width (r.getD 0 [])=2→r.getD 0 []∉seen) (s:F.bW.length+F.aliases.length+F.bf.length+F.rules.length+rows.length < 70000) (hk:r.getD 0 []=fD):c8 Tryz.prog 59 (List.toArray [.pointer (some ⟨H.rb,0,none⟩),.slice a r.length c]) w (eW B H seen (bB H.eof F seen rows ln r) w) (eV B H (bB H.eof F seen rows ln r) w):=by
 have h:=Ar B H F rows ln seen r i a c w j p (by rw [hw,hk]; decide) q
 rw [show bB H.eof F seen rows ln r=jL F rows ln r from by unfold bB; rw [hk]; rfl]
 exact h
theorem DE (B:Nat) (H:bw) (F:aM) (rows:List Rw) (ln:Nat) (seen:List Tx) (r:List Tx) (i:Nat) (a:Option Addr) (c:Nat) (w:World) (j:St w B H F rows ln seen) (p:Tg w i 9 r.length (.slice a r.length c) (r.map str)) (q:∀ x∈r,x.length≤70000) (hw:r.length=width (r.getD 0 [])) (C:fR F seen) (A:width (r.getD 0 [])=2→r.getD 0 []∉seen) (s:F.bW.length+F.aliases.length+F.bf.length+F.rules.length+rows.length < 70000) (hk:r.getD 0 []=fL):c8 Tryz.prog 60 (List.toArray [.pointer (some ⟨H.rb,0,none⟩),.slice a r.length c]) w (eW B H seen (bB H.eof F seen rows ln r) w) (eV B H (bB H.eof F seen rows ln r) w):=by
 have h:=HH B H F rows ln seen r i a c w j p (by rw [hw,hk]; decide) q
 rw [show bB H.eof F seen rows ln r=jM F rows ln r from by unfold bB; rw [hk]; rfl]
 exact h
theorem Dy (B:Nat) (H:bw) (F:aM) (rows:List Rw) (ln:Nat) (seen:List Tx) (r:List Tx) (i:Nat) (a:Option Addr) (c:Nat) (w:World) (j:St w B H F rows ln seen) (p:Tg w i 9 r.length (.slice a r.length c) (r.map str)) (s:∀ x∈r,x.length≤70000) (hw:r.length=width (r.getD 0 [])) (A:fR F seen) (q:width (r.getD 0 [])=2→r.getD 0 []∉seen) (C:F.bW.length+F.aliases.length+F.bf.length+F.rules.length+rows.length < 70000) (hk:r.getD 0 []=fY):c8 Tryz.prog 61 (List.toArray [.pointer (some ⟨H.rb,0,none⟩),.slice a r.length c]) w (eW B H seen (bB H.eof F seen rows ln r) w) (eV B H (bB H.eof F seen rows ln r) w):=by
 have h:=nu B H F rows ln seen r i a c w j p (by rw [hw,hk]; decide) s (by rw [hk]; decide) (A _ (by rw [hk]; decide) (q (by rw [hk]; decide)))
 rw [show bB H.eof F seen rows ln r=gD F rows ln r from by unfold bB; rw [hk]; rfl]
 exact h
theorem Dv (B:Nat) (H:bw) (F:aM) (rows:List Rw) (ln:Nat) (seen:List Tx) (r:List Tx) (i:Nat) (a:Option Addr) (c:Nat) (w:World) (j:St w B H F rows ln seen) (p:Tg w i 9 r.length (.slice a r.length c) (r.map str)) (s:∀ x∈r,x.length≤70000) (hw:r.length=width (r.getD 0 [])) (A:fR F seen) (q:width (r.getD 0 [])=2→r.getD 0 []∉seen) (C:F.bW.length+F.aliases.length+F.bf.length+F.rules.length+rows.length < 70000) (hk:r.getD 0 []=gj):c8 Tryz.prog 61 (List.toArray [.pointer (some ⟨H.rb,0,none⟩),.slice a r.length c]) w (eW B H seen (bB H.eof F seen rows ln r) w) (eV B H (bB H.eof F seen rows ln r) w):=by
 have h:=nu B H F rows ln seen r i a c w j p (by rw [hw,hk]; decide) s (by rw [hk]; decide) (A _ (by rw [hk]; decide) (q (by rw [hk]; decide)))
 rw [show bB H.eof F seen rows ln r=gD F rows ln r from by unfold bB; rw [hk]; rfl]
 exact h
theorem Dw (B:Nat) (H:bw) (F:aM) (rows:List Rw) (ln:Nat) (seen:List Tx) (r:List Tx) (i:Nat) (a:Option Addr) (c:Nat) (w:World) (j:St w B H F rows ln seen) (p:Tg w i 9 r.length (.slice a r.length c) (r.map str)) (s:∀ x∈r,x.length≤70000) (hw:r.length=width (r.getD 0 [])) (A:fR F seen) (q:width (r.getD 0 [])=2→r.getD 0 []∉seen) (C:F.bW.length+F.aliases.length+F.bf.length+F.rules.length+rows.length < 70000) (hk:r.getD 0 []=gz):c8 Tryz.prog 61 (List.toArray [.pointer (some ⟨H.rb,0,none⟩),.slice a r.length c]) w (eW B H seen (bB H.eof F seen rows ln r) w) (eV B H (bB H.eof F seen rows ln r) w):=by
 have h:=nu B H F rows ln seen r i a c w j p (by rw [hw,hk]; decide) s (by rw [hk]; decide) (A _ (by rw [hk]; decide) (q (by rw [hk]; decide)))
 rw [show bB H.eof F seen rows ln r=gD F rows ln r from by unfold bB; rw [hk]; rfl]
 exact h
theorem Dt (B:Nat) (H:bw) (F:aM) (rows:List Rw) (ln:Nat) (seen:List Tx) (r:List Tx) (i:Nat) (a:Option Addr) (c:Nat) (w:World) (j:St w B H F rows ln seen) (p:Tg w i 9 r.length (.slice a r.length c) (r.map str)) (s:∀ x∈r,x.length≤70000) (hw:r.length=width (r.getD 0 [])) (A:fR F seen) (q:width (r.getD 0 [])=2→r.getD 0 []∉seen) (C:F.bW.length+F.aliases.length+F.bf.length+F.rules.length+rows.length < 70000) (hk:r.getD 0 []=gK):c8 Tryz.prog 61 (List.toArray [.pointer (some ⟨H.rb,0,none⟩),.slice a r.length c]) w (eW B H seen (bB H.eof F seen rows ln r) w) (eV B H (bB H.eof F seen rows ln r) w):=by
 have h:=nu B H F rows ln seen r i a c w j p (by rw [hw,hk]; decide) s (by rw [hk]; decide) (A _ (by rw [hk]; decide) (q (by rw [hk]; decide)))
 rw [show bB H.eof F seen rows ln r=gD F rows ln r from by unfold bB; rw [hk]; rfl]
 exact h
theorem Dz (B:Nat) (H:bw) (F:aM) (rows:List Rw) (ln:Nat) (seen:List Tx) (r:List Tx) (i:Nat) (a:Option Addr) (c:Nat) (w:World) (j:St w B H F rows ln seen) (p:Tg w i 9 r.length (.slice a r.length c) (r.map str)) (s:∀ x∈r,x.length≤70000) (hw:r.length=width (r.getD 0 [])) (A:fR F seen) (q:width (r.getD 0 [])=2→r.getD 0 []∉seen) (C:F.bW.length+F.aliases.length+F.bf.length+F.rules.length+rows.length < 70000) (hk:r.getD 0 []=gX):c8 Tryz.prog 61 (List.toArray [.pointer (some ⟨H.rb,0,none⟩),.slice a r.length c]) w (eW B H seen (bB H.eof F seen rows ln r) w) (eV B H (bB H.eof F seen rows ln r) w):=by
 have h:=nu B H F rows ln seen r i a c w j p (by rw [hw,hk]; decide) s (by rw [hk]; decide) (A _ (by rw [hk]; decide) (q (by rw [hk]; decide)))
 rw [show bB H.eof F seen rows ln r=gD F rows ln r from by unfold bB; rw [hk]; rfl]
 exact h
theorem Dx (B:Nat) (H:bw) (F:aM) (rows:List Rw) (ln:Nat) (seen:List Tx) (r:List Tx) (i:Nat) (a:Option Addr) (c:Nat) (w:World) (j:St w B H F rows ln seen) (p:Tg w i 9 r.length (.slice a r.length c) (r.map str)) (q:∀ x∈r,x.length≤70000) (hw:r.length=width (r.getD 0 [])) (C:fR F seen) (A:width (r.getD 0 [])=2→r.getD 0 []∉seen) (s:F.bW.length+F.aliases.length+F.bf.length+F.rules.length+rows.length < 70000) (hk:r.getD 0 []=iq):c8 Tryz.prog 62 (List.toArray [.pointer (some ⟨H.rb,0,none⟩),.slice a r.length c]) w (eW B H seen (bB H.eof F seen rows ln r) w) (eV B H (bB H.eof F seen rows ln r) w):=by
 have h:=Er B H F rows ln seen r i a c w j p (by rw [hw,hk]; decide) q
 rw [show bB H.eof F seen rows ln r=g5 F rows ln r from by unfold bB; rw [hk]; rfl]
 exact h
theorem DB (B:Nat) (H:bw) (F:aM) (rows:List Rw) (ln:Nat) (seen:List Tx) (r:List Tx) (i:Nat) (a:Option Addr) (c:Nat) (w:World) (j:St w B H F rows ln seen) (p:Tg w i 9 r.length (.slice a r.length c) (r.map str)) (q:∀ x∈r,x.length≤70000) (hw:r.length=width (r.getD 0 [])) (C:fR F seen) (A:width (r.getD 0 [])=2→r.getD 0 []∉seen) (s:F.bW.length+F.aliases.length+F.bf.length+F.rules.length+rows.length < 70000) (hk:r.getD 0 []=fK):c8 Tryz.prog 63 (List.toArray [.pointer (some ⟨H.rb,0,none⟩),.slice a r.length c]) w (eW B H seen (bB H.eof F seen rows ln r) w) (eV B H (bB H.eof F seen rows ln r) w):=by
 have h:=Gs B H F rows ln seen r i a c w j p (by rw [hw,hk]; decide) q
 rw [show bB H.eof F seen rows ln r=g6 H.eof F rows ln r from by unfold bB; rw [hk]; rfl]
 exact h
theorem Ds (B:Nat) (H:bw) (F:aM) (rows:List Rw) (ln:Nat) (seen:List Tx) (r:List Tx) (i:Nat) (a:Option Addr) (c:Nat) (w:World) (j:St w B H F rows ln seen) (p:Tg w i 9 r.length (.slice a r.length c) (r.map str)) (q:∀ x∈r,x.length≤70000) (hw:r.length=width (r.getD 0 [])) (C:fR F seen) (A:width (r.getD 0 [])=2→r.getD 0 []∉seen) (s:F.bW.length+F.aliases.length+F.bf.length+F.rules.length+rows.length < 70000) (hk:r.getD 0 []=fq):c8 Tryz.prog 64 (List.toArray [.pointer (some ⟨H.rb,0,none⟩),.slice a r.length c]) w (eW B H seen (bB H.eof F seen rows ln r) w) (eV B H (bB H.eof F seen rows ln r) w):=by
 have h:=yF B H F rows ln seen r i a c w j p (by rw [hw,hk]; decide) q
 rw [show bB H.eof F seen rows ln r=gH H.eof F seen rows ln r from by unfold bB; rw [hk]; rfl]
 exact h
theorem DA (B:Nat) (H:bw) (F:aM) (rows:List Rw) (ln:Nat) (seen:List Tx) (r:List Tx) (i:Nat) (a:Option Addr) (c:Nat) (w:World) (j:St w B H F rows ln seen) (p:Tg w i 9 r.length (.slice a r.length c) (r.map str)) (s:∀ x∈r,x.length≤70000) (hw:r.length=width (r.getD 0 [])) (C:fR F seen) (A:width (r.getD 0 [])=2→r.getD 0 []∉seen) (q:F.bW.length+F.aliases.length+F.bf.length+F.rules.length+rows.length < 70000) (hk:r.getD 0 []=fw):c8 Tryz.prog 65 (List.toArray [.pointer (some ⟨H.rb,0,none⟩),.slice a r.length c]) w (eW B H seen (bB H.eof F seen rows ln r) w) (eV B H (bB H.eof F seen rows ln r) w):=by
 have h:=tI B H F rows ln seen r i a c w j p (by rw [hw,hk]; decide) s q
 rw [show bB H.eof F seen rows ln r=eZ H.eof F rows ln r from by unfold bB; rw [hk]; rfl]
 exact h
theorem DD (B:Nat) (H:bw) (F:aM) (rows:List Rw) (ln:Nat) (seen:List Tx) (r:List Tx) (i:Nat) (a:Option Addr) (c:Nat) (w:World) (j:St w B H F rows ln seen) (p:Tg w i 9 r.length (.slice a r.length c) (r.map str)) (s:∀ x∈r,x.length≤70000) (hw:r.length=width (r.getD 0 [])) (C:fR F seen) (A:width (r.getD 0 [])=2→r.getD 0 []∉seen) (q:F.bW.length+F.aliases.length+F.bf.length+F.rules.length+rows.length < 70000) (hk:r.getD 0 []=cg):c8 Tryz.prog 65 (List.toArray [.pointer (some ⟨H.rb,0,none⟩),.slice a r.length c]) w (eW B H seen (bB H.eof F seen rows ln r) w) (eV B H (bB H.eof F seen rows ln r) w):=by
 have h:=tI B H F rows ln seen r i a c w j p (by rw [hw,hk]; decide) s q
 rw [show bB H.eof F seen rows ln r=eZ H.eof F rows ln r from by unfold bB; rw [hk]; rfl]
 exact h
theorem vp (B:Nat) (H:bw) (F:aM) (rows:List Rw) (ln:Nat) (seen:List Tx) (r:List Tx) (j:Nat) (c:Option Addr) (i:Nat) (w:World) (p:St w B H F rows ln seen) (q:Tg w j 9 r.length (.slice c r.length i) (r.map str)) (C:∀ x∈r,x.length≤70000) (hw:r.length=width (r.getD 0 [])) (E:fR F seen) (A:width (r.getD 0 [])=2→r.getD 0 []∉seen) (s:F.bW.length+F.aliases.length+F.bf.length+F.rules.length+rows.length < 70000) {v:Value} (a:ei (r.getD 0 [])=some v):∃ f:Nat,v= .agg [.int .i64 (width (r.getD 0 []):Nat),.func (.func f) #[] #[]].toArray∧aY Tryz.prog f∧c8 Tryz.prog f (List.toArray [.pointer (some ⟨H.rb,0,none⟩),.slice c r.length i]) w (eW B H seen (bB H.eof F seen rows ln r) w) (eV B H (bB H.eof F seen rows ln r) w):=by
 unfold ei at a
 by_cases hk:r.getD 0 []=cg
 · rw [if_pos hk] at a; cases a; exact ⟨_,by rw [hk]; rfl,tv,DD B H F rows ln seen r j c i w p q C hw E A s hk⟩
 · rw [if_neg hk] at a; clear hk
   by_cases hk:r.getD 0 []=fw
   · rw [if_pos hk] at a; cases a; exact ⟨_,by rw [hk]; rfl,tv,DA B H F rows ln seen r j c i w p q C hw E A s hk⟩
   · rw [if_neg hk] at a; clear hk
     by_cases hk:r.getD 0 []=fq
     · rw [if_pos hk] at a; cases a; exact ⟨_,by rw [hk]; rfl,Ae,Ds B H F rows ln seen r j c i w p q C hw E A s hk⟩
     · rw [if_neg hk] at a; clear hk
       by_cases hk:r.getD 0 []=fK
       · rw [if_pos hk] at a; cases a; exact ⟨_,by rw [hk]; rfl,Ad,DB B H F rows ln seen r j c i w p q C hw E A s hk⟩
       · rw [if_neg hk] at a; clear hk
         by_cases hk:r.getD 0 []=iq
         · rw [if_pos hk] at a; cases a; exact ⟨_,by rw [hk]; rfl,Ac,Dx B H F rows ln seen r j c i w p q C hw E A s hk⟩
         · rw [if_neg hk] at a; clear hk
           by_cases hk:r.getD 0 []=gX
           · rw [if_pos hk] at a; cases a; exact ⟨_,by rw [hk]; rfl,mJ,Dz B H F rows ln seen r j c i w p q C hw E A s hk⟩
           · rw [if_neg hk] at a; clear hk
             by_cases hk:r.getD 0 []=gK
             · rw [if_pos hk] at a; cases a; exact ⟨_,by rw [hk]; rfl,mJ,Dt B H F rows ln seen r j c i w p q C hw E A s hk⟩
             · rw [if_neg hk] at a; clear hk
               by_cases hk:r.getD 0 []=gz
               · rw [if_pos hk] at a; cases a; exact ⟨_,by rw [hk]; rfl,mJ,Dw B H F rows ln seen r j c i w p q C hw E A s hk⟩
               · rw [if_neg hk] at a; clear hk
                 by_cases hk:r.getD 0 []=gj
                 · rw [if_pos hk] at a; cases a; exact ⟨_,by rw [hk]; rfl,mJ,Dv B H F rows ln seen r j c i w p q C hw E A s hk⟩
                 · rw [if_neg hk] at a; clear hk
                   by_cases hk:r.getD 0 []=fY
                   · rw [if_pos hk] at a; cases a; exact ⟨_,by rw [hk]; rfl,mJ,Dy B H F rows ln seen r j c i w p q C hw E A s hk⟩
                   · rw [if_neg hk] at a; clear hk
                     by_cases hk:r.getD 0 []=fL
                     · rw [if_pos hk] at a; cases a; exact ⟨_,by rw [hk]; rfl,Ab,DE B H F rows ln seen r j c i w p q C hw E A s hk⟩
                     · rw [if_neg hk] at a; clear hk
                       by_cases hk:r.getD 0 []=fD
                       · rw [if_pos hk] at a; cases a; exact ⟨_,by rw [hk]; rfl,Aa,DC B H F rows ln seen r j c i w p q C hw E A s hk⟩
                       · rw [if_neg hk] at a; clear hk
                         by_cases hk:r.getD 0 []=fu
                         · rw [if_pos hk] at a; cases a; exact ⟨_,by rw [hk]; rfl,z9,Du B H F rows ln seen r j c i w p q C hw E A s hk⟩
                         · rw [if_neg hk] at a; clear hk
                           cases a
theorem vl {s:Tx} (a:ei s=none):width s=0:=by
 unfold ei at a
 by_cases M:s=cg
 · rw [if_pos M] at a; cases a
 · rw [if_neg M] at a
   by_cases G:s=fw
   · rw [if_pos G] at a; cases a
   · rw [if_neg G] at a
     by_cases c:s=fq
     · rw [if_pos c] at a; cases a
     · rw [if_neg c] at a
       by_cases I:s=fK
       · rw [if_pos I] at a; cases a
       · rw [if_neg I] at a
         by_cases A:s=iq
         · rw [if_pos A] at a; cases a
         · rw [if_neg A] at a
           by_cases E:s=gX
           · rw [if_pos E] at a; cases a
           · rw [if_neg E] at a
             by_cases i:s=gK
             · rw [if_pos i] at a; cases a
             · rw [if_neg i] at a
               by_cases q:s=gz
               · rw [if_pos q] at a; cases a
               · rw [if_neg q] at a
                 by_cases p:s=gj
                 · rw [if_pos p] at a; cases a
                 · rw [if_neg p] at a
                   by_cases C:s=fY
                   · rw [if_pos C] at a; cases a
                   · rw [if_neg C] at a
                     by_cases O:s=fL
                     · rw [if_pos O] at a; cases a
                     · rw [if_neg O] at a
                       by_cases J:s=fD
                       · rw [if_pos J] at a; cases a
                       · rw [if_neg J] at a
                         by_cases j:s=fu
                         · rw [if_pos j] at a; cases a
                         · rw [if_neg j] at a
                           unfold width dU; simp [j,J,O,C,p,q,i,E,A,I,c,G,M]
theorem qU (s:Tx):ei s=none∨∃ (wd f:Nat),ei s=some (Value.agg #[.int .i64 (wd:Nat),.func (.func f) #[] #[]])∧width s=wd∧wd≠0:=by
 by_cases a:s=cg
 · exact .inr ⟨4,65,by unfold ei; rw [if_pos a],by rw [a]; decide,ao⟩
 by_cases c:s=fw
 · exact .inr ⟨4,65,by unfold ei; rw [if_neg a,if_pos c],by rw [c]; decide,ao⟩
 by_cases i:s=fq
 · exact .inr ⟨2,64,by unfold ei; rw [if_neg a,if_neg c,if_pos i],by rw [i]; decide,ao⟩
 by_cases j:s=fK
 · exact .inr ⟨2,63,by unfold ei; rw [if_neg a,if_neg c,if_neg i,if_pos j],by rw [j]; decide,ao⟩
 by_cases p:s=iq
 · exact .inr ⟨2,62,by unfold ei; rw [if_neg a,if_neg c,if_neg i,if_neg j,if_pos p],by rw [p]; decide,ao⟩
 by_cases q:s=gX
 · exact .inr ⟨2,61,by unfold ei; rw [if_neg a,if_neg c,if_neg i,if_neg j,if_neg p,if_pos q],by rw [q]; decide,ao⟩
 by_cases A:s=gK
 · exact .inr ⟨2,61,by unfold ei; rw [if_neg a,if_neg c,if_neg i,if_neg j,if_neg p,if_neg q,if_pos A],by rw [A]; decide,ao⟩
 by_cases C:s=gz
 · exact .inr ⟨2,61,by unfold ei; rw [if_neg a,if_neg c,if_neg i,if_neg j,if_neg p,if_neg q,if_neg A,if_pos C],by rw [C]; decide,ao⟩
 by_cases E:s=gj
 · exact .inr ⟨2,61,by unfold ei; rw [if_neg a,if_neg c,if_neg i,if_neg j,if_neg p,if_neg q,if_neg A,if_neg C,if_pos E],by rw [E]; decide,ao⟩
 by_cases G:s=fY
 · exact .inr ⟨2,61,by unfold ei; rw [if_neg a,if_neg c,if_neg i,if_neg j,if_neg p,if_neg q,if_neg A,if_neg C,if_neg E,if_pos G],by rw [G]; decide,ao⟩
 by_cases I:s=fL
 · exact .inr ⟨2,60,by unfold ei; rw [if_neg a,if_neg c,if_neg i,if_neg j,if_neg p,if_neg q,if_neg A,if_neg C,if_neg E,if_neg G,if_pos I],by rw [I]; decide,ao⟩
 by_cases J:s=fD
 · exact .inr ⟨2,59,by unfold ei; rw [if_neg a,if_neg c,if_neg i,if_neg j,if_neg p,if_neg q,if_neg A,if_neg C,if_neg E,if_neg G,if_neg I,if_pos J],by rw [J]; decide,ao⟩
 by_cases M:s=fu
 · exact .inr ⟨2,58,by unfold ei; rw [if_neg a,if_neg c,if_neg i,if_neg j,if_neg p,if_neg q,if_neg A,if_neg C,if_neg E,if_neg G,if_neg I,if_neg J,if_pos M],by rw [M]; decide,ao⟩
 refine .inl ?_
 unfold ei
 rw [if_neg a,if_neg c,if_neg i,if_neg j,if_neg p,if_neg q,if_neg A,if_neg C,if_neg E,if_neg G,if_neg I,if_neg J,if_neg M]
end Go.Hb.sh
end
section
set_option maxRecDepth 20000
set_option maxHeartbeats 1000000
namespace Go.Hb.nL
open Go.Hb.c6
open Go.Proofs
open Go.Hb.gP Go.Hb.gG
theorem Dm {α:Type} {l:List α} {i:Nat} {d:α} (h:i < l.length):l.getD i d∈l:=by
 rw [List.getD_eq_getElem?_getD,List.getElem?_eq_getElem h]; exact List.getElem_mem h
def fF (n:Nat) (ls:List (List UInt8)):List (Nat×List UInt8):=(ls.zipIdx n).map fun q=>(q.2,q.1)
theorem Fk (n:Nat) (l:List UInt8) (ls:List (List UInt8)):fF n (l::ls)=(n,l)::fF (n+1) ls:=by simp [fF,List.zipIdx_cons]
theorem Fl (n:Nat):fF n []= []:=rfl
theorem rr (n:Nat) (ls:List (List UInt8)):(fF n ls).map Prod.snd=ls:=by
 unfold fF; rw [List.map_map]; exact List.zipIdx_map_fst n ls
theorem wh (n:Nat) (ls:List (List UInt8)):(fF n ls).length=ls.length:=by simp [fF]
def ox (x:Nat×List UInt8):Array Value:= #[.int .i64 x.1,str x.2]
theorem rq {ls:List (List UInt8)} {n:Nat} {pre:List (Nat×List UInt8)} {x:Nat×List UInt8} {rest:List (Nat×List UInt8)} (h:fF n ls=pre++x::rest):pre.length < ls.length∧x.1=n+pre.length∧ls=pre.map Prod.snd++x.2::rest.map Prod.snd:=by
 have h1:=congrArg List.length h
 rw [wh,List.length_append,List.length_cons] at h1
 have h2:=congrArg (List.map Prod.snd) h
 rw [rr,List.map_append,List.map_cons] at h2
 refine ⟨aa,?_,h2⟩
 have h3:=congrArg (fun l=>l[pre.length]?) h
 simp only [fF,List.getElem?_map,List.getElem?_zipIdx,List.getElem?_append_right (Nat.le_refl _),Nat.sub_self,List.getElem?_cons_zero] at h3
 cases h4:ls[pre.length]? with
 | none=>rw [h4] at h3; cases h3
 | some q=>rw [h4] at h3; cases h3; rfl
theorem ui (s:List UInt8) (w:World):
 a3 Tryz.prog 56 (List.toArray [str s]) w (fun v w'=> ∃ b,v= .func (.func 88) #[] #[a6 b]∧w.heap.size≤b∧w'.heap[b]? =some (.cells [str s].toArray 9 (0,0))∧Wk w w'):=by
 exact enter Tryz.func56 U Tryz.ntmps56 U (ag (fun _ a=>(e (za U U fun i C A q j=>au (((a _ _ (ag (fun _ c=>p E0 (au (((c _ _ (rt (f1 U U (⟨i,U,aa,j,q.md⟩))))))))))))))))
theorem Cc (s:List UInt8) (b:Nat) (hs:s.length≤65536) (l:Nat) (a:List (Nat×List UInt8)→World→Prop) (w:World) (I:a [] w) (ay:∀ pre W,a pre W→W.heap[b]? =some (.cells [str s].toArray 9 (0,0))) (bS:∀ pre i E,a pre i→Wk i E→a pre E) (aI:∀ pre x rest i,(fF 1 (a7 s))=pre++x::rest→a pre i→YieldAt Fence.wide 0 Tryz.prog l (ox x) i fun e W'=>e= .returned (.bool true)∧a (pre++ [x]) W'):
 a3 Tryz.prog 88 (List.toArray [.func (.yield l) #[] #[],a6 b]) w (fun v w'=>a (fF 1 (a7 s)) w'):=by
 have M:=ay _ _ I
 refine enter Tryz.func88 U Tryz.ntmps88 U (sq (fun _ V=>ag (fun _ Z=>(p (ld bF U ((a4 M).trans U)) (p (cA u9 U U) (p (gt U U) (az ((Z _ _ (cd U (fun h=>absurd h aa) (fun aK=> ?_)))))))))))
 refine aH (tn (V _ _ (ag (fun _ ab=>(p (ld bF U ((a4 M).trans U)) (e (cl Al (HB s kI _ aa ao) U fun dG aQ ar=> ?_)))))))
 obtain ⟨rfl,am⟩:=ar
 refine au (((ab _ _ (ag (fun _ ac=>(au (((ac _ _ (aC (lp (fun G q C=> ∃ (r:List UInt8) (pre:List (Nat×List UInt8)),(r.length≤s.length)∧((fF 1 (a7 s))=pre++fF (pre.length+1) (cI [] r))∧(a pre C)∧(pre.length≤s.length)∧(q 0= .func (.yield l) #[] #[])∧(q 3=str r)∧(q 4=ae (pre.length+1))∧(r.length=G)) _ ⟨gq s,[],(pG s),U,(bS _ _ _ I am),(Nat.zero_le _),U,U,(iv (by first | rfl | (rw [List.length_append]; rfl))),U⟩ ?_)))))))))))
 rintro G q C ⟨r,pre,aN,O,J,aL,aE,aF,aG,rfl⟩
 refine fx 0 aE (fx 3 aF (fx 4 aG (sq (fun _ ad=>ag (fun _ ah=>(aj (str r) (p (l5 U U) (az ((ah _ _ (cd U (fun j=> ?_) (fun j=> ?_))))))))))))
 have A:(fF 1 (a7 s))=pre++(pre.length+1,ew (ij 10 r))::fF (pre.length+2) (cI [] (ja 10 r)):=by rw [O,EM j,Fk]
 have aM:=Bs (c:=10) j
 have aJ:=Bn 10 r
 refine aH (tn (ad _ _ (sq (fun _ ai=>aC (ag (fun _ ak=>(aj (str r) (e (cl Am (Bt r 10 _ aa) U fun aO aR av=> ?_)))))))))
 obtain ⟨rfl,an⟩:=av
 refine p mv (p (xt U U) (p (xt U U) (p (xt U U) (p aA (p aA (p aA (nl (tn (ak _ _ (ag (fun _ al=>(p mv (au (((al _ _ (sq (fun _ Y=>Gy ?_))))))))))))))))))
 refine py U (aB (.func (.yield l) #[] #[]) U) (py U (aB (ae (pre.length+1)) U) (py U mv (ey U (cl An (HD (ij 10 r) _ aa) U fun aP aS aw=> ?_))))
 obtain ⟨rfl,ap⟩:=aw
 have aq:=bS _ _ _ J (Md.trans an ap)
 refine Ie U U (aI pre (pre.length+1,ew (ij 10 r)) _ _ A aq) (fun aT ax=> ?_)
 refine py U (no U) (Fe ?_)
 exact tn (Y _ _ (cf (U) (aH (bn (tn (ai _ _ (rg U (aj (ae (pre.length+1)) (p (bm ((pre.length+2:Nat):Int) U U (aU aa aa)) (au (((⟨_,aa,ja 10 r,pre++ [(pre.length+1,ew (ij 10 r))],aa,((by rw [A,List.append_assoc,List.length_append]; rfl)),ax,((by have h1:=rq A; have h2:=kh s; rw [List.length_append,List.length_singleton]; omega)),U,U,(iv (by first | rfl | (rw [List.length_append]; rfl))),U⟩)))))))))))))
 refine ext (te _ (te _ (be (f0 U ?_))))
 show a (fF 1 (a7 s)) C
 have aD:r= []:=Decidable.of_not_not j
 rw [O,aD,oR,Fl,List.append_nil]
 exact J
theorem uh (s:List UInt8) (b:Nat) (hs:s.length≤65536):sn Tryz.prog 88 #[.pointer (some ⟨b,0,none⟩)] ox (fF 1 (a7 s)) (fun W=>W.heap[b]? =some (.cells [str s].toArray 9 (0,0))):=
 fun l a W c i bS p=>Calls.mono (Cc s b hs l a W c i bS p) fun e w' ⟨v,he,j⟩=>⟨⟨v,he⟩,j⟩
theorem xz (s:List UInt8) (w:World) (hs:s.length≤1048576):
 a3 Tryz.prog 30 (List.toArray [str s]) w (fun v w'=>(∃ a,v= .tuple #[a,.int .i64 (if 65536 < s.length then 10 else 0)]∧(if 65536 < s.length then a= .slice none 0 0 else World.ownsRow w' w.heap.size 9 1 (a) ((a7 s)).length (((a7 s)).map str)))∧Wk w w'):=by
 refine uv [] Tryz.func30 U Tryz.ntmps30 U ?_
 refine ep (eR (rg U (p aA (p aA (nl (eA (ep (ep (eR (rg U (p (aB (str s) U) (p (cA u9 U U) (p (gt U U) (nl (eA (eR (cd U (fun aG=> ?_) (fun aG=> ?_))))))))))))))))))
 refine sq (fun aN ax=>rg U (p aA (p aA (nl (tn (ax _ _ (rt (rJ (uy U U U ?_)))))))))
 have E:65536 < s.length:=aa
 exact ⟨⟨.slice none 0 0,by show Value.tuple #[.slice none 0 0,.int .i64 10]=_; rw [if_pos E],by rw [if_pos E]⟩,Md.refl _ _⟩
 refine aH (eA (ep (eR (rg U (e (fC Ij fun aj aL aS ay al=>nl (eA (ep (ep (eR (rg U (p (aB (str s) U) (e (cl tu (ui s _) U fun v11 ai az=> ?_))))))))))))))
 obtain ⟨Y,rfl,aQ,ak,am⟩:=az
 have G:Wk w ai:=Md.trans ay.md am
 have aD:=am.aC al
 have aR:=(Array.getElem?_eq_some_iff.1 ak).1
 have aX:aj < aL.heap.size:=(Array.getElem?_eq_some_iff.1 al).1
 have E:s.length≤65536:=aa
 refine nl (eA ?_)
 apply xe (ox) ((fF 1 (a7 s))) (fun W=>W.heap[Y]? =some (.cells [str s].toArray 9 (0,0))) (fun pre q=> ∃ v,q.heap[aj]? =some (.cells [v].toArray 48 (0,0))∧World.ownsRow q ai.heap.size 9 1 v pre.length ((pre.map Prod.snd).map str)∧q.heap[Y]? =some (.cells [str s].toArray 9 (0,0))∧ai.heap.size≤q.heap.size∧Wk w q) rfl tB (fun _=>rfl) (uh s Y E) (⟨.slice none 0 0,aD,World.ownsRow_nil _ _ _ _,ak,Nat.le_refl _,G⟩) (fun _ _ ⟨_,_,_,h,_⟩=>h) (fun pre A C F ⟨v,h1,h2,h3,h5,h4⟩ hm O=>⟨v,pA h1 hm O,xC h2 hm O,pA h3 hm O,Nat.le_trans h5 hm.size,xD h4 hm G.size O⟩)
 intro l x q K I
 exact rg U (p (bG (str x.2) U) (nl (tn (I))))
 intro l pre x rest q aI ab
 obtain ⟨v,V,j,ae,ah,Z⟩:=ab
 obtain ⟨aW,aZ,a0⟩:=rq aI
 have aU:=kh s
 have aY:=(Array.getElem?_eq_some_iff.1 ae).1
 refine aC (rg U (p (ld kz U ((a4 V).trans U)) (p mv (e (eY dC U U fun aO aK ac i an=> ?_)))))
 have ar:Wk w aK:=Md.trans Z i.md
 have ac:=i.md.aC V
 refine e (ap dC (aE j i.md) U (Nat.le_trans ah i.md.size) U (aw.dj an) (U) (U) aa aa fun aJ a2 ag J a1 aT=> ?_)
 have au:=Wk.own ar (aE j i.md) J G.size
 have aF:=J.aC (i.md.aC ae) (fun h=>by have :=c4 (aE j i.md) h; omega)
 have ad:=J.aC ac (fun h=>cT (aE j i.md) ac ao h)
 refine e (dp BA U U (dR ag) ad (by simp) fun aM M aq=> ?_)
 have av:Wk w aM:=Md.trans' au M (fun k hk h=>by omega)
 exact nl (bn (⟨(fQ.wk i.md).trans ((fQ.md J (nf (aE j i.md))).trans (fQ.md M (fun k hk=>⟨_,_,_,hk ▸ ad⟩))),aJ,aq,bK (by rw [List.map_append,List.map_append,List.length_append]; exact ag) M (fun k hk h=>cT ag ad ao (h ▸ hk)),M.aC aF (fun h=>by omega),Nat.le_trans ah (Nat.le_trans i.md.size (Nat.le_trans J.size M.size)),av⟩))
 intro D q aP ab I
 obtain ⟨v,V,j,ae,ah,Z⟩:=ab
 have aV:=(Array.getElem?_eq_some_iff.1 I).1
 refine eA (ep (eR (rg U (p (ld kz U ((a4 V).trans U)) (p aA (p aA (nl (eA (rO (uz U U U I ?_))))))))))
 have E:¬65536 < s.length:=aa
 rw [rr,wh] at j
 exact ⟨⟨v,by show Value.tuple #[v,.int .i64 0]=_; rw [if_neg E],by rw [if_neg E]; exact ga (bK j (l3 _ _ _) (fun k hk h=>by obtain ⟨c,e,z,h1⟩:=nf j k hk; rw [h,I] at h1; cases h1)) G.size⟩,Md.trans' Z (l3 _ _ _) (fun k hk h=>by have :=G.size; omega)⟩
end Go.Hb.nL
end
section
set_option maxRecDepth 20000
set_option maxHeartbeats 1000000
namespace Go.Hb.nO
open Go.Hb.c6
open Go.Proofs
open Go.Hb.gP Go.Hb.gG Go.Hb.nL
set_option maxHeartbeats 1000000 in
theorem xh (s:List UInt8) (w:World) (hs:s.length≤1048576):
 a3 Tryz.prog 29 (List.toArray [str s]) w (fun v w'=>(∃ a,v= .tuple #[a,.int .i64 (if 65536 < s.length then 10 else 0)]∧(if 65536 < s.length then a= .slice none 0 0 else ∃ vs,World.ownsRow w' w.heap.size 105 2 a (bY s).length (gB vs)∧ec w' w.heap.size 9 vs (bY s)))∧Wk w w'):=by
 refine uv [] Tryz.func29 U Tryz.ntmps29 U ?_
 refine ep (eR (rg U (p aA (p aA (nl (eA (ep (ep (eR (rg U (p (aB (str s) U) (p (cA u9 U U) (p (gt U U) (nl (eA (eR (cd U (fun bB=> ?_) (fun bB=> ?_))))))))))))))))))
 refine sq (fun aP ah=>rg U (p aA (p aA (nl (tn (ah _ _ (rt (rJ (uy U U U ?_)))))))))
 have V:65536 < s.length:=aa
 exact ⟨⟨.slice none 0 0,by show Value.tuple #[.slice none 0 0,.int .i64 10]=_; rw [if_pos V],by rw [if_pos V]⟩,Md.refl _ _⟩
 refine aH (eA (ep (eR (rg U (e (fC Il fun am b6 ci bv aT=>nl (eA (ep (ep (eR (rg U (p (aB (str s) U) (e (cl tu (ui s _) U fun ct au bw=> ?_))))))))))))))
 obtain ⟨ay,rfl,cg,aS,aV⟩:=bw
 have ab:Wk w au:=Md.trans bv.md aV
 have cp:am < b6.heap.size:=(Array.getElem?_eq_some_iff.1 aT).1
 have bz:=aV.aC aT
 have ch:=(Array.getElem?_eq_some_iff.1 aS).1
 have V:s.length≤65536:=aa
 refine nl (eA ?_)
 apply xe (ox) ((fF 1 (a7 s))) (fun W=>W.heap[ay]? =some (.cells [str s].toArray 9 (0,0))) (fun pre J=> ∃ v vs,J.heap[am]? =some (.cells [v].toArray 74 (0,0))∧World.ownsRow J au.heap.size 105 2 v (fN 1 (pre.map Prod.snd)).length (gB vs)∧ec J au.heap.size 9 vs (fN 1 (pre.map Prod.snd))∧J.heap[ay]? =some (.cells [str s].toArray 9 (0,0))∧au.heap.size≤J.heap.size∧Wk w J) rfl tB (fun _=>rfl) (uh s ay V) (⟨.slice none 0 0,[],bz,World.ownsRow_nil _ _ _ _,ec.nil _ _ _,aS,Nat.le_refl _,ab⟩) (fun _ _ ⟨_,_,_,_,_,h,_⟩=>h) (fun pre A C F ⟨v,vs,h1,h2,ba,h3,h5,h4⟩ hm ag=>⟨v,vs,pA h1 hm ag,xC h2 hm ag,ba.md hm (fun k hk cur z=>(ag k hk).2 cur _ z),pA h3 hm ag,Nat.le_trans h5 hm.size,xD h4 hm ab.size ag⟩)
 intro l x J K ac
 exact sq (fun aP ah=>rg U (p (bG (.int .i64 x.1) U) (nl (tn (ah _ _ (rg U (p (bG (str x.2) U) (nl (tn (ac))))))))))
 intro l pre x rest J b2 aF
 obtain ⟨v,vs,aM,ak,aq,aL,ar,aD⟩:=aF
 obtain ⟨co,b3,b4⟩:=rq b2
 have cm:=kh s
 have cq:=(Array.getElem?_eq_some_iff.1 aL).1
 have cr:x.2.length≤s.length:=rf (by rw [b4]; simp)
 have ck:=mW x.2 []
 have bN:=rL (pre.map Prod.snd) 1
 rw [List.length_map] at bN
 refine aC (sq (fun aP ah=>rg U (p mv (e (cl z8 (CG x.2 _ aa) U fun cu a2 bx=> ?_)))))
 obtain ⟨aj,bf⟩:=bx
 obtain ⟨j,an,rfl⟩:=cE aj
 have aW:=(aJ aj).2
 have bC:=(aJ aj).1
 refine p aA (nl (tn (ah _ _ ?_)))
 refine dA (fun ax av=> ∃ (n E:Nat),(n≤(bg [] x.2).length)∧(n≤E)∧(gL (bg [] x.2)=(bg [] x.2).take n)∧(Wk a2 av)∧(ax 4= .pointer (some ⟨am,0,none⟩))∧(ax 5= .int .i64 x.1)∧(ax 7= .slice j n E)) ?_ ?_
 refine sq (fun a8 aG=>rg U (p mv (p (bo ea U U) (p mv (nl (tn (aG _ _ (aC (lp (fun aR Z a6=> ∃ (i:Nat),(i≤(bg [] x.2).length)∧(∀ q,q < i→kJ ((bg [] x.2).getD q [])=false)∧(Wk a2 a6)∧(Z 4= .pointer (some ⟨am,0,none⟩))∧(Z 5= .int .i64 x.1)∧(Z 7= .slice j (bg [] x.2).length an)∧(Z 19= .slice j (bg [] x.2).length an)∧(Z 20= .int .i64 (bg [] x.2).length)∧(Z 21= .int .i64 i)∧((bg [] x.2).length - i=aR)) _ ⟨0,aa,((fun q bJ=>by omega)),(Md.refl _ _),U,U,U,U,U,U,U⟩ ?_)))))))))
 rintro aR Z a6 ⟨i,hi,aO,ae,bZ,b0,b1,bV,bW,bX,rfl⟩
 refine fx 4 bZ (fx 5 b0 (fx 7 b1 (fx 19 bV (fx 20 bW (fx 21 bX (sq (fun b8 bk=>rg U (p (lt U U) (nl (tn (bk _ _ (sq (fun b9 bm=>cd U (fun bD=> ?_) (fun bD=> ?_))))))))))))))
 refine aH (tn (bm _ _ (sq (fun ca bq=>aC (sq (fun cb br=>rg U (p (aB (.int .i64 i) U) (p (aQ bT U U aa (aw.ok (aW.wk ae) (bL aa))) (p (ld bF U (bM.get (i:=i) (aW.wk ae) aa)) (p (bG (.int .i64 i) U) (p aA (nl (tn (br _ _ (sq (fun cc bs=>rg U (p mv (p (gJ 0 u9 U U (List.length_pos_iff.2 (oE _ _ _ (Dm aa)).1)) (p (bp U U) (nl (tn (bs _ _ (cd U (fun bE=> ?_) (fun bE=> ?_))))))))))))))))))))))))
 exact sq (fun ce bt=>rg U (p (aB (.slice j (bg [] x.2).length an) U) (p (aB (.int .i64 i) U) (p (aB (.int .i64 i) U) (p (AH bT U U U aa) (p aA (nl (tn (bt _ _ (ext (jo ao (te _ (te _ (be (tn (⟨i,i,hi,(Nat.le_refl _),(oN hi aO (.inr (decide_eq_true aa))),ae,U,U,U⟩))))))))))))))))
 exact aH (bn (tn (bq _ _ (rg U (p (ad U U (bu aa)) (p mv (nl (tn (⟨_,aa,i+1,aa,((fun q bJ=>by rcases Nat.lt_or_ge q i with h | h <;> first | exact aO q h | (rw [show q=i by omega]; exact decide_eq_false aa))),ae,U,U,U,U,U,U,U⟩)))))))))
 exact ext (te _ (te _ (be (tn (⟨(bg [] x.2).length,an,(Nat.le_refl _),bC,((by have h:=oN hi aO (.inl aa); rwa [show i=(bg [] x.2).length from by omega] at h)),ae,U,U,U⟩)))))
 rintro ax av ⟨n,E,hn,bI,aY,az,bQ,bR,bS⟩
 refine fx 4 bQ (fx 5 bR (fx 7 bS ?_))
 have G:Wk J av:=Md.trans bf az
 have aK:=G.aC aM
 have a0:=aE ak G
 have a1:=aq.wk G
 have aX:=G.aC aL
 have aU:Wk w av:=Md.trans aD G
 refine sq (fun a8 aG=>rg U (p (aB (.slice j n E) U) (p (bo ea U U) (p (gt U U) (nl (tn (aG _ _ (cd U (fun bH=> ?_) (fun bH=> ?_)))))))))
 have al:fM x.2 (1 +pre.length)= [(x.1,(bg [] x.2).take n)]:=by unfold fM; rw [aY,if_neg (fun h=>by have h:=congrArg List.length h; rw [List.length_take,List.length_nil] at h; omega),← b3]
 refine rg U (p (ld lJ U ((a4 aK).trans U)) (p (aB (.int .i64 x.1) U) (p (aB (.slice j n E) U) (p (bU (ps:= [(0,.int .i64 x.1),(1,.slice j n E)]) (L:= [.int .i64 x.1,.slice j n E]) He U (U)) (e (j4 xx U U U fun a9 a5 aI I bb=> ?_))))))
 have bc:bl a5.heap a9 [.int .i64 x.1,.slice j n E]:=bb
 have bh:Wk w a5:=Md.trans aU I.md
 have Y:=aE a0 I.md
 have aI:=I.md.aC aK
 refine e (ap xx (Y) U (by have :=I.size; have :=G.size; omega) U (aw.dj bc) (U) (U) aa aa fun b5 cv aN M cs cj=> ?_)
 have bi:=Wk.own bh Y M ab.size
 have bA:=M.aC (I.md.aC aX) (fun h=>by have :=c4 Y h; omega)
 have ai:=M.aC aI (fun h=>cT Y aI ao h)
 have bO:=(a1.wk I.md).md M (e9 Y ao)
 have aZ:=bK (aE (aE aj az) I.md) M (fun k hk=>ir (aE (aE aj az) I.md) Y ao hk)
 refine e (dp tP U U (dR aN) ai (by simp) fun b7 O bd=> ?_)
 have bj:Wk w b7:=Md.trans' bi O (fun k hk h=>by omega)
 have bP:=(bO.md O (eG ai ao)).snoc (n:=x.1) (r:=(bg [] x.2).take n) (v:= .slice j n E) (by rw [List.length_take,Nat.min_eq_left hn,List.map_take]; exact (Tg.gl (ga (bK aZ O (fun k hk h=>cT aZ ai ao (h ▸ hk))) ar)).clip bI)
 exact nl (bn (⟨(fQ.wk G).trans ((fQ.wk I.md).trans ((fQ.md M (nf Y)).trans (fQ.md O (fun k hk=>⟨_,_,_,hk ▸ ai⟩)))),b5,vs++ [(x.1,.slice j n E)],bd,(by rw [List.map_append,show [x].map Prod.snd= [x.2] from U,iS,List.length_map,al]; rw [List.length_append,rP]; exact bK aN O (fun k hk h=>cT aN ai ao (h ▸ hk))),(by rw [List.map_append,show [x].map Prod.snd= [x.2] from U,iS,List.length_map,al]; exact bP),O.aC bA (fun h=>by omega),Nat.le_trans ar (Nat.le_trans G.size (Nat.le_trans I.md.size (Nat.le_trans M.size O.size))),bj⟩))
 have al:fM x.2 (1 +pre.length)= []:=by unfold fM; rw [aY,if_pos (by rw [show n=0 by omega]; rfl)]
 exact aH (bn (⟨fQ.wk G,v,vs,aK,(by rw [List.map_append,show [x].map Prod.snd= [x.2] from U,iS,List.length_map,al]; rw [List.append_nil]; exact a0),(by rw [List.map_append,show [x].map Prod.snd= [x.2] from U,iS,List.length_map,al]; rw [List.append_nil]; exact a1),aX,Nat.le_trans ar G.size,aU⟩))
 intro D J cf aF ac
 obtain ⟨v,vs,aM,ak,aq,aL,ar,aD⟩:=aF
 have cn:=(Array.getElem?_eq_some_iff.1 ac).1
 refine eA (ep (eR (rg U (p (ld lJ U ((a4 aM).trans U)) (p aA (p aA (nl (eA (rO (uz U U U ac ?_))))))))))
 have V:¬65536 < s.length:=aa
 rw [rr] at ak aq
 exact ⟨⟨v,by show Value.tuple #[v,.int .i64 0]=_; rw [if_neg V],by rw [if_neg V]; exact ⟨vs,ga (bK ak (l3 _ _ _) (fun k hk h=>by obtain ⟨c,e,z,h1⟩:=nf ak k hk; rw [h,ac] at h1; cases h1)) ab.size,(aq.md (l3 _ _ _) (fun k hk cur z=>by rw [hk,ac]; simp)).mono ab.size⟩⟩,Md.trans' aD (l3 _ _ _) (fun k hk h=>by have :=ab.size; omega)⟩
end Go.Hb.nO
end
section
set_option maxRecDepth 20000
set_option maxHeartbeats 1000000
namespace Go.Hb.kP
open Go.Hb.c6
open Go.Proofs
open Go.Hb.ff Go.Hb.fP Go.Hb.jV Go.Hb.gh Go.Hb.ji Go.Hb.kO Go.Hb.my Go.Hb.kr Go.Hb.sg Go.Hb.iW Go.Hb.sh Go.Hb.nO Go.Hb.nL Go.Hb.gP Go.Hb.gG
theorem m5 {eof ln:Nat} {F F':aM} {hs:List Tx} {rows rows':List Rw} {row:List Tx} (a:bB eof F hs rows ln row= .ok (F',rows')):rows'.length≤rows.length:=by
 unfold bB at a
 repeat' split at a
 · unfold gD at a; split at a; cases a; cases a; exact Nat.le_refl _
 · unfold gY at a; repeat' split at a
   all_goals first | (cases a; done) | (cases a; exact Nat.le_refl _)
 · unfold jL at a; split at a; cases a; cases a; exact Nat.le_refl _
 · unfold jM at a; split at a; cases a; cases a; exact Nat.le_refl _
 · unfold g5 at a; repeat' split at a
   all_goals first | (cases a; done) | (cases a; exact Nat.le_refl _)
 · unfold g6 at a; repeat' split at a
   all_goals first | (cases a; done) | (cases a; exact (qT _ _ _ (by assumption)).1)
 · unfold gH at a; repeat' split at a
   all_goals first | (cases a; done) | (cases a; exact (qT _ _ _ (by assumption)).1)
 · unfold eZ at a; repeat' split at a
   all_goals first | (cases a; done) | (cases a; exact (qT _ _ _ (by assumption)).1)
theorem rK {eof k:Nat} {F:aM} {hs:List Tx} :eJ eof k F hs []= .ok F:=by cases k <;> simp [eJ]
section
variable {eof k n:Nat} {F:aM} {hs:List Tx} {r:List Tx} {rest:List Rw} {T:Except (Nat×Nat) aM} (h:eJ eof k F hs ((n,r)::rest)=T) (hk:rest.length+1≤k)
include h hk
theorem Gf (a:width (r.getD 0 [])=0):T= .error (n,110):=by
 obtain ⟨m,rfl⟩:∃ m,k=m+1:=⟨k - 1,aa⟩
 rw [← h,eJ,if_pos a]
theorem Gg (a:width (r.getD 0 [])≠0) (h1:r.length≠width (r.getD 0 [])):T= .error (n,111):=by
 obtain ⟨m,rfl⟩:∃ m,k=m+1:=⟨k - 1,aa⟩
 rw [← h,eJ,if_neg a,if_pos h1]
theorem xb (a:width (r.getD 0 [])≠0) (h1:r.length=width (r.getD 0 [])) (h2:width (r.getD 0 [])≠4) (h3:r.getD 0 []∈hs):T= .error (n,112):=by
 obtain ⟨m,rfl⟩:∃ m,k=m+1:=⟨k - 1,aa⟩
 have hw:width (r.getD 0 [])=2:=by
  unfold width at a h2 ⊢
  split
  · rfl
  · rename_i hn
    rw [if_neg hn] at a h2
    split at h2
    · exact absurd U h2
    · rename_i c; rw [if_neg c] at a; exact absurd rfl a
 rw [← h,eJ,if_neg a,if_neg (fun h4=>h4 h1),if_pos ⟨hw,h3⟩]
theorem xc {e:Nat×Nat} (a:width (r.getD 0 [])≠0) (h1:r.length=width (r.getD 0 [])) (h2:width (r.getD 0 [])=2→r.getD 0 []∉hs) (h3:bB eof F hs rest n r= .error e):T= .error e:=by
 obtain ⟨m,rfl⟩:∃ m,k=m+1:=⟨k - 1,aa⟩
 rw [← h,eJ,if_neg a,if_neg (fun h4=>h4 h1),if_neg (fun h4=>h2 h4.1 h4.2),h3]
theorem xd {F':aM} {rows':List Rw} (a:width (r.getD 0 [])≠0) (h1:r.length=width (r.getD 0 [])) (h2:width (r.getD 0 [])=2→r.getD 0 []∉hs) (h3:bB eof F hs rest n r= .ok (F',rows')):eJ eof (k - 1) F' (hs++ [r.getD 0 []]) rows'=T∧rows'.length≤k - 1:=by
 obtain ⟨m,rfl⟩:∃ m,k=m+1:=⟨k - 1,aa⟩
 refine ⟨?_,by have :=m5 h3; omega⟩
 rw [← h,eJ,if_neg a,if_neg (fun h4=>h4 h1),if_neg (fun h4=>h2 h4.1 h4.2),h3]; rfl
end
theorem yy {s:Tx} (h:65536 < s.length):eM s= .error (0,10):=by unfold eM; rw [if_pos h]
theorem lH {s:Tx} {e:Nat×Nat} (h:¬65536 < s.length) (h1:eJ ((a7 s).length+1) (bY s).length fS [] (bY s)= .error e):eM s= .error e:=by unfold eM; rw [if_neg h,h1]
theorem yx {s:Tx} {F:aM} {q:eX} (h:¬65536 < s.length) (h1:eJ ((a7 s).length+1) (bY s).length fS [] (bY s)= .ok F) (h2:F.rules.find? (jn F)=some q):eM s= .error (q.line,118):=by unfold eM; rw [if_neg h,h1]; simp only; rw [h2]
theorem yz {s:Tx} {F:aM} (h:¬65536 < s.length) (h1:eJ ((a7 s).length+1) (bY s).length fS [] (bY s)= .ok F) (h2:F.rules.find? (jn F)=none):eM s= .ok F:=by unfold eM; rw [if_neg h,h1]; simp only; rw [h2]
def kG (s:Tx):Value:=match ei s with | some (.agg cs)=>cs.getD 1 .nilFunc | _=> .nilFunc
theorem DG (s:Tx):(ei s).getD (.agg #[.int .i64 0,.nilFunc])= .agg [.int .i64 (width s:Nat),kG s].toArray∧(ei s).isSome=decide (width s≠0):=by
 rcases qU s with h | ⟨wd,f,h,hw,a⟩
 · have a:=vl h
   unfold kG
   rw [h,a]; exact ⟨rfl,rfl⟩
 · unfold kG
   rw [h,hw,decide_eq_true a]; exact ⟨rfl,rfl⟩
theorem DL (s:Tx):[Value.int .i64 (width s:Nat),kG s].all Value.oneCell'=true :=by
 rcases qU s with h | ⟨wd,f,h,hw,a⟩ <;> unfold kG <;> rw [h] <;> rfl
theorem vk {s:Tx} (h:width s≠0):∃ v,ei s=some v∧∀ (wd:Nat) (f:Nat),v= .agg [.int .i64 (wd:Nat),.func (.func f) #[] #[]].toArray→kG s= .func (.func f) #[] #[]:=by
 rcases qU s with h1 | ⟨wd,f,h1,hw,c⟩
 · exact absurd (vl h1) h
 · refine ⟨_,h1,fun i a he=> ?_⟩
   unfold kG
   rw [h1,he]; rfl
theorem xo {f:Value→Option Value} {seen:List Tx} (k:Tx) (a:∀ s:Tx,(f (str s)).getD (.int .i64 0)= .int .i64 (seen.count s:Nat)) (s:Tx):(a9 f (str k) (.int .i64 (seen.count k+1:Nat)) (str s)).getD (.int .i64 0)= .int .i64 ((seen++ [k]).count s:Nat):=by
 rw [List.count_append]
 by_cases h:s=k
 · subst h; rw [ni]; simp
 · rw [l8 (fun h2=>h (str_inj.1 h2)),a s,List.count_singleton,show (k==s)=false from by simpa using fun h2=>h h2.symm]; rfl
theorem bC.xn {w w':World} {B:Nat} {H:bw} {F:aM} {R:dV} {rows:List Rw} {ln:Nat} {seen i:List Tx} {f:Value→Option Value} (h:bC w B H F R rows ln seen) (hm:Md (fun k=>k=H.ms) w w') (j:bz w'.heap H.ms eQ f) (hd:∀ s:Tx,(f (str s)).getD (.int .i64 0)= .int .i64 (i.count s:Nat)):bC w' B H F R rows ln i:=by
 obtain ⟨g,q,A⟩:=h.tm
 obtain ⟨f0,p,_⟩:=h.sm
 have a:TF w [1] (fun k=>k=H.ms):=TF.eq (cH p) ao
 exact ⟨hm.iK a h.cells ao,h.rws.md hm (fun k hk cur z c=>a.no (c5 c) ao hk),h.rt.md hm (fun k hk cur z c=>a.no (c5 c) ao hk),⟨f,j,hd⟩,⟨g,q.md hm (fun h2=>h.ne.1 h2.symm),A⟩,cJ h.on hm a ao,h.lo,h.ne⟩
theorem bQ.ms {w w':World} {B:Nat} {H:bw} {F a:aM} {V:dq} {R:dV} {rows:List Rw} {ln:Nat} {seen:List Tx} (h:bQ w B H.fb H.mc a V) (c:bC w B H F R rows ln seen) (hm:Md (fun k=>k=H.ms) w w'):bQ w' B H.fb H.mc a V:=by
 obtain ⟨g,i,_⟩:=c.sm
 exact h.md (L:= [1]) hm (TF.eq (cH i) ao) ao (fun h=>c.ne.2.1 h.symm)
theorem c7.ms {w w':World} {B:Nat} {H:bw} {F:aM} {R:dV} {rows:List Rw} {ln:Nat} {seen:List Tx} (a:bC w B H F R rows ln seen) (hm:Md (fun k=>k=H.ms) w w'):c7 B H w w':=hm.mono fun k _ hk=>⟨hk ▸ a.lo.2.1,.inl hk⟩
structure jX (w0 w:World) (H:bw) (b2 b3 bt:Nat):Prop where
 c2:w.heap[b2]? =some (.cells [.pointer none].toArray 22 (0,0))
 c3:w.heap[b3]? =some (.cells [.int .i64 0,.int .i64 0,.int .i64 0].toArray 25 (0,0))
 lo:w0.heap.size≤b2∧w0.heap.size≤b3∧b2≠b3
 tb:∃ f,bz w.heap bt eQ f∧∀ s,f (str s)=ei s
 ne:bt≠H.ms∧bt≠H.mt∧bt≠H.mc
 wk:Wk w0 w
theorem jX.md {j w w':World} {H:bw} {a c i:Nat} (h:jX j w H a c i) (hm:Wk w w'):jX j w' H a c i:=by
 obtain ⟨f,p,q⟩:=h.tb
 exact ⟨Wk.aC hm h.c2,Wk.aC hm h.c3,h.lo,⟨f,p.wk hm,q⟩,h.ne,h.wk.trans hm⟩
theorem jX.mw {a w w':World} {H:bw} {c i j:Nat} {F:aM} {R:dV} {V:dq} {rows:List Rw} {ln:Nat} {seen:List Tx} (h:jX a w H c i j) (s:bQ w a.heap.size H.fb H.mc F V) (p:bC w a.heap.size H F R rows ln seen) (hm:c7 a.heap.size H w w'):jX a w' H c i j:=by
 obtain ⟨f,q,C⟩:=h.tb
 obtain ⟨f1,A,_⟩:=p.sm
 obtain ⟨f2,E,_⟩:=p.tm
 obtain ⟨f3,G,_⟩:=s.cm
 have hn:=fun e (I:([94,91,165,56,159,157,5]:List Nat).contains (e+2)=false)=>Wr.ne (B:=a.heap.size) (cH A) (cH E) (cH G) I
 refine ⟨hm.aC h.c2 (fun hk=>hn 22 ao _ hk _ _ h.c2),hm.aC h.c3 (fun hk=>hn 25 ao _ hk _ _ h.c3),h.lo,⟨f,q.md hm ?_,C⟩,h.ne,hm.wk h.wk (Nat.le_refl _)⟩
 rintro ⟨_,h1 | h1 | h1 | h1⟩
 · exact h.ne.1 h1
 · exact h.ne.2.1 h1
 · exact h.ne.2.2 h1
 · rw [cH q] at h1; exact absurd h1 ao
def yj (w':World) (B:Nat) (F:aM) (v:Value):Prop := ∃ fb mc V,v= .tuple #[.pointer (some ⟨fb,0,none⟩),.agg [.int .i64 0,.int .i64 0,.int .i64 0].toArray]∧bQ w' B fb mc F V∧(∃ seen,gE F [] seen)∧Nx F
def yi (e:Nat×Nat) (v:Value):Prop :=v= .tuple #[.pointer none,.agg [.int .i64 1,.int .i64 (e.1:Nat),.int .i64 (e.2:Nat)].toArray]
def ku (s:Tx) (w:World) (v:Value) (w':World):Prop :=(match eM s with | .ok F=>yj w' w.heap.size F v | .error e=>yi e v)∧Wk w w'
theorem ku.no {s:Tx} {w w':World} {l e:Nat} (h:eM s= .error (l,e)) (hm:Wk w w'):ku s w (.tuple #[.pointer none,.agg [.int .i64 1,.int .i64 (l:Nat),.int .i64 (e:Nat)].toArray]) w':=by
 unfold ku; rw [h]; exact ⟨rfl,hm⟩
theorem lx {n:Nat} {G:List Nat} {fn:Func} {σ:Nat→Value} {s:Tx} {w W:World} {H:bw} {c i j l e:Nat} (q:fn.results= #[.cell 2 22,.cell 3 25]) (p:3 < n) (A:σ 2= .pointer (some ⟨c,0,none⟩)) (C:σ 3= .pointer (some ⟨i,0,none⟩)) (a:jX w W H c i j) (E:eM s= .error (l,e)):qb ⟨n,[{target:= .fn (.func 31) #[.pointer (some ⟨c,0,none⟩),.pointer (some ⟨i,0,none⟩)],args:= #[]}],G,none⟩ (ks Tryz.prog fn (ku s w)) (.panic (eO 25 l (e:Nat))) σ W:=
 Gi q p A C ⟨_,a.c2⟩ ⟨_,rfl,a.c3⟩ a.lo.2.2 (fun w' hm=>ku.no E (a.wk.trans' hm (fun k hk h=>by rcases h with rfl | rfl; have :=a.lo.1; omega; have :=a.lo.2.1; omega)))
theorem BT {x:Nat} (h:x≠0):c9 fS x=false :=by
 unfold c9 fS dP
 simp [h]
theorem Wk.dr {w:World} :Wk w w.drew:=(Md.refl _ _).drew
theorem lG (s:Tx) (w:World) (hs:s.length≤1048576):
 a3 Tryz.prog 10 (List.toArray [str s]) w (ku s w):=by
 refine Cm [2,3] Tryz.func10 U Tryz.ntmps10 U ?_
 refine ep (eR (rg U (e (fC Ig fun aK fA eV cB c1=>e (fC gd fun aL ex eY bD da=> ?_)))))
 have fc:=cB.size
 have fg:=bD.size
 have di:Wk w ex:=cB.md.trans bD.md
 have d8:=Wk.aC bD.md c1
 refine nl (eA (ep (eR (rg U (p (aB (str s) U) (e (cl tk (xh s _ hs) U fun fp fw dH=> ?_)))))))
 obtain ⟨⟨eM,rfl,cG⟩,hE15⟩:=dH
 have cr:=di.trans hE15
 have cM:=Wk.aC hE15 d8
 have cN:=Wk.aC hE15 da
 have fb:=hE15.size
 refine p mv (p (xt U U) (p (xt U U) (p aA (p aA (nl (eA (ep (ep (eR (rg U (p mv (p (dF U U) (nl (eA (eR (cd U (fun bR=> ?_) (fun bR=> ?_)))))))))))))))))
 have cF:65536 < s.length:=Classical.byContradiction fun h=>bR (by rw [if_neg h])
 exact sq (fun cS bu=>rg U (p mv (p (bU (ps:= [(0,.int .i64 1),(2,.int .i64 (if 65536 < s.length then 10 else 0))]) (L:= [.int .i64 1,.int .i64 0,.int .i64 (if 65536 < s.length then 10 else 0)]) iU U (U)) (e (dp qo U U (v:= .pointer none) U cM ao fun fH cz dd=>e (fy dW U U U U (cz.aC cN (fun h=>by omega)) ao fun fI cA de=>nl (tn (bu _ _ (rt (rJ (CD (o5 U (iT (rN U U ((a4 (cA.aC dd (fun h=>by omega))).trans U))) (iT (dm U U U (fun j e3=>by rw [Nat.zero_add,a4 de,if_pos cF]; simp)))) (ku.no (yy cF) ((cr.trans' cz (fun k hk h=>by omega)).trans' cA (fun k hk h=>by omega))))))))))))))
 have am:¬65536 < s.length:=fun h=>bR (by rw [if_pos h]; decide)
 rw [if_neg am] at cG
 obtain ⟨vs,cL,d9⟩:=cG
 obtain ⟨bf,bg,rfl⟩:=cE cL
 refine aH (eA (ep (eR (rg U (p (aB (str s) U) (e (cl tp (xz s _ hs) U fun fq cR dI=> ?_)))))))
 obtain ⟨⟨eN,rfl,cI⟩,hE24⟩:=dI
 rw [if_neg am] at cI
 obtain ⟨fk,eO,rfl⟩:=cE cI
 have dh:=cr.trans hE24
 have e4:=kh s
 have fd:=hE24.size
 refine p mv (p (xt U U) (p (xt U U) (p aA (p aA (nl (eA (ep (eR (rg U (e (na fun M fD eW cC c8=> ?_)))))))))))
 have fe:=cC.size
 refine p (bU (ps:= [(1,.map (some M))]) (L:= [.int .i64 0,.string ⟨⟨[]⟩⟩,.string ⟨⟨[]⟩⟩,.int .u16 0,.int .u16 0,.int .u16 0,.int .u16 0,.int .u16 0,.int .i64 0,.slice none 0 0,.slice none 0 0,.slice none 0 0,.slice none 0 0,.map (some M)]) Hi U (U)) (e (pU U fun I fE eX bB c9=> ?_))
 have ff:=bB.size
 refine p mv (p mv (p (bo ea U U) (p (bm (((a7 s).length+1:Nat):Int) U U (aU aa aa)) (e (na fun Y fF eZ bi db=> ?_)))))
 have fh:=bi.size
 refine e (na fun Z fG e0 aZ dc=> ?_)
 have fi:=aZ.size
 refine p (bU (ps:= [(0,.pointer (some ⟨I,0,none⟩)),(1,.slice bf (bY s).length bg),(3,.int .i64 ((a7 s).length+1:Nat)),(4,.map (some Y)),(5,.map (some Z))]) (L:= [.pointer (some ⟨I,0,none⟩),.slice bf (bY s).length bg,.int .i64 0,.int .i64 ((a7 s).length+1:Nat),.map (some Y),.map (some Z),.slice none 0 0]) Hj U (U)) (e (pU U fun A aI e1 aP bs=> ?_))
 have fj:=aP.size
 have dZ:=Wk.aC (bi.md.trans (aZ.md.trans aP.md)) c9
 refine p aA (nl (eA (ep (eR ?_))))
 have ah:(fun w'=>Md (fun k=>k=I) aI w') aI.drew:=(Md.refl _ _).drew
 refine bS (fun w'=>Md (fun k=>k=I) aI w') U wide ah (hp 0 U ab (fun _ _=>mv) ah (hp 1 U ab (fun _ _=>nc U) ah (hp 2 U ab (fun _ _=>fa dX U) ah (hp 3 U ab (fun w' J=>ld dO U (Md.aG J ((a4 bs).trans U) (fun h=>by omega))) ah (hp 4 U ab (fun _ _=>mv) ah (hp 5 U ab (fun _ _=>nc U) ah (hp 6 U ab (fun _ _=>fa dX U) ah (hp 7 U ab (fun w' J=>ld dO U (Md.aG J ((a4 bs).trans U) (fun h=>by omega))) ah (hp 8 U ab (fun _ _=>nc U) ah (hp 9 U ab (fun _ _=>fa dQ U) ah (hp 10 U ab (fun _ _=>fa lV U) ah (he 11 U ab (dp ju U U (v:= .int .i64 (1:Nat)) U dZ (by show 0 +0 +0 < 14; decide) fun eB dA df=> ?_)))))))))))))
 have a0:(fun w'=>Md (fun k=>k=I) aI w') eB:=ah.trans' dA (fun _ _ h=>h)
 refine ⟨a0,?_⟩
 refine hp 12 U ab (fun _ _=>nc U) a0 (hp 13 U ab (fun _ _=>fa dQ U) a0 (hp 14 U ab (fun _ _=>fa qL U) a0 (he 15 U ab (dp ju U U (v:= .int .i64 (3:Nat)) U df (by show _ < 14; decide) fun eC dB dg=> ?_))))
 have bP:(fun w'=>Md (fun k=>k=I) aI w') eC:=a0.trans' dB (fun _ _ h=>h)
 refine ⟨bP,?_⟩
 refine hn ab (eA (ep (B4 Ew #[.pointer (some ⟨aK,0,none⟩),.pointer (some ⟨aL,0,none⟩)] U ao ?_)))
 refine ep (eR (rg U (e (cl zX (DJ _) U fun fr ak dK=> ?_))))
 obtain ⟨az,rfl,e2,el,cs⟩:=dK
 have dj:Wk cR aI:=cC.md.trans (bB.md.trans (bi.md.trans (aZ.md.trans aP.md)))
 have aO:Md (fun k=>k=I) aI ak:=bP.trans' cs (fun _ _ h=>h.elim)
 have aY:Wk cR ak:=Md.trans' dj aO (fun k hk h=>by omega)
 have e8:=aO.size
 have dk:=dh.trans aY
 have dT:ak.heap[I]? =some (.cells (jx fS ⟨.slice none 0 0,.slice none 0 0,.slice none 0 0,.slice none 0 0,[],[]⟩ M).toArray 89 (0,0)):=Wk.aC cs dg
 have dY:ak.heap[A]? =some (.cells (nk (⟨A,I,Y,Z,M,(a7 s).length+1⟩:bw) ⟨.slice bf (bY s).length bg,vs,.slice none 0 0⟩ 0).toArray 92 (0,0)):=aO.aC bs (fun h=>by omega)
 have d3:bz ak.heap M (kg .u16) (fun _=>none):=bz.md (bz.wk (bz.nil c8) (bB.md.trans (bi.md.trans (aZ.md.trans aP.md)))) aO (fun h=>by omega)
 have d4:bz ak.heap Y eQ (fun _=>none):=bz.md (bz.wk (bz.nil db) (aZ.md.trans aP.md)) aO (fun h=>by omega)
 have d5:bz ak.heap Z (kg .u16) (fun _=>none):=bz.md (bz.wk (bz.nil dc) aP.md) aO (fun h=>by omega)
 have dl:bQ ak w.heap.size I M fS ⟨.slice none 0 0,.slice none 0 0,.slice none 0 0,.slice none 0 0,[],[]⟩:=⟨dT,World.ownsRow_nil _ _ _ _,World.ownsRow_nil _ _ _ _,bX.nil _ _ _,World.ownsRow_nil _ _ _ _,World.ownsRow_nil _ _ _ _,bX.nil _ _ _,⟨_,d3,fun _=>rfl⟩,⟨aa,aa⟩,rfl⟩
 have dD:bC ak w.heap.size (⟨A,I,Y,Z,M,(a7 s).length+1⟩:bw) fS ⟨.slice bf (bY s).length bg,vs,.slice none 0 0⟩ (bY s) 0 []:=⟨dY,(((Tg.gl cL).mono aa).wk (hE24.trans aY)).Hx,(d9.mono aa).wk (hE24.trans aY),⟨_,d4,fun _=>rfl⟩,⟨_,d5,fun x cg=>by rw [BT cg]; rfl⟩,World.ownsRow_nil _ _ _ _,⟨by show w.heap.size≤A; omega,by show w.heap.size≤Y; omega,by show w.heap.size≤Z; omega⟩,⟨by show Y≠Z; omega,by show Y≠M; omega,by show Z≠M; omega⟩⟩
 have e7:=xg s
 have dP:St ak w.heap.size (⟨A,I,Y,Z,M,(a7 s).length+1⟩:bw) fS (bY s) 0 []:=⟨_,_,dl,dD,⟨by show 0 +0 +0 +0 +(bY s).length≤70000; omega,by show 0 +(bY s).length≤70000; omega,fun q b8=>by have h:=o4 b8; exact ⟨h.2.2.1,aa,fun x cg=>by have :=(h.2.2.2.2 x cg).2; omega⟩,.inl rfl,fun l a9=>by cases a9⟩⟩
 have ek:fR fS []:=fun k hk _=>by have h:∀ k∈dU,fS.sp.getD (dU.idxOf k) 0=0:=ao
                                  exact h k hk
 have d6:Nx fS:=⟨fun l a9=>(by cases a9),fun l a9=>(by cases a9)⟩
 have e9:=bP.size
 have d7:jX w ak (⟨A,I,Y,Z,M,(a7 s).length+1⟩:bw) aK aL az:=⟨Wk.aC (hE24.trans aY) cM,Wk.aC (hE24.trans aY) cN,⟨aa,aa,aa⟩,el,⟨by show az≠Y; omega,by show az≠Z; omega,by show az≠M; omega⟩,dk⟩
 refine p aA (nl (eA (ep (eR (aC (lp (fun cp bd bb=> ∃ (k:Nat) (F:aM) (rows:List Rw) (ln:Nat) (seen:List Tx),(eJ (⟨A,I,Y,Z,M,(a7 s).length+1⟩:bw).eof k F seen rows=eJ ((a7 s).length+1) (bY s).length fS [] (bY s))∧(rows.length≤k)∧(St bb w.heap.size (⟨A,I,Y,Z,M,(a7 s).length+1⟩:bw) F rows ln seen)∧(fR F seen)∧(Nx F)∧(jX w bb (⟨A,I,Y,Z,M,(a7 s).length+1⟩:bw) aK aL az)∧(bd 2= .pointer (some ⟨aK,0,none⟩))∧(bd 3= .pointer (some ⟨aL,0,none⟩))∧(bd 8= .pointer (some ⟨A,0,none⟩))∧(bd 9= .map (some az))∧(rows.length=cp)) _ ⟨(bY s).length,fS,bY s,0,[],U,(Nat.le_refl _),dP,ek,d6,d7,U,U,U,U,U⟩ ?_))))))
 rintro cp bd bb ⟨k,F,rows,ln,seen,ai,hk,J,bq,bl,b5,ec,ee,ef,eg,rfl⟩
 refine fx 2 ec (fx 3 ee (fx 8 ef (fx 9 eg ?_)))
 obtain ⟨V,R,O,ar,aN⟩:=J
 obtain ⟨vr,vs,vn⟩:=R
 obtain ⟨ck,co,em⟩:=ar.rws.slice
 obtain rfl :vr= .slice ck rows.length co:=em
 refine sq (fun cS bu=>sq (fun eD ds=>rg U (p (aB (.pointer (some ⟨A,0,none⟩)) U) (p (nc U) (p (fa m3 U) (p (ld lJ U ((a4 ar.cells).trans U)) (p (bo pD U U) (p (gt U U) (nl (tn (ds _ _ (cd U (fun bW=> ?_) (fun bW=> ?_)))))))))))))
 obtain ⟨⟨n,r⟩,rest,rfl⟩:∃ q rest,rows=q::rest:=by
  cases rows with
  | nil=>exact absurd bW (by simp)
  | cons q rest=>exact ⟨q,rest,rfl⟩
 have cc:=aN.row (n,r) (List.mem_cons_self ..)
 have dR:=aN.len
 have dS:=aN.sl
 simp only [List.length_cons] at dR dS hk
 refine aH (tn (bu _ _ (aC (sq (fun eE dt=>rg U (p (aB (.pointer (some ⟨A,0,none⟩)) U) (e (cl tq (xH w.heap.size (⟨A,I,Y,Z,M,(a7 s).length+1⟩:bw) F ⟨.slice ck (rest.length+1) co,vs,vn⟩ n r rest ln seen bb ar) U fun fs ey dL=> ?_))))))))
 obtain ⟨⟨R1,dE⟩,hT1,hM1⟩:=dL
 obtain ⟨cj,cn,rfl⟩:=hT1.slice
 have dn:=O.rb ar hM1
 have cK:=b5.mw O ar (c7.rb ar hM1)
 have e6:0 < r.length:=List.length_pos_iff.2 cc.1
 have cq:=gE.lQ aN
 have cO:=DG (r.getD 0 [])
 obtain ⟨eT,d2,cJ⟩:=cK.tb
 refine p aA (nl (tn (dt _ _ (sq (fun eF du=>rg U (p (aB (.map (some az)) U) (p mv (p (aQ bT U U aa (aw.ok (hT1.bN.2) (bL aa))) (p (ld bF U (bM.get (i:=0) hT1.bN.2 aa)) (p (vR g8 Iv eI (d2) U U (⟨_,U⟩) ((congrArg (fun o=>Option.getD o _) (cJ (r.getD 0 []))).trans cO.1) ((congrArg Option.isSome (cJ (r.getD 0 []))).trans cO.2)) (p mv (p (xt U U) (p (xt U U) (e (fC Ip fun cW fv eU dC cZ=>e (fy BE U U U (DL _) cZ ao fun ci dz c0=> ?_))))))))))))))))
 have bh:Wk ey ci:=dC.md.trans' dz (fun k hk h=>by omega)
 have bk:ci.heap[cW]? =some (.cells [.int .i64 (width (r.getD 0 []):Nat),kG (r.getD 0 [])].toArray 99 (0,0)):=c0
 have ax:=dn.wk bh
 have ac:=dE.wk bh
 have aR:=hT1.wk bh
 have ay:=cK.md bh
 refine p aA (nl (tn (du _ _ (sq (fun eG dv=>rg U (p (aB (.pointer (some ⟨A,0,none⟩)) U) (p mv ?_)))))))
 refine eP U (bO ed (ej A n _ 110 ci ac.cQ ao) U fun ft ez dM=> ?_) (fun c w' ae aT O=>by
  obtain ⟨rfl,au,rfl⟩:=ae
  exact lx U ao ((O 2 (.head _)).trans U) ((O 3 (.tail _ (.head _))).trans U) ay (lH am (Gf ai hk (Classical.not_not.1 (of_decide_eq_false au)))))
 obtain ⟨rfl,aj,rfl⟩:=dM
 have aj:width (r.getD 0 [])≠0:=of_decide_eq_true aj
 refine nl (tn (dv _ _ (sq (fun eH dw=>rg U (p (aB (.pointer (some ⟨A,0,none⟩)) U) (p mv (p (bo ea U U) (p (fa uV U) (p (ld eu U ((a4 bk).trans U)) (p (bp U U) ?_))))))))))
 refine eP U (bO ed (ej A n _ 111 ez ac.cQ ao) U fun fu av dN=> ?_) (fun c w' ae aT O=>by
  obtain ⟨rfl,au,rfl⟩:=ae
  exact lx U ao ((O 2 (.head _)).trans U) ((O 3 (.tail _ (.head _))).trans U) ay (lH am (Gg ai hk aj (fun h=>of_decide_eq_false au (by rw [h])))))
 obtain ⟨rfl,an,rfl⟩:=dN
 have an:r.length=width (r.getD 0 []):=by have :=of_decide_eq_true an; omega
 refine nl (tn (dw _ _ (sq (fun eK cv=> ?_))))
 obtain ⟨fm,eh,ei⟩:=ac.sm
 have C:(fun w'=>Wk av w') av.drew:=(Md.refl _ _).drew
 refine bS (fun w'=>Wk av w') U wide C (hp 0 U ab (fun _ _=>aB (.pointer (some ⟨A,0,none⟩)) U) C (hp 1 U ab (fun _ _=>fa uV U) C (hp 2 U ab (fun w' J=>ld eu U (Wk.aG J ((a4 bk).trans U))) C (hp 3 U ab (fun _ _=>bp U U) C (hp 4 U ab (fun _ _=>mv) C (gI (t:=84) U (fun a8=> ?_) (fun a8=> ?_)))))))
 refine aX 5 U ab U U U U C (aX 6 U ab U U U U C (aX 7 U ab U U U U C (aX 8 U ab U U U U C (aX 9 U ab U U U U C (aX 10 U ab U U U U C (aX 11 U ab U U U U C (aX 12 U ab U U U U C (aX 13 U ab U U U U C (hp 14 U ab (fun _ _=>bE U) C ?_)))))))))
 refine lY 15 U ab U (bO ed (ej A n _ 112 av.drew (Wk.aG C ac.cQ) ao) U fun ev aJ bJ=> ?_) (fun c w' ae aT O=>by
  obtain ⟨rfl,au,rfl⟩:=ae
  first
   | exact absurd au ao
   | exact lx rfl ao ((O 2 (.head _)).trans rfl) ((O 3 (.tail _ (.head _))).trans rfl) (ay.md Wk.dr) (lH am (xb ai hk aj an (fun h=>a8 (by rw [h]; rfl)) (Classical.not_not.1 fun h=>of_decide_eq_false au (by rw [List.count_eq_zero.2 h]; rfl)))))
 obtain ⟨rfl,ch,ba⟩:=bJ
 have aE:width (r.getD 0 [])=2→r.getD 0 []∉seen:=by
  first
   | exact fun h=>absurd a8 aa
   | exact fun _=>List.count_eq_zero.1 (by have :=of_decide_eq_true ch; omega)
 have E:Wk av aJ:=by rw [ba]; exact Wk.dr
 obtain ⟨en,b3,b1⟩:=vk aj
 obtain ⟨cX,cf,bZ,b0⟩:=vp w.heap.size (⟨A,I,Y,Z,M,(a7 s).length+1⟩:bw) F rest n seen r w.heap.size cj cn aJ ⟨_,_,ax.wk E,ac.wk E,cq⟩ (aR.wk E) cc.2.2 an bq aE aa b3
 have b2:=b1 _ _ cf
 have bK:(fun w'=>Wk av w') aJ:=by rw [ba]; exact C
 refine ⟨bK,?_⟩
 refine hn ab (tn (cv _ _ (sq (fun cT bv=>rg U (p (fa uW U) (p (ld sF U ((a4 (Wk.aC E bk)).trans (congrArg some b2))) (p (aB (.pointer (some ⟨A,0,none⟩)) U) (p mv ?_))))))))
 refine eP U (x7 bZ U b0 U fun et aF bH=> ?_) (fun c w' ae aT O=>by
  obtain ⟨l,e,ad,rfl,aq⟩:=ae
  exact lx U ao ((O 2 (.head _)).trans U) ((O 3 (.tail _ (.head _))).trans U) ((ay.md E).mw (ax.wk E) (ac.wk E) aq) (lH am (xc ai hk aj an aE ad)))
 obtain ⟨rfl,F',rows',ln',ad,⟨cU,br,aV,ag,ap⟩,aq⟩:=bH
 have b7:=(ay.md E).mw (ax.wk E) (ac.wk E) aq
 obtain ⟨eo,b9,_⟩:=ac.sm
 obtain ⟨er,ca,_⟩:=ac.tm
 obtain ⟨es,cb,_⟩:=ax.cm
 have a1:=(aR.wk E).md aq (Wr.ne (cH (b9.wk E)) (cH (ca.wk E)) (cH (cb.wk E)) ao)
 obtain ⟨cY,a5,a6⟩:=ag.sm
 have dV:=List.count_le_length (a:=r.getD 0 []) (l:=seen)
 have a2:=xd ai hk aj an aE ad
 refine nl (tn (bv _ _ ?_))
 have G:(fun w'=>Wk aF w') aF.drew:=(Md.refl _ _).drew
 refine dy (fun w'=>Wk aF w') 9 U wide G (lq 0 U ab (fun _ _=>aB (.pointer (some ⟨A,0,none⟩)) U) G (lq 1 U ab (fun _ _=>nc U) G (lq 2 U ab (fun _ _=>fa lX U) G (lq 3 U ab (fun w' J=>ld lK U (Wk.aG J ((a4 ag.cells).trans U))) G (lq 4 U ab (fun _ _=>mv) G (lq 5 U ab (fun _ _=>aQ bT U U aa (aw.ok (aw.wk a1.bN.2 G) (bL aa))) G (lq 6 U ab (fun w' J=>ld bF U (Wk.aG J (bM.get (i:=0) a1.bN.2 aa))) G (lq 7 U ab (fun w' J=>jy kN jU eI (bz.md (a5) J id) U U (⟨_,U⟩) (a6 (r.getD 0 []))) G (lq 8 U ab (fun _ _=>bm ((seen.count (r.getD 0 [])+1:Nat):Int) U U (aU aa aa)) G (bV 9 U ab ab (ml kN eI (a5.wk G) U U U (⟨_,U⟩) fun bc bx bG=> ?_)))))))))))
 have aD:=fz bx
 have bI:bC bc w.heap.size (⟨A,I,Y,Z,M,(a7 s).length+1⟩:bw) F' br rows' ln' (seen++ [r.getD 0 []]):=bC.xn ag aD bG (xo _ a6)
 have bt:=bQ.ms aV ag aD
 have b6:=b7.mw aV ag (c7.ms ag aD)
 have eb:=m5 ad
 have G:St bc w.heap.size (⟨A,I,Y,Z,M,(a7 s).length+1⟩:bw) F' rows' ln' (seen++ [r.getD 0 []]):=⟨_,_,bt,bI,⟨ap.len,by rw [List.length_append,List.length_singleton]; omega,ap.row,ap.kd,ap.al⟩⟩
 have ce:=vm bq ad
 have b4:=qV bl ad
 exact dx ab (bn (tn (⟨_,by simp only [List.length_cons]; have :=m5 ad; omega,k - 1,F',rows',ln',seen++ [r.getD 0 []],a2.1,a2.2,G,ce,b4,b6,U,U,U,U,U⟩)))
 refine aW 5 U ab U U U (fun _ _=>aB (.pointer (some ⟨A,0,none⟩)) U) C (aW 6 U ab U U U (fun _ _=>nc U) C (aW 7 U ab U U U (fun _ _=>fa lX U) C (aW 8 U ab U U U (fun w' J=>ld lK U (Wk.aG J ((a4 ac.cells).trans U))) C (aW 9 U ab U U U (fun _ _=>mv) C (aW 10 U ab U U U (fun _ _=>aQ bT U U aa (aw.ok (aw.wk aR.bN.2 C) (bL aa))) C (aW 11 U ab U U U (fun w' J=>ld bF U (Wk.aG J (bM.get (i:=0) aR.bN.2 aa))) C (aW 12 U ab U U U (fun w' J=>jy kN jU eI (bz.md (eh) J id) U U (⟨_,U⟩) (ei (r.getD 0 []))) C (aW 13 U ab U U U (fun _ _=>bp U U) C (hp 14 U ab (fun _ _=>bj U) C ?_)))))))))
 refine lY 15 U ab U (bO ed (ej A n _ 112 av.drew (Wk.aG C ac.cQ) ao) U fun ev aJ bJ=> ?_) (fun c w' ae aT O=>by
  obtain ⟨rfl,au,rfl⟩:=ae
  first
   | exact absurd au ao
   | exact lx rfl ao ((O 2 (.head _)).trans rfl) ((O 3 (.tail _ (.head _))).trans rfl) (ay.md Wk.dr) (lH am (xb ai hk aj an (fun h=>a8 (by rw [h]; rfl)) (Classical.not_not.1 fun h=>of_decide_eq_false au (by rw [List.count_eq_zero.2 h]; rfl)))))
 obtain ⟨rfl,ch,ba⟩:=bJ
 have aE:width (r.getD 0 [])=2→r.getD 0 []∉seen:=by
  first
   | exact fun h=>absurd a8 aa
   | exact fun _=>List.count_eq_zero.1 (by have :=of_decide_eq_true ch; omega)
 have E:Wk av aJ:=by rw [ba]; exact Wk.dr
 obtain ⟨en,b3,b1⟩:=vk aj
 obtain ⟨cX,cf,bZ,b0⟩:=vp w.heap.size (⟨A,I,Y,Z,M,(a7 s).length+1⟩:bw) F rest n seen r w.heap.size cj cn aJ ⟨_,_,ax.wk E,ac.wk E,cq⟩ (aR.wk E) cc.2.2 an bq aE aa b3
 have b2:=b1 _ _ cf
 have bK:(fun w'=>Wk av w') aJ:=by rw [ba]; exact C
 refine ⟨bK,?_⟩
 refine hn ab (tn (cv _ _ (sq (fun cT bv=>rg U (p (fa uW U) (p (ld sF U ((a4 (Wk.aC E bk)).trans (congrArg some b2))) (p (aB (.pointer (some ⟨A,0,none⟩)) U) (p mv ?_))))))))
 refine eP U (x7 bZ U b0 U fun et aF bH=> ?_) (fun c w' ae aT O=>by
  obtain ⟨l,e,ad,rfl,aq⟩:=ae
  exact lx U ao ((O 2 (.head _)).trans U) ((O 3 (.tail _ (.head _))).trans U) ((ay.md E).mw (ax.wk E) (ac.wk E) aq) (lH am (xc ai hk aj an aE ad)))
 obtain ⟨rfl,F',rows',ln',ad,⟨cU,br,aV,ag,ap⟩,aq⟩:=bH
 have b7:=(ay.md E).mw (ax.wk E) (ac.wk E) aq
 obtain ⟨eo,b9,_⟩:=ac.sm
 obtain ⟨er,ca,_⟩:=ac.tm
 obtain ⟨es,cb,_⟩:=ax.cm
 have a1:=(aR.wk E).md aq (Wr.ne (cH (b9.wk E)) (cH (ca.wk E)) (cH (cb.wk E)) ao)
 obtain ⟨cY,a5,a6⟩:=ag.sm
 have dV:=List.count_le_length (a:=r.getD 0 []) (l:=seen)
 have a2:=xd ai hk aj an aE ad
 refine nl (tn (bv _ _ ?_))
 have G:(fun w'=>Wk aF w') aF.drew:=(Md.refl _ _).drew
 refine dy (fun w'=>Wk aF w') 9 U wide G (lq 0 U ab (fun _ _=>aB (.pointer (some ⟨A,0,none⟩)) U) G (lq 1 U ab (fun _ _=>nc U) G (lq 2 U ab (fun _ _=>fa lX U) G (lq 3 U ab (fun w' J=>ld lK U (Wk.aG J ((a4 ag.cells).trans U))) G (lq 4 U ab (fun _ _=>mv) G (lq 5 U ab (fun _ _=>aQ bT U U aa (aw.ok (aw.wk a1.bN.2 G) (bL aa))) G (lq 6 U ab (fun w' J=>ld bF U (Wk.aG J (bM.get (i:=0) a1.bN.2 aa))) G (lq 7 U ab (fun w' J=>jy kN jU eI (bz.md (a5) J id) U U (⟨_,U⟩) (a6 (r.getD 0 []))) G (lq 8 U ab (fun _ _=>bm ((seen.count (r.getD 0 [])+1:Nat):Int) U U (aU aa aa)) G (bV 9 U ab ab (ml kN eI (a5.wk G) U U U (⟨_,U⟩) fun bc bx bG=> ?_)))))))))))
 have aD:=fz bx
 have bI:bC bc w.heap.size (⟨A,I,Y,Z,M,(a7 s).length+1⟩:bw) F' br rows' ln' (seen++ [r.getD 0 []]):=bC.xn ag aD bG (xo _ a6)
 have bt:=bQ.ms aV ag aD
 have b6:=b7.mw aV ag (c7.ms ag aD)
 have eb:=m5 ad
 have G:St bc w.heap.size (⟨A,I,Y,Z,M,(a7 s).length+1⟩:bw) F' rows' ln' (seen++ [r.getD 0 []]):=⟨_,_,bt,bI,⟨ap.len,by rw [List.length_append,List.length_singleton]; omega,ap.row,ap.kd,ap.al⟩⟩
 have ce:=vm bq ad
 have b4:=qV bl ad
 exact dx ab (bn (tn (⟨_,by simp only [List.length_cons]; have :=m5 ad; omega,k - 1,F',rows',ln',seen++ [r.getD 0 []],a2.1,a2.2,G,ce,b4,b6,U,U,U,U,U⟩)))
 obtain rfl :rows= []:=by
  cases rows with
  | nil=>rfl
  | cons q rest=>exact absurd (by simp only [List.length_cons]; omega) bW
 rw [rK] at ai
 refine ext (te _ (te _ (be (eA (ep (eR (rg U (p (aB (.pointer (some ⟨A,0,none⟩)) U) ?_))))))))
 refine eP U (bO zY (Au w.heap.size (⟨A,I,Y,Z,M,(a7 s).length+1⟩:bw) F [] ln seen bb ⟨_,_,O,ar,aN⟩ bl.2) U fun fo cP dG=> ?_) (fun c w' ae aT ct=>by
  obtain ⟨q,b8,rfl,bA⟩:=ae
  exact lx U ao ((ct 2 (.head _)).trans U) ((ct 3 (.tail _ (.head _))).trans U) (b5.mw O ar bA) (yx am ai.symm b8))
 obtain ⟨rfl,d0,⟨cV,eL,fl,cu,dJ⟩,bA⟩:=dG
 have aS:=b5.mw O ar bA
 have e5:=aS.lo
 refine nl (eA (ep (eR (rg U (p (aB (.pointer (some ⟨A,0,none⟩)) U) (p (nc U) (p (fa dX U) (p (ld dO U ((a4 dJ.cells).trans U)) (p (bU (ps:= []) (L:= [.int .i64 0,.int .i64 0,.int .i64 0]) iU U (U)) (e (dp qo U U (v:= .pointer (some ⟨I,0,none⟩)) U aS.c2 ao fun fB cw c4=>e (fy dW U U U U (cw.aC aS.c3 (fun h=>by omega)) ao fun ew cx c6=> ?_))))))))))))
 have cy:Md (fun k=>k=aK∨k=aL) cP ew:=(cw.mono (fun _ _ h=> .inl h)).trans' cx (fun _ _ h=> .inr h)
 refine nl (eA (rO ?_))
 have cD:TF cP [24,27] (fun k=>k=aK∨k=aL):=TF.or (TF.eq (c5 aS.c2) ao) (TF.eq (c5 aS.c3) ao)
 obtain ⟨eS,d1,_⟩:=cu.cm
 have dq:=cu.md cy cD ao (cD.no (cH d1) ao)
 exact Gj U ao U U (cx.aC c4 (fun h=>by omega)) c6 U (fun w' hm=>by
  unfold ku
  rw [yz am ai.symm d0]
  exact ⟨⟨I,M,cV,U,dq.wk hm,⟨seen,aN⟩,bl⟩,(aS.wk.trans' cy (fun k hk h=>by omega)).trans hm⟩)
end Go.Hb.kP
end
section
set_option maxRecDepth 20000
set_option maxHeartbeats 1000000
namespace Go.Hb.kt
open Go.Hb.c6
open Go.Proofs
open Go.Hb.ff Go.Hb.fP Go.Hb.gh Go.Hb.iW Go.Hb.gu
def gQ (F:aM) (V:dq):List Value:= [.int .i64 (F.kind:Nat),str F.mL,str F.tr,aI (F.sp.getD 0 0),aI (F.sp.getD 1 0),aI (F.sp.getD 2 0),aI (F.sp.getD 3 0),aI (F.sp.getD 4 0),.int .i64 (F.least:Nat),V.v9,V.v10,V.v11,V.dG]
structure yl (w:World) (B:Nat) (F:aM) (V:dq):Prop where
 o9:World.ownsRow w B 163 2 V.v9 F.bW.length (jf F.bW)
 e8:World.ownsRow w B 54 1 V.v10 F.aliases.length V.sa
 al:bX w B 71 V.sa F.aliases
 eB:World.ownsRow w B 157 5 V.v11 F.bf.length (iM F.bf)
 dY:World.ownsRow w B 155 7 V.dG F.rules.length (fc (F.rules.zip V.rn))
 nx:bX w B 71 V.rn (F.rules.map (·.next))
theorem pR {w:World} {B e:Nat} {vs:List Value} {ls:List (List Nat)} (h:bX w B e vs ls):vs.all Value.oneCell'=true :=by
 rw [List.all_eq_true]
 intro v p
 obtain ⟨i,hi⟩:=List.getElem?_of_mem p
 have h1:=(List.getElem?_eq_some_iff.1 hi).1
 obtain ⟨u,hu,j⟩:=bX.get h (i:=i) (by rw [← h.1]; exact h1)
 rw [hi] at hu; cases hu
 obtain ⟨a,c,rfl⟩:=j.slice; rfl
theorem GG {w:World} {B e:Nat} {rs:List eX} {vs:List Value} {ls:List (List Nat)} (h:bX w B e vs ls):(fc (rs.zip vs)).all Value.oneCell'=true :=by
 rw [List.all_eq_true]
 intro v a
 obtain ⟨q,c,a⟩:=List.mem_flatMap.1 a
 have h1:=List.all_eq_true.1 (pR h) q.2 (List.of_mem_zip c).2
 simp only [gO,List.mem_cons,List.not_mem_nil,or_false] at a
 rcases a with rfl | rfl | rfl | rfl | rfl | rfl | rfl <;> first | rfl | exact h1
theorem GH {rs:List eX} {vs:List Value} {i:Nat} {v:Value} (hi:i < rs.length) (A:i < vs.length):(fc (rs.zip vs)).set (i*7 +6) v=fc (rs.zip (vs.set i v)):=by
 obtain ⟨r,s⟩:∃ r,rs[i]? =some r:=⟨_,List.getElem?_eq_getElem hi⟩
 obtain ⟨u,hu⟩:∃ u,vs[i]? =some u:=⟨_,List.getElem?_eq_getElem A⟩
 have C:(rs.zip vs)[i]? =some (r,u):=List.getElem?_zip_eq_some.2 ⟨s,hu⟩
 have J:rs.zip (vs.set i v)=(rs.zip vs).set i (r,v):=by
  apply List.ext_getElem?
  intro j
  rw [List.getElem?_set]
  by_cases p:i=j
  · subst p
    rw [if_pos rfl,if_pos (List.getElem?_eq_some_iff.1 C).1]
    exact List.getElem?_zip_eq_some.2 ⟨s,by simp [A]⟩
  · rw [if_neg p]
    cases h1:(rs.zip vs)[j]? with
    | none=>
      rw [List.getElem?_eq_none_iff,List.length_zip] at h1 ⊢
      rw [List.length_set]; exact h1
    | some q=>
      have h2:=List.getElem?_zip_eq_some.1 h1
      exact List.getElem?_zip_eq_some.2 ⟨h2.1,by rw [List.getElem?_set,if_neg p]; exact h2.2⟩
 have M:(rs.zip vs).length=min rs.length vs.length:=List.length_zip
 have a:(fc (rs.zip vs)).length=(rs.zip vs).length*7:=kD (f:=gO) (m:=7) (fun _=>rfl) _
 rw [J,show fc ((rs.zip vs).set i (r,v))=(fc (rs.zip vs)).take (i*7)++gO (r,v)++(fc (rs.zip vs)).drop (i*7 +7) from uP (f:=gO) (m:=7) (fun _=>rfl) _ aa]
 apply List.ext_getElem?
 intro j
 have E:=fun c a=>qE (f:=gO) (m:=7) (fun _=>rfl) (c:=c) C a
 have G:∀ c,c < 7→(fc (rs.zip vs))[i*7 +c]? =(gO (r,u))[c]? :=fun c h=>E c h
 have I:((fc (rs.zip vs)).take (i*7)).length=i*7:=by rw [List.length_take,a]; omega
 rw [List.getElem?_set]
 by_cases h1:j < i*7
 · rw [if_neg aa,List.append_assoc,List.getElem?_append_left aa,List.getElem?_take,if_pos h1]
 · rw [List.append_assoc,List.getElem?_append_right aa,I]
   by_cases h2:j < i*7 +7
   · rw [List.getElem?_append_left (by show _ < 7; omega)]
     obtain ⟨c,rfl⟩:∃ c,j=i*7 +c:=⟨j - i*7,aa⟩
     have h3:c < 7:=aa
     rw [G c h3,show i*7 +c - i*7=c by omega]
     match c,h3 with
     | 0,_=>rw [if_neg aa]; rfl
     | 1,_=>rw [if_neg aa]; rfl
     | 2,_=>rw [if_neg aa]; rfl
     | 3,_=>rw [if_neg aa]; rfl
     | 4,_=>rw [if_neg aa]; rfl
     | 5,_=>rw [if_neg aa]; rfl
     | 6,_=>rw [if_pos rfl,if_pos aa]; rfl
   · rw [if_neg aa,List.getElem?_append_right (by show 7≤_; omega),show (gO (r,v)).length=7 from rfl,List.getElem?_drop]
     congr 1; omega
theorem xk {l:List (eX×Value)} {i:Nat} {q:eX×Value} (h:l[i]? =some q):fc l≠[]:=fun h2=>by
 have h3:(fc l).length=l.length*7:=kD (f:=gO) (m:=7) (fun _=>rfl) _
 have h4:=(List.getElem?_eq_some_iff.1 h).1
 rw [h2] at h3
 have h5:0=l.length*7:=h3
 omega
theorem sP {F:aM} {V:dq} (p:V.v9.oneCell'=true) (c:V.v10.oneCell'=true) (i:V.v11.oneCell'=true) (j:V.dG.oneCell'=true):(gQ F V).all Value.oneCell'=true :=by
 rw [List.all_eq_true]
 intro v a
 simp only [gQ,List.mem_cons,List.not_mem_nil,or_false] at a
 rcases a with rfl | rfl | rfl | rfl | rfl | rfl | rfl | rfl | rfl | rfl | rfl | rfl | rfl <;> first | rfl | assumption
theorem yU {w:World} {B fb mc:Nat} {F:aM} {V:dq} (h:bQ w B fb mc F V):(gQ F V).all Value.oneCell'=true :=sP (dR h.o9) (dR h.e8) (dR h.eB) (dR h.dY)
theorem qt {α:Type} {l m:List α} {i:Nat} (h:l.drop i=m.drop i):l[i]? =m[i]? :=by
 have h1:=congrArg (·[0]?) h
 simpa using h1
theorem rR {α:Type} {l:List α} {i:Nat} {x:α} (h:i < l.length):(l.set i x).take (i+1)=l.take i++ [x]:=by
 rw [List.take_add_one,List.take_set_of_le (Nat.le_refl i)]; simp [h]
theorem set_drop {α:Type} {l m:List α} {i:Nat} {x:α} (h:l.drop i=m.drop i):(l.set i x).drop (i+1)=m.drop (i+1):=by
 rw [List.drop_set_of_lt (Nat.lt_succ_self i),show i.succ=i+1 from rfl]
 simpa [List.drop_drop] using congrArg (List.drop 1) h
theorem sK {w:World} {B e i:Nat} {vs:List Value} {ls:List (List Nat)} {v:Value} (h:bX w B e (vs.take i) (ls.take i)) (hi:i < ls.length) (c:i < vs.length) (a:Tg w B e (ls.getD i []).length v ((ls.getD i []).map aI)):bX w B e ((vs.set i v).take (i+1)) (ls.take (i+1)):=by
 rw [rR c,eT ls i [] hi]; exact h.snoc a
theorem AN (a:Option Addr) (n c:Nat) (xs:List Value) (w:World) (I:aw w.heap a xs) (ab:xs.length=n*2) (O:a=none→n=0) (h1:xs.all Value.oneCell'=true) (hn:n≤1048576):
 a3 Tryz.prog 69 (List.toArray [.slice a n c]) w (fun ad w'=>World.ownsRow w' w.heap.size 163 2 ad n xs∧Wk w w'):=by
 refine enter Tryz.func69 U Tryz.ntmps69 U (ag (fun _ A=>(au (((A _ _ (sq (fun _ C=>ag (fun _ E=>aj (.slice a n c) (p (lR HK U U) (az ((E _ _ (cb U (fun q=> ?_) (fun q=> ?_)))))))))))))))
 have V:a=none:=by simpa using q
 refine ag (fun _ i=>(au (((i _ _ (rt (tr (f1 U U ?_))))))))
 have Y:=O V
 subst Y
 obtain rfl :=List.eq_nil_of_length_eq_zero (show xs.length=0 by omega)
 exact ⟨World.ownsRow_nil _ _ _ _,Md.refl _ _⟩
 refine aH (tn (C _ _ (ag (fun _ i=>(e (jq po fun ai an ak j G=> ?_))))))
 have s:=G w.heap.size aa
 refine aj (.slice a n c) (e (ap po (s) U (by have :=j.size; omega) U (I.wk j.md) (ab) (h1) aa aa fun ae ah Z M am al=> ?_))
 have J:=Wk.own j.md s M (Nat.le_refl _)
 refine au (((i _ _ (rt (f1 U U ?_)))))
 have ac:World.ownsRow ah w.heap.size 163 2 ae n xs:=by simpa using Z
 exact ⟨ac,J⟩
theorem AM (v:Value) (n:Nat) (xs:List Value) (w:World) (p:Rd w.heap v n 2 xs) (h1:xs.all Value.oneCell'=true) (hn:n≤1048576):a3 Tryz.prog 69 [v].toArray w (fun v w'=>World.ownsRow w' w.heap.size 163 2 v n xs∧Wk w w'):=by
 obtain ⟨a,c,rfl,i,q,j⟩:=p
 exact AN a n c xs w i q j h1 hn
theorem AJ (a:Option Addr) (n c:Nat) (xs:List Value) (w:World) (I:aw w.heap a xs) (ab:xs.length=n*5) (O:a=none→n=0) (h1:xs.all Value.oneCell'=true) (hn:n≤1048576):
 a3 Tryz.prog 70 (List.toArray [.slice a n c]) w (fun ad w'=>World.ownsRow w' w.heap.size 157 5 ad n xs∧Wk w w'):=by
 refine enter Tryz.func70 U Tryz.ntmps70 U (ag (fun _ A=>(au (((A _ _ (sq (fun _ C=>ag (fun _ E=>aj (.slice a n c) (p (lR xR U U) (az ((E _ _ (cb U (fun q=> ?_) (fun q=> ?_)))))))))))))))
 have V:a=none:=by simpa using q
 refine ag (fun _ i=>(au (((i _ _ (rt (tr (f1 U U ?_))))))))
 have Y:=O V
 subst Y
 obtain rfl :=List.eq_nil_of_length_eq_zero (show xs.length=0 by omega)
 exact ⟨World.ownsRow_nil _ _ _ _,Md.refl _ _⟩
 refine aH (tn (C _ _ (ag (fun _ i=>(e (jq pw fun ai an ak j G=> ?_))))))
 have s:=G w.heap.size aa
 refine aj (.slice a n c) (e (ap pw (s) U (by have :=j.size; omega) U (I.wk j.md) (ab) (h1) aa aa fun ae ah Z M am al=> ?_))
 have J:=Wk.own j.md s M (Nat.le_refl _)
 refine au (((i _ _ (rt (f1 U U ?_)))))
 have ac:World.ownsRow ah w.heap.size 157 5 ae n xs:=by simpa using Z
 exact ⟨ac,J⟩
theorem AI (v:Value) (n:Nat) (xs:List Value) (w:World) (p:Rd w.heap v n 5 xs) (h1:xs.all Value.oneCell'=true) (hn:n≤1048576):a3 Tryz.prog 70 [v].toArray w (fun v w'=>World.ownsRow w' w.heap.size 157 5 v n xs∧Wk w w'):=by
 obtain ⟨a,c,rfl,i,q,j⟩:=p
 exact AJ a n c xs w i q j h1 hn
theorem AR (a:Option Addr) (n c:Nat) (xs:List Value) (w:World) (I:aw w.heap a xs) (ab:xs.length=n*1) (O:a=none→n=0) (h1:xs.all Value.oneCell'=true) (hn:n≤1048576):
 a3 Tryz.prog 71 (List.toArray [.slice a n c]) w (fun ad w'=>World.ownsRow w' w.heap.size 54 1 ad n xs∧Wk w w'):=by
 refine enter Tryz.func71 U Tryz.ntmps71 U (ag (fun _ A=>(au (((A _ _ (sq (fun _ C=>ag (fun _ E=>aj (.slice a n c) (p (lR pE U U) (az ((E _ _ (cb U (fun q=> ?_) (fun q=> ?_)))))))))))))))
 have V:a=none:=by simpa using q
 refine ag (fun _ i=>(au (((i _ _ (rt (tr (f1 U U ?_))))))))
 have Y:=O V
 subst Y
 obtain rfl :=List.eq_nil_of_length_eq_zero (show xs.length=0 by omega)
 exact ⟨World.ownsRow_nil _ _ _ _,Md.refl _ _⟩
 refine aH (tn (C _ _ (ag (fun _ i=>(e (jq pq fun ai an ak j G=> ?_))))))
 have s:=G w.heap.size aa
 refine aj (.slice a n c) (e (ap pq (s) U (by have :=j.size; omega) U (I.wk j.md) (ab) (h1) aa aa fun ae ah Z M am al=> ?_))
 have J:=Wk.own j.md s M (Nat.le_refl _)
 refine au (((i _ _ (rt (f1 U U ?_)))))
 have ac:World.ownsRow ah w.heap.size 54 1 ae n xs:=by simpa using Z
 exact ⟨ac,J⟩
theorem AQ (v:Value) (n:Nat) (xs:List Value) (w:World) (p:Rd w.heap v n 1 xs) (h1:xs.all Value.oneCell'=true) (hn:n≤1048576):a3 Tryz.prog 71 [v].toArray w (fun v w'=>World.ownsRow w' w.heap.size 54 1 v n xs∧Wk w w'):=by
 obtain ⟨a,c,rfl,i,q,j⟩:=p
 exact AR a n c xs w i q j h1 hn
theorem AP (a:Option Addr) (n c:Nat) (xs:List Value) (w:World) (I:aw w.heap a xs) (ab:xs.length=n*7) (O:a=none→n=0) (h1:xs.all Value.oneCell'=true) (hn:n≤1048576):
 a3 Tryz.prog 72 (List.toArray [.slice a n c]) w (fun ad w'=>World.ownsRow w' w.heap.size 155 7 ad n xs∧Wk w w'):=by
 refine enter Tryz.func72 U Tryz.ntmps72 U (ag (fun _ A=>(au (((A _ _ (sq (fun _ C=>ag (fun _ E=>aj (.slice a n c) (p (lR pF U U) (az ((E _ _ (cb U (fun q=> ?_) (fun q=> ?_)))))))))))))))
 have V:a=none:=by simpa using q
 refine ag (fun _ i=>(au (((i _ _ (rt (tr (f1 U U ?_))))))))
 have Y:=O V
 subst Y
 obtain rfl :=List.eq_nil_of_length_eq_zero (show xs.length=0 by omega)
 exact ⟨World.ownsRow_nil _ _ _ _,Md.refl _ _⟩
 refine aH (tn (C _ _ (ag (fun _ i=>(e (jq pz fun ai an ak j G=> ?_))))))
 have s:=G w.heap.size aa
 refine aj (.slice a n c) (e (ap pz (s) U (by have :=j.size; omega) U (I.wk j.md) (ab) (h1) aa aa fun ae ah Z M am al=> ?_))
 have J:=Wk.own j.md s M (Nat.le_refl _)
 refine au (((i _ _ (rt (f1 U U ?_)))))
 have ac:World.ownsRow ah w.heap.size 155 7 ae n xs:=by simpa using Z
 exact ⟨ac,J⟩
theorem AO (v:Value) (n:Nat) (xs:List Value) (w:World) (p:Rd w.heap v n 7 xs) (h1:xs.all Value.oneCell'=true) (hn:n≤1048576):a3 Tryz.prog 72 [v].toArray w (fun v w'=>World.ownsRow w' w.heap.size 155 7 v n xs∧Wk w w'):=by
 obtain ⟨a,c,rfl,i,q,j⟩:=p
 exact AP a n c xs w i q j h1 hn
theorem AL (a:Option Addr) (n c:Nat) (xs:List Value) (w:World) (I:aw w.heap a xs) (ab:xs.length=n*2) (O:a=none→n=0) (h1:xs.all Value.oneCell'=true) (hn:n≤1048576):
 a3 Tryz.prog 48 (List.toArray [.slice a n c]) w (fun ad w'=>World.ownsRow w' w.heap.size 56 2 ad n xs∧Wk w w'):=by
 refine enter Tryz.func48 U Tryz.ntmps48 U (ag (fun _ A=>(au (((A _ _ (sq (fun _ C=>ag (fun _ E=>aj (.slice a n c) (p (lR jO U U) (az ((E _ _ (cb U (fun q=> ?_) (fun q=> ?_)))))))))))))))
 have V:a=none:=by simpa using q
 refine ag (fun _ i=>(au (((i _ _ (rt (tr (f1 U U ?_))))))))
 have Y:=O V
 subst Y
 obtain rfl :=List.eq_nil_of_length_eq_zero (show xs.length=0 by omega)
 exact ⟨World.ownsRow_nil _ _ _ _,Md.refl _ _⟩
 refine aH (tn (C _ _ (ag (fun _ i=>(e (jq pf fun ai an ak j G=> ?_))))))
 have s:=G w.heap.size aa
 refine aj (.slice a n c) (e (ap pf (s) U (by have :=j.size; omega) U (I.wk j.md) (ab) (h1) aa aa fun ae ah Z M am al=> ?_))
 have J:=Wk.own j.md s M (Nat.le_refl _)
 refine au (((i _ _ (rt (f1 U U ?_)))))
 have ac:World.ownsRow ah w.heap.size 56 2 ae n xs:=by simpa using Z
 exact ⟨ac,J⟩
theorem AK (v:Value) (n:Nat) (xs:List Value) (w:World) (p:Rd w.heap v n 2 xs) (h1:xs.all Value.oneCell'=true) (hn:n≤1048576):a3 Tryz.prog 48 [v].toArray w (fun v w'=>World.ownsRow w' w.heap.size 56 2 v n xs∧Wk w w'):=by
 obtain ⟨a,c,rfl,i,q,j⟩:=p
 exact AL a n c xs w i q j h1 hn
theorem yA (B fb mc:Nat) (F:aM) (V:dq) (w:World) (aP:bQ w B fb mc F V) (dU:F.bW.length+F.aliases.length+F.bf.length+F.rules.length≤70000) (bY:Nx F):
 a3 Tryz.prog 38 (List.toArray [a6 fb]) w (fun v w'=>(∃ bw,v= .agg (gQ F bw).toArray∧yl w' w.heap.size F bw)∧Wk w w'):=by
 refine enter Tryz.func38 U Tryz.ntmps38 U (ag (fun _ cq=>(e (fC yh fun bd ac dV bi bA=> ?_))))
 have d0:=bi.size
 have ak:=aP.wk bi.md
 refine az ((cq _ _ (sq (fun _ cy=>ag (fun _ cz=>(aj (a6 fb) (p (jc ny U U) (nl (tn (cz _ _ (cf (U) (aH (tn (cy _ _ (ag (fun _ cA=>(aj (a6 fb) (p (nc U) (p (fa dQ U) (p (cC pQ U (U) (show ∀ j,j < 13→Hb.aG ac.heap fb (0 +j)=(gQ F V)[j]? from fun j aW=>(a4 ak.cells).trans (by match j,aW with | 0,_=>rfl | 1,_=>rfl | 2,_=>rfl | 3,_=>rfl | 4,_=>rfl | 5,_=>rfl | 6,_=>rfl | 7,_=>rfl | 8,_=>rfl | 9,_=>rfl | 10,_=>rfl | 11,_=>rfl | 12,_=>rfl))) (e (fC yh fun Z C dW bL cL=> ?_))))))))))))))))))))))
 have d3:=bL.size
 refine e (fy tU U U U (yU ak) cL ao fun a5 bJ cM=> ?_)
 have bB:Wk ac a5:=bL.md.trans' bJ (fun q a h=>by omega)
 have d4:=bJ.size
 have cU:=ak.wk bB
 have aT:a5.heap[Z]? =some (.cells (gQ F ⟨V.v9,V.v10,V.v11,V.dG,V.sa,V.rn⟩).toArray 87 (0,0)):=cM
 refine az ((cA _ _ (ag (fun _ cB=>(p (fa oK U) (p (ld sE U ((a4 aT).trans U)) (e (cl Af (AM V.v9 F.bW.length (jf F.bW) a5 (Rd.gl cU.o9) (uO (fun _=>rfl) _) aa) U fun O cm cW=> ?_))))))))
 obtain ⟨b1,bg⟩:=cW
 have dZ:=bg.size
 have b3:=ga b1 (show C.heap.size≤a5.heap.size by omega)
 refine p (fa oK U) (e (dp tQ U U (v:=O) (dR b1) (bg.aC aT) (by show _ < 13; omega) fun a7 bh cN=> ?_))
 have bD:Wk ac a7:=(bB.trans bg).trans' bh (fun q a h=>by omega)
 have d5:=bh.size
 have cV:=ak.wk bD
 have b4:=bK b3 bh (fun q a h=>by have :=(c4 b3 a).1; omega)
 have bR:a7.heap[Z]? =some (.cells (gQ F ⟨O,V.v10,V.v11,V.dG,V.sa,V.rn⟩).toArray 87 (0,0)):=cN
 refine az ((cB _ _ (ag (fun _ cD=>(p (fa lW U) (p (ld nX U ((a4 bR).trans U)) (e (cl Ag (AI V.v11 F.bf.length (iM F.bf) a7 (Rd.gl cV.eB) (uO (fun _=>rfl) _) aa) U fun v20 ec cX=> ?_))))))))
 obtain ⟨b6,aA⟩:=cX
 have d1:=aA.size
 have b7:=ga b6 (show C.heap.size≤a7.heap.size by omega)
 refine p (fa lW U) (e (dp tS U U (v:=v20) (dR b6) (aA.aC bR) (by show _ < 13; omega) fun a8 aS cO=> ?_))
 have bE:Wk ac a8:=(bD.trans aA).trans' aS (fun q a h=>by omega)
 have d7:=aS.size
 have bH:=ak.wk bE
 have b5:=bK (aE b4 aA) aS (fun q a h=>by have :=(c4 (aE b4 aA) a).1; omega)
 have b8:=bK b7 aS (fun q a h=>by have :=(c4 b7 a).1; omega)
 have bS:a8.heap[Z]? =some (.cells (gQ F ⟨O,V.v10,v20,V.dG,V.sa,V.rn⟩).toArray 87 (0,0)):=cO
 refine az ((cD _ _ (ag (fun _ cF=>(p (fa kb U) (p (ld kX U ((a4 bS).trans U)) (e (cl Ah (AQ V.v10 F.aliases.length V.sa a8 (Rd.gl bH.e8) (pR bH.al) aa) U fun ch ed cZ=> ?_))))))))
 obtain ⟨b9,an⟩:=cZ
 have d2:=an.size
 have ca:=ga b9 (show C.heap.size≤a8.heap.size by omega)
 refine p (fa kb U) (e (dp tR U U (v:=ch) (dR b9) (an.aC bS) (by show _ < 13; omega) fun co aF cP=> ?_))
 have cT:Wk ac co:=(bE.trans an).trans' aF (fun q a h=>by omega)
 have d8:=aF.size
 have ds:=bK (aE b5 an) aF (fun q a h=>by have :=(c4 (aE b5 an) a).1; omega)
 have di:=bK (aE b8 an) aF (fun q a h=>by have :=(c4 (aE b8 an) a).1; omega)
 have bZ:=bK ca aF (fun q a h=>by have :=(c4 ca a).1; omega)
 have bT:co.heap[Z]? =some (.cells (gQ F ⟨O,ch,v20,V.dG,V.sa,V.rn⟩).toArray 87 (0,0)):=cP
 obtain ⟨ah,fU,rfl⟩:=cE bZ
 have dL:=aP.al.1
 refine az ((cF _ _ (sq (fun _ cG=>ag (fun _ cH=>(p (fa kb U) (p (ld kX U ((a4 bT).trans U)) (p (bo pE U U) (p mv (az ((cH _ _ (aC (lp (fun ay av E=> ∃ (i:Nat) (sa:List Value),(i≤F.aliases.length)∧(sa.length=F.aliases.length)∧(sa.drop i=V.sa.drop i)∧(bX E C.heap.size 71 (sa.take i) (F.aliases.take i))∧(World.ownsRow E C.heap.size 54 1 (.slice ah F.aliases.length fU) F.aliases.length (sa))∧(World.ownsRow E C.heap.size 163 2 (O) F.bW.length (jf F.bW))∧(World.ownsRow E C.heap.size 157 5 (v20) F.bf.length (iM F.bf))∧(E.heap[Z]? =some (.cells (gQ F ⟨O,.slice ah F.aliases.length fU,v20,V.dG,V.sa,V.rn⟩).toArray 87 (0,0)))∧(Wk ac E)∧(C.heap.size≤E.heap.size)∧(av 2=a6 bd)∧(av 3=a6 Z)∧(av 27= .slice ah F.aliases.length fU)∧(av 28=ae (F.aliases.length))∧(av 29=ae i)∧(F.aliases.length - i=ay)) _ ⟨0,V.sa,aa,dL,U,(bX.nil _ _ _),bZ,ds,di,bT,cT,(aa),U,U,U,U,U,U⟩ ?_))))))))))))))
 rintro ay av E ⟨i,sa,hi,aL,cg,bp,M,a1,aZ,aK,aO,d9,dA,dE,dB,dC,dD,rfl⟩
 refine fx 2 dA (fx 3 dE (fx 27 dB (fx 28 dC (fx 29 dD (ag (fun _ cr=>(p (lt U U) (az ((cr _ _ (sq (fun _ ct=>cd U (fun aT=> ?_) (fun aT=> ?_)))))))))))))
 refine aH (tn (ct _ _ (sq (fun _ a9=>aC (sq (fun _ ba=> ?_))))))
 obtain ⟨eb,dM,bk⟩:=bX.get (ak.wk aO).al (show i < F.aliases.length by omega)
 obtain ⟨cI,ci,rfl⟩:=bk.slice
 refine rg U (aj (ae i) (p (aQ qy U U aa (aw.ok ((aJ M).2) (fun h=>by rw [h] at aL; simp at aL; omega))) (p (ld iJ U (aw.h8 (aJ M).2 ((qt cg).trans dM))) (p (bG (ae i) U) (au (((ba _ _ ?_))))))))
 have am:(fun w'=>Wk E w') E.drew:=(Md.refl _ _).drew
 refine dy (fun w'=>Wk E w') 6 U wide am (lq 0 U ab (fun _ _=>fa kb U) am (lq 1 U ab (fun w' ar=>ld kX U (Wk.aG ar ((a4 aK).trans U))) am (lq 2 U ab (fun _ _=>aB (ae i) U) am (lq 3 U ab (fun _ _=>mv) am (gA 4 U ab (cl n8 (oc cI (F.aliases.getD i []).length ci ((F.aliases.getD i []).map aI) E.drew (aw.wk bk.bN.2 am) (by simp) (fun h=>Tg.oS bk (by simp) h) (nZ _) (by have :=bY.1 _ (dK (d:= []) (show i < F.aliases.length by omega)); omega)) U fun dO cn c0=> ?_))))))
 obtain ⟨br,bC⟩:=c0
 have G:Wk E cn:=am.trans bC
 have c3:=G
 have bM:(fun w'=>Wk E w') cn:=am.trans bC
 refine ⟨bM,?_⟩
 refine lq 5 U ab (fun _ _=>aQ qy U U aa (aw.ok ((aJ M).2) (fun h=>by rw [h] at aL; simp at aL; omega))) bM (bV 6 U ab ab (kM (j:=i) (aE M G) om U U (dR br) (by simp) aa fun dS ap dd=> ?_))
 have cQ:Wk ac dS:=Wk.own (aO.trans G) (aE M G) ap aa
 have dk:=bK (ga br (show C.heap.size≤E.heap.size by omega)) ap (fun q a=>ir br (aE M G) ao a)
 have c6:=(bp.wk G).md ap (e9 (aE M G) ao)
 have dn:=bK (aE a1 G) ap (fun q a=>ir (aE a1 G) (aE M G) ao a)
 have dg:=bK (aE aZ G) ap (fun q a=>ir (aE aZ G) (aE M G) ao a)
 have da:=ap.aC (Wk.aC G aK) (fun h=>by have :=(c4 (aE M G) h).1; omega)
 exact dx ab (bn (tn (a9 _ _ (rg U (p (ad U U (bu aa)) (p mv (az ((⟨_,aa,i+1,sa.set i dO,aa,((by rw [List.length_set]; exact aL)),(set_drop cg),(sK c6 aa aa (Tg.gl dk)),dd,dn,dg,da,cQ,((by have :=c3.size; have :=ap.size; omega)),U,U,U,U,U,U⟩)))))))))
 refine ext (te _ (te _ (be (tn (cG _ _ (ag (fun _ a9=>(p (fa ke U) (p (ld kY U ((a4 aK).trans U)) (e (cl Ai (AO V.dG F.rules.length (fc (F.rules.zip V.rn)) E (Rd.gl (ak.wk aO).dY) (GG aP.nx) aa) U fun cj ee c1=> ?_)))))))))))
 obtain ⟨cb,Y⟩:=c1
 have d6:=Y.size
 have cc:=ga cb (show C.heap.size≤E.heap.size by omega)
 rw [List.take_of_length_le aa,List.take_of_length_le aa] at bp
 refine p (fa ke U) (e (dp tT U U (v:=cj) (dR cb) (Wk.aC Y aK) (by show _ < 13; omega) fun ck aq cJ=> ?_))
 have cR:Wk ac ck:=(aO.trans Y).trans' aq (fun q a h=>by omega)
 have dX:=aq.size
 have dt:=bK (aE a1 Y) aq (fun q a h=>by have :=(c4 (aE a1 Y) a).1; omega)
 have df:=bK (aE M Y) aq (fun q a h=>by have :=(c4 (aE M Y) a).1; omega)
 have dj:=bK (aE aZ Y) aq (fun q a h=>by have :=(c4 (aE aZ Y) a).1; omega)
 have b0:=bK cc aq (fun q a h=>by have :=(c4 cc a).1; omega)
 have c8:=(bp.wk Y).md aq (eG (Wk.aC Y aK) ao)
 have bP:ck.heap[Z]? =some (.cells (gQ F ⟨O,.slice ah F.aliases.length fU,v20,cj,V.sa,V.rn⟩).toArray 87 (0,0)):=cJ
 obtain ⟨ax,iL,rfl⟩:=cE b0
 have dw:V.rn.length=F.rules.length:=by have :=aP.nx.1; rwa [List.length_map] at this
 refine az ((a9 _ _ (sq (fun _ ba=>ag (fun _ cu=>(p (fa ke U) (p (ld kY U ((a4 bP).trans U)) (p (bo pF U U) (p mv (az ((cu _ _ (aC (lp (fun ay aN A=> ∃ (i:Nat) (rn:List Value),(i≤F.rules.length)∧(rn.length=F.rules.length)∧(rn.drop i=V.rn.drop i)∧(bX A C.heap.size 71 (rn.take i) ((F.rules.map (·.next)).take i))∧(World.ownsRow A C.heap.size 155 7 (.slice ax F.rules.length iL) F.rules.length (fc (F.rules.zip rn)))∧(World.ownsRow A C.heap.size 163 2 (O) F.bW.length (jf F.bW))∧(World.ownsRow A C.heap.size 54 1 (.slice ah F.aliases.length fU) F.aliases.length (sa))∧(bX A C.heap.size 71 sa F.aliases)∧(World.ownsRow A C.heap.size 157 5 (v20) F.bf.length (iM F.bf))∧(A.heap[Z]? =some (.cells (gQ F ⟨O,.slice ah F.aliases.length fU,v20,.slice ax F.rules.length iL,V.sa,V.rn⟩).toArray 87 (0,0)))∧(Wk ac A)∧(C.heap.size≤A.heap.size)∧(aN 2=a6 bd)∧(aN 3=a6 Z)∧(aN 47=ae (F.rules.length))∧(aN 48=ae i)∧(F.rules.length - i=ay)) _ ⟨0,V.rn,aa,dw,U,(bX.nil _ _ _),b0,dt,df,c8,dj,bP,cR,(aa),U,U,U,U,U⟩ ?_))))))))))))))
 rintro ay aN A ⟨i,rn,hi,dz,ce,bq,I,a2,aY,bO,a0,aU,aD,ea,dF,dH,dI,dJ,rfl⟩
 refine fx 2 dF (fx 3 dH (fx 47 dI (fx 48 dJ (ag (fun _ cv=>(p (lt U U) (az ((cv _ _ (sq (fun _ cw=>cd U (fun c9=> ?_) (fun c9=> ?_))))))))))))
 refine aH (tn (cw _ _ (sq (fun _ bb=>aC (sq (fun _ cx=> ?_))))))
 obtain ⟨vn,dN,bm⟩:=bX.get (ak.wk aD).nx (show i < (F.rules.map (·.next)).length by rw [List.length_map]; omega)
 obtain ⟨bx,bz,rfl⟩:=bm.slice
 obtain ⟨q,bt⟩:∃ q,F.rules[i]? =some q:=⟨_,List.getElem?_eq_getElem aa⟩
 have dv:(F.rules.map (·.next)).getD i []=q.next:=by rw [List.getD_eq_getElem?_getD,List.getElem?_map,bt]; rfl
 have du:=bY.2 q (List.mem_of_getElem? bt)
 rw [← dv] at du
 have bv:(F.rules.zip rn)[i]? =some (q,.slice bx ((F.rules.map (·.next)).getD i []).length bz):=List.getElem?_zip_eq_some.2 ⟨bt,(qt ce).trans dN⟩
 refine rg U (aj (ae i) (p (bG (ae i) U) (az ((cx _ _ ?_)))))
 have J:(fun w'=>Wk A w') A.drew:=(Md.refl _ _).drew
 refine dy (fun w'=>Wk A w') 12 U wide J (bc 0 U (fun _=>fa ke U) (fun _=>J) (cY 1 U (fun w' ar=>ld kY U (Wk.aG ar ((a4 aU).trans U))) J (aV 2 U (ae i) J (bc 3 U (fun _=>fa ke U) (fun _=>J) (cY 4 U (fun w' ar=>ld kY U (Wk.aG ar ((a4 aU).trans U))) J (aV 5 U (ae i) J (bc 6 U (fun _=>aQ qz U U aa (aw.ok ((aJ I).2) (xk bv))) (fun _=>J) (bc 7 U (fun _=>fa oI U) (fun _=>J) (cY 8 U (fun w' ar=>ld iJ U (Wk.aG ar (fX (f:=gO) (m:=7) (fun _=>rfl) (aJ I).2 bv 6 ao))) J (gA 9 U ab (cl n8 (oc bx ((F.rules.map (·.next)).getD i []).length bz (((F.rules.map (·.next)).getD i []).map aI) A.drew (aw.wk bm.bN.2 J) (by simp) (fun h=>Tg.oS bm (by simp) h) (nZ _) aa) U fun dP cp c2=> ?_)))))))))))
 obtain ⟨bs,bF⟩:=c2
 have c:Wk A cp:=J.trans bF
 have c5:=c
 have bj:(fun w'=>Wk A w') cp:=J.trans bF
 refine ⟨bj,?_⟩
 refine bc 10 U (fun _=>aQ qz U U aa (aw.ok ((aJ I).2) (xk bv))) (fun _=>bj) (bc 11 U (fun _=>fa oI U) (fun _=>bj) (bV 12 U ab ab (kM (j:=i*7 +6) (aE I c) om U U (dR bs) (by rw [Int.toNat_natCast]; omega) aa fun cm ai b2=> ?_)))
 rw [GH aa aa] at b2
 have cS:Wk ac cm:=Wk.own (aD.trans c) (aE I c) ai aa
 have dl:=bK (ga bs (show C.heap.size≤A.heap.size by omega)) ai (fun q a=>ir bs (aE I c) ao a)
 have dc:=(bq.wk c).md ai (e9 (aE I c) ao)
 have c7:=(bO.wk c).md ai (e9 (aE I c) ao)
 have dr:=bK (aE a2 c) ai (fun q a=>ir (aE a2 c) (aE I c) ao a)
 have de:=bK (aE aY c) ai (fun q a=>ir (aE aY c) (aE I c) ao a)
 have dh:=bK (aE a0 c) ai (fun q a=>ir (aE a0 c) (aE I c) ao a)
 have db:=ai.aC (Wk.aC c aU) (fun h=>by have :=(c4 (aE I c) h).1; omega)
 exact dx ab (bn (tn (bb _ _ (rg U (p (ad U U (bu aa)) (p mv (az ((⟨_,aa,i+1,rn.set i dP,aa,((by rw [List.length_set]; exact dz)),(set_drop ce),(sK dc (by rw [List.length_map]; omega) aa (Tg.gl dl)),b2,dr,de,c7,dh,db,cS,((by have :=c5.size; have :=ai.size; omega)),U,U,U,U,U⟩)))))))))
 refine ext (te _ (te _ (be (tn (ba _ _ (ag (fun _ bb=>(p (cC pQ U (U) (show ∀ j,j < 13→Hb.aG A.heap Z (0 +j)=(gQ F ⟨O,.slice ah F.aliases.length fU,v20,.slice ax F.rules.length iL,V.sa,V.rn⟩)[j]? from fun j aW=>(a4 aU).trans (by match j,aW with | 0,_=>rfl | 1,_=>rfl | 2,_=>rfl | 3,_=>rfl | 4,_=>rfl | 5,_=>rfl | 6,_=>rfl | 7,_=>rfl | 8,_=>rfl | 9,_=>rfl | 10,_=>rfl | 11,_=>rfl | 12,_=>rfl))) (e (fy tU U U U (sP (dR a2) (dR aY) (dR a0) (dR I)) (Wk.aC aD bA) ao fun dT aR cK=>az ((bb _ _ (rt (mU U (dm (cs:=gQ F ⟨O,.slice ah F.aliases.length fU,v20,.slice ax F.rules.length iL,V.sa,V.rn⟩) U pQ U (fun j aW=>(bl.bI ⟨_,cK⟩ j).trans U)) ?_))))))))))))))
 have aX:∀ {t s n:Nat} {v:Value} {xs:List Value},World.ownsRow A C.heap.size t s v n xs→World.ownsRow dT w.heap.size t s v n xs:=fun h=>ga (bK h aR (fun q a h2=>by have :=(c4 h a).1; omega)) aa
 rw [List.take_of_length_le aa,List.take_of_length_le (by rw [List.length_map]; omega)] at bq
 have bU:∀ k,k=bd→∀ cur z,A.heap[k]?≠some (.cells cur 71 z):=eG (Wk.aC aD bA) ao
 exact ⟨⟨⟨O,.slice ah F.aliases.length fU,v20,.slice ax F.rules.length iL,sa,rn⟩,U,⟨aX a2,aX aY,(bO.md aR bU).mono aa,aX a0,aX I,(bq.md aR bU).mono aa⟩⟩,(bi.md.trans aD).trans' aR (fun q a h=>by omega)⟩
end Go.Hb.kt
end
section
set_option maxRecDepth 20000
set_option maxHeartbeats 1000000
namespace Go.Hb.kR
open Go.Hb.c6
open Go.Proofs
open Go.Hb.ff Go.Hb.fP Go.Hb.gh Go.Hb.ji Go.Hb.kO Go.Hb.my Go.Hb.iW Go.Hb.kP Go.Hb.gu Go.Hb.kt Go.Hb.jZ Go.Hb.iG Go.Hb.nO Go.Hb.gP
noncomputable def gV (r:List Tx):Nat×Int:=if r.length≠1 then (0,111) else dI (r.getD 0 []) 8192
def yo (c w':World) (X:Except Nat bR) (v:Value):Prop :=(∃ x a,X= .ok x∧v= .tuple #[.agg [str x.1,a].toArray,.int .i64 (0:Nat)]∧World.ownsRow w' c.heap.size 71 1 a x.2.length (x.2.map aI))∨(∃ e,X= .error e∧e≠0∧v= .tuple #[.agg [str [],.slice none 0 0].toArray,.int .i64 (e:Nat)])
theorem wx {s:Tx} {i:Nat} (hi:i < s.length):(s.take (i+1)).drop i= [s.getD i 0]:=by
 rw [o8 0 (Nat.le_refl i) hi,List.drop_eq_nil_of_le (by rw [List.length_take]; omega),List.nil_append]
theorem xZ (b:UInt8):kp [b]=e5 b:=by unfold kp; rw [zd]; cases e5 b <;> rfl
theorem uc {F:aM} {x:Nat} (h:(dP F.bf x).isSome=true∨x∈F.sp):c9 F x=true :=by
 unfold c9; rcases h with h | h
 · rw [h,Bool.or_true]
 · rw [decide_eq_true h]; rfl
theorem BS {F:aM} {x:Nat} (h:(dP F.bf x).isSome=false) (h1:x∉F.sp):c9 F x=false :=by
 unfold c9; rw [h,decide_eq_false h1]; rfl
theorem G6 {F:aM} (h:F.sp.length=5):[F.sp.getD 0 0,F.sp.getD 1 0,F.sp.getD 2 0,F.sp.getD 3 0,F.sp.getD 4 0]=F.sp:=by
 match F.sp,h with
 | [a,b,c,d,e],_=>rfl
theorem DS (a:Option Addr) (c:Nat) (l:List Nat) (x:Nat) (w:World) (C:aw w.heap a (l.map aI)) (ap:l.length≤1048576):
 a3 Tryz.prog 105 (List.toArray [.slice a l.length c,aI x]) w (fun v w'=>(∃ k:Int,v= .int .i64 k∧(0≤k↔x∈l)∧ -1≤k∧k≤1048576)∧Wk w w'):=by
 refine enter Tryz.func105 U Tryz.ntmps105 U (ag (fun _ M=>(au (((M _ _ (sq (fun _ O=>ag (fun _ V=>aj (.slice a l.length c) (p (bo iF U U) (p mv (az ((V _ _ (aC (lp (fun A q J=> ∃ (i:Nat),(i≤l.length)∧(∀ j,j < i→l.getD j 0≠x)∧(J=w)∧(q 0= .slice a l.length c)∧(q 1=aI x)∧(q 7=ae (l.length))∧(q 8=ae i)∧(l.length - i=A)) _ ⟨0,aa,((fun j G=>by omega)),U,U,U,U,U,U⟩ ?_))))))))))))))))
 rintro A q J ⟨i,hi,I,ai,al,am,an,ao,rfl⟩
 refine fx 0 al (fx 1 am (fx 7 an (fx 8 ao ?_)))
 subst ai
 refine ag (fun _ Y=>(p (lt U U) (az ((Y _ _ (sq (fun _ Z=>cd U (fun ak=> ?_) (fun ak=> ?_))))))))
 refine aH (tn (Z _ _ (sq (fun _ s=>aC (ag (fun _ ab=>(aj (ae i) (p (bG (ae i) U) (az ((ab _ _ (ag (fun _ ac=>(aj (aI x) (aj (.slice a l.length c) (aj (ae i) (p (aQ ba U U aa (aw.ok (C) (bL aa))) (p (ld bq U (aw.h8 C (show (l.map aI)[i]? =some (aI (l.getD i 0)) by rw [List.getElem?_map,List.getD_eq_getElem?_getD,List.getElem?_eq_getElem (by omega :i < l.length)]; rfl))) ?_))))))))))))))))))
 refine p (bp U U) (az ((ac _ _ (cd U (fun E=> ?_) (fun E=> ?_)))))
 exact ag (fun _ ah=>(aj (ae i) (p (bG (ae i) U) (az ((ah _ _ (rt (br (tr (tr (br (tr (f1 U U (⟨⟨(i:Nat),U,⟨fun _=>by obtain rfl :x=l.getD i 0:=aa; exact dK aa,fun _=>by omega⟩,aa,aa⟩,Md.refl _ _⟩))))))))))))))
 exact aH (bn (tn (s _ _ (rg U (p (ad U U (bu aa)) (p mv (nl (tn (⟨_,aa,i+1,aa,((fun j G=>by rcases Nat.lt_or_ge j i with h | h <;> first | exact I j h | (rw [show j=i by omega]; exact fun h2=>E (by rw [h2])))),U,U,U,U,U,U⟩)))))))))
 exact ext (te _ (te _ (be (tn (O _ _ (ag (fun _ s=>(p aA (az ((s _ _ (rt (f1 U U (⟨⟨-1,U,⟨fun h=>absurd h aa,fun h=>by obtain ⟨j,G,e⟩:=m9 0 h; exact absurd e (I j aa)⟩,aa,aa⟩,Md.refl _ _⟩))))))))))))))
theorem Ba (a:Option Addr) (c:Nat) (l:List Nat) (x:Nat) (w:World) (q:aw w.heap a (l.map aI)) (C:l.length≤1048576):
 a3 Tryz.prog 76 (List.toArray [.slice a l.length c,aI x]) w (fun v w'=>v= .bool (decide (x∈l))∧Wk w w'):=by
 refine enter Tryz.func76 U Tryz.ntmps76 U (ag (fun _ i=>(au (((i _ _ (ag (fun _ j=>(aj (.slice a l.length c) (aj (aI x) (e (cl zf (DS a c l x w q C) U fun I J s=> ?_))))))))))))
 obtain ⟨⟨E,rfl,A,G⟩,hE7⟩:=s
 exact p (ge U U) (au (((j _ _ (rt (f1 U U (⟨by show Value.bool (decide (E≥0))=_; exact congrArg Value.bool (decide_eq_decide.2 A),hE7⟩)))))))
theorem la (ln er:Int) (w:World):
 a3 Tryz.prog 36 (List.toArray [.int .i64 ln,.int .i64 er]) w (fun v w'=>v= .agg [.int .i64 2,.int .i64 ln,.int .i64 er].toArray∧Wk w w'):=by
 exact enter Tryz.func36 U Tryz.ntmps36 U (ag (fun _ a=>(e (al gd fun E M G C s=>az ((a _ _ (ag (fun _ c=>(aj (.int .i64 ln) (aj (.int .i64 er) (p (bU (ps:= [(0,.int .i64 2),(1,.int .i64 ln),(2,.int .i64 er)]) (L:= [.int .i64 2,.int .i64 ln,.int .i64 er]) iU U (U)) (e (b8 dW U U U U (s) (by simp) fun O A i=>az ((c _ _ (rt (mU U (dm (cs:= [.int .i64 2,.int .i64 ln,.int .i64 er]) U fG U (fun j I=>i.bI j)) (⟨U,C.md.trans' A (fun q J h=>by omega)⟩))))))))))))))))))
theorem B7 (n:Nat) (r:List Tx) (B:Nat) (a:Option Addr) (c:Nat) (w:World) (M:Tg w B 9 r.length (.slice a r.length c) (r.map str)) (V:∀ x∈r,x.length≤70000) (ac:r.length≤70000):
 a3 Tryz.prog 37 (List.toArray [.agg [ae n,.slice a r.length c].toArray]) w (fun v w'=>v= .tuple #[ae ((gV r).1),.int .i64 (gV r).2]∧Wk w w'):=by
 refine enter Tryz.func37 U Tryz.ntmps37 U (ag (fun _ C=>(e (gx U fun Z Y ab q s=> ?_))))
 have A:=M.wk q.md
 refine p aA (au (((C _ _ (sq (fun _ E=>ag (fun _ G=>(p (fa mX U) (p (ld kz U ((s.aG 1).trans U)) (p (bo ea U U) (p (dF U U) (az ((G _ _ (cd U (fun O=> ?_) (fun O=> ?_))))))))))))))))
 refine ag (fun _ j=>(p aA (au (((j _ _ (rt (tr (f2 U U U ?_)))))))))
 have h1:r.length≠1:=aa
 exact ⟨by unfold gV; rw [if_pos h1]; rfl,q.md⟩
 refine aH (tn (E _ _ (ag (fun _ j=>(p (fa mX U) (p (ld kz U ((s.aG 1).trans U)) (p (aQ bT U U aa (aw.ok (A.bN.2) (bL aa))) (p (ld bF U (bM.get (i:=0) A.bN.2 aa)) (e (cl n9 (oW (r.getD 0 []) 8192 Y (by have :=V _ (dK (d:= []) (show 0 < r.length by omega)); omega) aa) U fun dG ad J=> ?_))))))))))
 obtain ⟨rfl,I⟩:=J
 refine p (xt U U) (p (xt U U) (p aA (au (((j _ _ (rt (f2 U U U ?_))))))))
 have h1:¬r.length≠1:=aa
 exact ⟨by unfold gV; rw [if_neg h1]; rfl,q.md.trans I⟩
theorem BY (B fb mc:Nat) (F:aM) (V:dq) (n:Nat) (r:List Tx) (bx:Nat) (bb:Option Addr) (bd:Nat) (w:World) (aX:bQ w B fb mc F V) (cg:∃ seen,gE F [] seen) (cz:Tg w bx 9 r.length (.slice bb r.length bd) (r.map str)) (cM:∀ x∈r,x.length≤70000) (dh:r.length≤70000):
 a3 Tryz.prog 39 (List.toArray [a6 fb,.agg [aI (F.sp.getD 0 0),aI (F.sp.getD 1 0),aI (F.sp.getD 2 0),aI (F.sp.getD 3 0),aI (F.sp.getD 4 0)].toArray,.agg [ae n,.slice bb r.length bd].toArray]) w (fun v w'=>yo w w' (du F r) v∧Wk w w'):=by
 obtain ⟨seen,aB⟩:=cg
 have dg:=aB.len
 have dl:=pK (r.getD 0 [])
 refine enter Tryz.func39 U Tryz.ntmps39 U (ag (fun _ bz=>(e (gx U fun aT dC dd bk ca=>e (gx U fun c8 dE de aY cc=>e (al yg fun bc bv df aK bf=> ?_))))))
 have aD:Wk w bv:=bk.md.trans (aY.md.trans aK.md)
 have cL:=aK.md.B (aY.md.B ca)
 have bt:=aK.md.B cc
 have bl:=cz.wk aD
 have ci:=aX.wk aD
 have dr:=bk.size
 have ds:=aY.size
 have dt:=aK.size
 refine au (((bz _ _ (sq (fun _ bH=>ag (fun _ bV=>(p (fa mX U) (p (ld kz U ((bt.aG 1).trans U)) (p (bo ea U U) (p (dF U U) (az ((bV _ _ (cd U (fun cB=> ?_) (fun cB=> ?_)))))))))))))))
 exact ag (fun _ aR=>(p (bU (ps:= []) (L:= [.string ⟨⟨[]⟩⟩,.slice none 0 0]) kn U (U)) (e (b8 jv U U U U (bf) (by simp) fun dQ cr b9=>au (((aR _ _ (rt (tr (ez U (dm (cs:= [str [],.slice none 0 0]) U fT U (fun j C=>b9.bI j)) dS (⟨.inr ⟨111,uo aa,ao,U⟩,aD.trans' cr (fun q c h=>by omega)⟩)))))))))))
 have J:r.length=1:=aa
 have di:(r.getD 0 []).length≤70000:=cM _ (dK aa)
 refine aH (tn (bH _ _ (ag (fun _ aR=>(p (fa mX U) (p (ld kz U ((bt.aG 1).trans U)) (p (aQ bT U U aa (aw.ok (bl.bN.2) (bL aa))) (p (ld bF U (bM.get (i:=0) bl.bN.2 aa)) (e (cl qa (r9 (r.getD 0 []) bv aa) U fun dx c5 cu=> ?_))))))))))
 obtain ⟨rfl,an⟩:=cu
 have ab:=aD.trans an
 have ac:=an.B bf
 have dp:=an.size
 refine p mv (p (xt U U) (p (xt U U) (p (xt U U) (p (xt U U) (p aA (p aA (p aA (au (((aR _ _ (sq (fun _ bW=>ag (fun _ bX=>(p mv (p (dF U U) (az ((bX _ _ (cd U (fun cC=> ?_) (fun cC=> ?_)))))))))))))))))))))
 exact ag (fun _ aS=>(p (bU (ps:= []) (L:= [.string ⟨⟨[]⟩⟩,.slice none 0 0]) kn U (U)) (p mv (e (b8 jv U U U U (ac) (by simp) fun dR ct ce=>au (((aS _ _ (rt (tr (ez U (dm (cs:= [str [],.slice none 0 0]) U fT U (fun j C=>ce.bI j)) dS (⟨.inr ⟨_,qw J aa,aa,U⟩,ab.trans' ct (fun q c h=>by omega)⟩))))))))))))
 have Z:(a8 (r.getD 0 [])).2.2.2=0:=aa
 refine aH (tn (bW _ _ (sq (fun _ aS=>ag (fun _ bY=>(p mv (p (cA u9 U U) (p mv (az ((bY _ _ (aC (lp (fun ak E ax=> ∃ (i:Nat),(i≤(a8 (r.getD 0 [])).1.length)∧(∀ j,j < i→e5 ((a8 (r.getD 0 [])).1.getD j 0)=true)∧(Wk c5 ax)∧(E 0=a6 fb)∧(E 4=a6 aT)∧(E 6=a6 bc)∧(E 8=str (a8 (r.getD 0 [])).1)∧(E 9=str (a8 (r.getD 0 [])).2.1)∧(E 10= .bool (a8 (r.getD 0 [])).2.2.1)∧(E 38=ae ((a8 (r.getD 0 [])).1.length))∧(E 39=ae i)∧((a8 (r.getD 0 [])).1.length - i=ak)) _ ⟨0,aa,((fun j C=>by omega)),(Md.refl _ _),U,U,U,U,U,U,U,U,U⟩ ?_)))))))))))))
 rintro ak E ax ⟨i,hi,bp,A,cN,cR,cS,cT,cU,cO,cP,cQ,rfl⟩
 refine fx 0 cN (fx 4 cR (fx 6 cS (fx 8 cT (fx 9 cU (fx 10 cO (fx 38 cP (fx 39 cQ (ag (fun _ bZ=>(p (lt U U) (az ((bZ _ _ (sq (fun _ bA=>cd U (fun cD=> ?_) (fun cD=> ?_))))))))))))))))
 refine aH (tn (bA _ _ (sq (fun _ aL=>aC (ag (fun _ aN=>(aj (ae i) (p (bG (ae i) U) (az ((aN _ _ (ag (fun _ ah=>(aj (str (a8 (r.getD 0 [])).1) (aj (ae i) (aj (ae i) (p (ad U U (bu aa)) (p (kL u9 U U U aa) (e (cl tx (x4 (((a8 (r.getD 0 [])).1.take (i+1)).drop i) ax (by rw [wx aa]; simp)) U fun dy dD cv=> ?_))))))))))))))))))))
 obtain ⟨rfl,ch⟩:=cv
 have bs:=wx (s:=(a8 (r.getD 0 [])).1) (i:=i) aa
 have aU:=A.trans ch
 refine p (no U) (az ((ah _ _ (cb U (fun a1=> ?_) (fun a1=> ?_)))))
 have a5:e5 ((a8 (r.getD 0 [])).1.getD i 0)=false :=by rw [← xZ,← bs]; simpa using a1
 exact ag (fun _ ai=>(p (bU (ps:= []) (L:= [.string ⟨⟨[]⟩⟩,.slice none 0 0]) kn U (U)) (e (b8 jv U U U U (Wk.B aU ac) (by simp) fun dI cj b0=>au (((ai _ _ (rt (br (tr (tr (br (tr (ez U (dm (cs:= [str [],.slice none 0 0]) U fT U (fun j C=>b0.bI j)) dS (⟨.inr ⟨21,uq J Z (.inl (n4 aa a5)),ao,U⟩,(ab.trans aU).trans' cj (fun q c h=>by omega)⟩)))))))))))))))
 have a5:e5 ((a8 (r.getD 0 [])).1.getD i 0)=true :=by rw [← xZ,← bs]; simpa using a1
 exact aH (bn (tn (aL _ _ (rg U (p (ad U U (bu aa)) (p mv (nl (tn (⟨_,aa,i+1,aa,((fun j C=>by rcases Nat.lt_or_ge j i with h | h <;> first | exact bp j h | (rw [show j=i by omega]; exact a5))),aU,U,U,U,U,U,U,U,U,U⟩)))))))))
 refine ext (te _ (te _ (be (tn (aS _ _ (sq (fun _ aL=>aC (sq (fun _ aN=>rg U (aj (str (a8 (r.getD 0 [])).1) (p (fJ U U) (au (((aN _ _ (cd U (fun Y=> ?_) (fun Y=> ?_)))))))))))))))))
 exact ag (fun _ ah=>(p (bU (ps:= []) (L:= [.string ⟨⟨[]⟩⟩,.slice none 0 0]) kn U (U)) (e (b8 jv U U U U (Wk.B A ac) (by simp) fun dJ ck b1=>au (((ah _ _ (rt (br (tr (ez U (dm (cs:= [str [],.slice none 0 0]) U fT U (fun j C=>b1.bI j)) dS (⟨.inr ⟨21,uq J Z (.inr Y),ao,U⟩,(ab.trans A).trans' ck (fun q c h=>by omega)⟩))))))))))))
 have ap:=n5 (w:=(a8 (r.getD 0 [])).1) (fun j C=>bp j aa)
 refine ag (fun _ ah=>(aj (str (a8 (r.getD 0 [])).1) (p (cA u9 U U) (p (gt U U) (au (((ah _ _ (cd U (fun cF=> ?_) (fun cF=> ?_))))))))))
 exact ag (fun _ ai=>(p (bU (ps:= []) (L:= [.string ⟨⟨[]⟩⟩,.slice none 0 0]) kn U (U)) (e (b8 jv U U U U (Wk.B A ac) (by simp) fun dL cm b2=>au (((ai _ _ (rt (br (tr (ez U (dm (cs:= [str [],.slice none 0 0]) U fT U (fun j C=>b2.bI j)) dS (⟨.inr ⟨22,Cg J Z ap Y aa,ao,U⟩,(ab.trans A).trans' cm (fun q c h=>by omega)⟩))))))))))))
 refine ag (fun _ ai=>(aj (.bool (a8 (r.getD 0 [])).2.2.1) (p (no U) (au (((ai _ _ (cb U (fun aq=> ?_) (fun aq=> ?_)))))))))
 exact ag (fun _ aO=>(aj (str (a8 (r.getD 0 [])).1) (p (bU (ps:= [(0,str (a8 (r.getD 0 [])).1)]) (L:= [str (a8 (r.getD 0 [])).1,.slice none 0 0]) kn U (U)) (e (b8 jv U U U U (Wk.B A ac) (by simp) fun dM cn b4=>au (((aO _ _ (rt (br (tr (ez U (dm (cs:= [str (a8 (r.getD 0 [])).1,.slice none 0 0]) U fT U (fun j C=>b4.bI j)) dS (⟨.inl ⟨_,.slice none 0 0,ur J Z ap Y aa (by simpa using aq),U,World.ownsRow_nil _ _ _ _⟩,(ab.trans A).trans' cn (fun q c h=>by omega)⟩)))))))))))))
 refine aH (bn (tn (aL _ _ (ag (fun _ aO=>(aj (a6 fb) (aj (str (a8 (r.getD 0 [])).2.1) (e (cl tz (uE B fb mc F V (a8 (r.getD 0 [])).2.1 ax (ci.wk (an.trans A)) aB.kd aB.al aa aa) U fun c3 a7 cw=> ?_)))))))))
 obtain ⟨cI,aV⟩:=cw
 have aF:=ab.trans (A.trans aV)
 have a0:=Wk.B (A.trans aV) ac
 obtain ⟨c6,da,rfl,bm⟩:∃ a,∃ e:Nat,c3= .tuple #[a,ae e]∧((e=0∧∃ l,eh F.kind F.aliases (a8 (r.getD 0 [])).2.1= .ok l∧World.ownsRow a7 ax.heap.size 71 1 a l.length (l.map aI))∨(e≠0∧eh F.kind F.aliases (a8 (r.getD 0 [])).2.1= .error e)):=by
  rcases cI with ⟨a,l,h1,h2,h3⟩ | ⟨a,e,h1,h2,h3⟩
  exact ⟨a,0,h1,.inl ⟨U,l,h2,h3⟩⟩
  exact ⟨a,e,h1,.inr ⟨h2,h3⟩⟩
 refine p mv (p (xt U U) (p (xt U U) (p aA (au (((aO _ _ (sq (fun _ bB=>ag (fun _ bC=>(p mv (p (dF U U) (az ((bC _ _ (cd U (fun cG=> ?_) (fun cG=> ?_)))))))))))))))))
 obtain ⟨cK,ar⟩:=bm.resolve_left (fun h=>by omega)
 exact ag (fun _ aP=>(p (bU (ps:= []) (L:= [.string ⟨⟨[]⟩⟩,.slice none 0 0]) kn U (U)) (p mv (e (b8 jv U U U U (a0) (by simp) fun dN co b5=>au (((aP _ _ (rt (tr (ez U (dm (cs:= [str [],.slice none 0 0]) U fT U (fun j C=>b5.bI j)) dS (⟨.inr ⟨_,Ch J Z ap Y aa (by simpa using aq) ar,cK,U⟩,aF.trans' co (fun q c h=>by omega)⟩))))))))))))
 obtain ⟨_,set,ar,av⟩:=bm.resolve_right (fun h=>by omega)
 obtain ⟨M,O,rfl⟩:=cE av
 have dk:=qD (fun l cJ=>(aB.al l cJ).1) ar
 refine aH (tn (bB _ _ (sq (fun _ aP=>ag (fun _ bD=>(p mv (p (bo HI U U) (p mv (az ((bD _ _ (aC (lp (fun ak G a9=> ∃ (j:Nat),(j≤set.length)∧(∀ q,q < j→c9 F (set.getD q 0)=true)∧(Wk a7 a9)∧(G 0=a6 fb)∧(G 4=a6 aT)∧(G 6=a6 bc)∧(G 8=str (a8 (r.getD 0 [])).1)∧(G 13= .slice M set.length O)∧(G 75= .slice M set.length O)∧(G 76=ae (set.length))∧(G 77=ae j)∧(set.length - j=ak)) _ ⟨0,aa,((fun q c=>by omega)),(Md.refl _ _),U,U,U,U,U,U,U,U,U⟩ ?_)))))))))))))
 rintro ak G a9 ⟨j,C,aZ,I,cV,cX,cY,c2,cW,cZ,c0,c1,rfl⟩
 refine fx 0 cV (fx 4 cX (fx 6 cY (fx 8 c2 (fx 13 cW (fx 75 cZ (fx 76 c0 (fx 77 c1 (ag (fun _ bJ=>(p (lt U U) (az ((bJ _ _ (sq (fun _ bO=>cd U (fun cH=> ?_) (fun cH=> ?_))))))))))))))))
 refine aH (tn (bO _ _ (sq (fun _ ay=>aC (ag (fun _ bP=>(p (aQ Cx U U aa (aw.ok ((aJ (aE av I)).2) (bL aa))) (p (ld bq U (aw.h8 (aJ (aE av I)).2 (show (set.map aI)[j]? =some (aI (set.getD j 0)) by rw [List.getElem?_map,List.getD_eq_getElem?_getD,List.getElem?_eq_getElem (by omega :j < set.length)]; rfl))) ?_))))))))
 refine au (((bP _ _ (ag (fun _ bR=>(aj (a6 fb) (p mv (e (cl tw (uB B fb mc F V (set.getD j 0) a9 (aX.wk (aF.trans I)) aa) U fun dz dG cx=> ?_)))))))))
 obtain ⟨rfl,bg⟩:=cx
 have dv:=bg.size
 have dw:=I.size
 refine p mv (p (xt U U) (p (xt U U) (e (al nH fun c7 dB dc bi b3=>e (b8 lN U U U U (b3) (by simp) fun bw cp db=> ?_)))))
 have dn:=bi.size
 have am:Wk a7 bw:=(I.trans (bg.trans bi.md)).trans' cp (fun q c h=>by omega)
 refine au (((bR _ _ (ag (fun _ ba=>(p mv (p (no U) (p mv (gb (t:=89) U (fun a4=> ?_) (fun a4=> ?_))))))))))
 refine pg U U U (yT pS U) (pg U U U mv (eg U U U (cl Aj (Ba (some ⟨aT,0,none⟩) 5 [F.sp.getD 0 0,F.sp.getD 1 0,F.sp.getD 2 0,F.sp.getD 3 0,F.sp.getD 4 0] (set.getD j 0) bw (aw.dj (Wk.B ((an.trans (A.trans aV)).trans am) cL)) (by simp)) U fun dA dH cy=> ?_)))
 obtain ⟨rfl,aW⟩:=cy
 rw [G6 aX.gC] at*
 refine pg U U U (no U) (p (bE U) (az ((ba _ _ (cb U (fun a2=> ?_) (fun a2=> ?_))))))
 exact ag (fun _ bS=>(p (bU (ps:= []) (L:= [.string ⟨⟨[]⟩⟩,.slice none 0 0]) kn U (U)) (e (b8 jv U U U U (Wk.B (am.trans aW) a0) (by simp) fun dO cq b6=>au (((bS _ _ (rt (br (tr (tr (br (tr (ez U (dm (cs:= [str [],.slice none 0 0]) U fT U (fun j C=>b6.bI j)) dS (⟨.inr ⟨120,Ci J Z ap Y aa (by simpa using aq) ar (i:=j) aa (BS (by simpa using a4) (by simpa using a2)),ao,U⟩,(aF.trans (am.trans aW)).trans' cq (fun q c h=>by omega)⟩)))))))))))))))
 exact aH (bn (tn (ay _ _ (rg U (p (ad U U (bu aa)) (p mv (nl (tn (⟨_,aa,j+1,aa,((fun q c=>by rcases Nat.lt_or_ge q j with h | h <;> first | exact aZ q h | (rw [show q=j by omega]; exact uc (.inr (by simpa using a2))))),(am.trans aW),U,U,U,U,U,U,U,U,U⟩)))))))))
 exact sk U U U U (sk U U U U (sk U U U U (sk U U U U (p (bj U) (az ((ba _ _ (cf U (aH (bn (tn (ay _ _ (rg U (p (ad U U (bu aa)) (p mv (nl (tn (⟨_,aa,j+1,aa,((fun q c=>by rcases Nat.lt_or_ge q j with h | h <;> first | exact aZ q h | (rw [show q=j by omega]; exact uc (.inl (by simpa using a4))))),am,U,U,U,U,U,U,U,U,U⟩))))))))))))))))))
 exact ext (te _ (te _ (be (tn (aP _ _ (ag (fun _ ay=>(aj (str (a8 (r.getD 0 [])).1) (aj (.slice M set.length O) (p (bU (ps:= [(0,str (a8 (r.getD 0 [])).1),(1,.slice M set.length O)]) (L:= [str (a8 (r.getD 0 [])).1,.slice M set.length O]) kn U (U)) (e (b8 jv U U U U (Wk.B I a0) (by simp) fun dP bh b7=>au (((ay _ _ (rt (ez U (dm (cs:= [str (a8 (r.getD 0 [])).1,.slice M set.length O]) U fT U (fun j C=>b7.bI j)) dS (⟨.inl ⟨((a8 (r.getD 0 [])).1,set),.slice M set.length O,uu J Z ap Y aa (by simpa using aq) ar (fun j C=>aZ j aa),U,ga (bK (aE av I) bh (fun q c h=>by have :=(c4 av c).1; have :=A.size; omega)) (by have :=A.size; omega)⟩,(aF.trans I).trans' bh (fun q c h=>by omega)⟩))))))))))))))))))
end Go.Hb.kR
end
section
set_option maxRecDepth 20000
set_option maxHeartbeats 1000000
namespace Go.Hb.lE
open Go.Hb.c6
open Go.Proofs
open Go.Hb.ff Go.Hb.fP Go.Hb.gh Go.Hb.ji Go.Hb.kO Go.Hb.my Go.Hb.kr Go.Hb.iW Go.Hb.kP Go.Hb.gu Go.Hb.kt Go.Hb.kR Go.Hb.jZ Go.Hb.iG Go.Hb.nO Go.Hb.nL Go.Hb.gP Go.Hb.gG
theorem Di:qC Tryz.prog 87 3=some (81,3):=ab
def fW (q:bR×Value):List Value:= [str q.1.1,q.2]
def ik (l:List (bR×Value)):List Value:=l.flatMap fW
theorem Ce (l:List (bR×Value)) (q:bR×Value):ik (l++ [q])=ik l++fW q:=by simp [ik]
theorem Cf (l:List (bR×Value)):(ik l).length=l.length*2:=kD (f:=fW) (m:=2) (fun _=>rfl) l
theorem lu {w:World} {B e size n k:Nat} {v:Value} {xs:List Value} (h:World.ownsRow w B e size v n xs) (hk:v.ownBlock=some k) (i:∀ cur z,w.heap[k]?≠some (.cells cur e z)):False:=by
 rcases h.2 with ⟨rfl,rfl⟩ | ⟨g,cap,cur,rfl,_,c,_⟩
 · cases hk
 · have a:g=k:=by simpa [Value.ownBlock] using hk
   subst a
   exact i _ _ c
structure jl (w:World) (B:Nat) (f:Value→Option Value) (xs:List bR):Prop where
 own:∀ s:Tx,World.ownsRow w B 3 1 ((f (str s)).getD (Value.slice none 0 0)) (idxs s xs).length ((idxs s xs).map nM)
 nil:∀ s:Tx,idxs s xs= []→(f (str s)).getD (Value.slice none 0 0)=(Value.slice none 0 0)
theorem jl.md {G:Nat→Prop} {w w':World} {B:Nat} {f:Value→Option Value} {xs:List bR} (h:jl w B f xs) (hm:Md G w w') (a:∀ k,G k→∀ cur z,w.heap[k]?≠some (.cells cur 3 z)):jl w' B f xs:=by
 refine ⟨fun s=> ?_,h.nil⟩
 refine bK (h.own s) hm (fun k hk i=> ?_)
 exact lu (h.own s) hk (fun cur z c=>a k i cur z c)
theorem rF {w:World} {B p k n c:Nat} {v i:Value} {xs j:List Value} (h:World.ownsRow w B 3 1 v n xs) (C:World.ownsRow w p 3 1 i c j) (hk:v.ownBlock=some k) (G:i.ownBlock=some k) (hn:0 < n) (U:0 < c):xs[0]? =j[0]? :=by
 rcases h.2 with ⟨rfl,rfl⟩ | ⟨g,cap,cur,rfl,_,E,_,_,_,I⟩
 · omega
 · rcases C.2 with ⟨rfl,rfl⟩ | ⟨A,M,O,rfl,_,a,_,_,_,J⟩
   · omega
   · have q:g=k:=by simpa [Value.ownBlock] using hk
     have s:A=k:=by simpa [Value.ownBlock] using G
     subst q s
     rw [E] at a
     cases a
     rw [← I,← J,List.getElem?_take,List.getElem?_take,if_pos aa,if_pos aa]
theorem jl.sep {w:World} {B k:Nat} {f:Value→Option Value} {xs:List bR} {s t:Tx} (h:jl w B f xs) (C:s≠t) (hs:((f (str s)).getD (Value.slice none 0 0)).ownBlock=some k):((f (str t)).getD (Value.slice none 0 0)).ownBlock≠some k:=by
 intro a
 have p:idxs s xs≠[]:=fun e=>by rw [h.nil s e] at hs; cases hs
 have q:idxs t xs≠[]:=fun e=>by rw [h.nil t e] at a; cases a
 have he:=rF (h.own s) (h.own t) hs a (List.length_pos_iff.2 p) (List.length_pos_iff.2 q)
 cases h1:idxs s xs with
 | nil=>exact p h1
 | cons i l=>
   cases h2:idxs t xs with
   | nil=>exact q h2
   | cons j m=>
     rw [h1,h2] at he
     have A:i=j:=by have h:=he; simp only [List.map_cons,List.getElem?_cons_zero,Option.some.injEq,nM,Value.int.injEq,true_and] at h; omega
     subst A
     have m1:i∈idxs s xs:=by rw [h1]; simp
     have c:i∈idxs t xs:=by rw [h2]; simp
     unfold idxs at m1 c
     have E:=of_decide_eq_true (List.mem_filter.1 m1).2
     have G:=of_decide_eq_true (List.mem_filter.1 c).2
     exact C (E.symm.trans G)
theorem jl.put {w i E:World} {B C:Nat} {f:Value→Option Value} {xs:List bR} {x:bR} {v:Value} (h:jl w B f xs) (hm:Md (fun k=>((f (str x.1)).getD (Value.slice none 0 0)).ownBlock=some k) w i)
 (A:World.ownsRow i B 3 1 v (idxs x.1 xs++ [xs.length]).length ((idxs x.1 xs++ [xs.length]).map nM)) (q:∀ cur z,i.heap[C]?≠some (.cells cur 3 z)) (p:Md (fun k=>k=C) i E):jl E B (a9 f (str x.1) v) (xs++ [x]):=by
 refine ⟨fun s=> ?_,fun s hs=> ?_⟩
 · by_cases a:x.1=s
   · subst a
     rw [ni,qW,if_pos rfl]
     exact bK A p (fun k hk c=>lu A hk (fun cur z j=>q cur z (c ▸ j)))
   · rw [l8 (fun e=>a (str_inj.1 e).symm),qW,if_neg a,List.append_nil]
     have h1:=bK (h.own s) hm (fun k hk c=>h.sep a c hk)
     exact bK h1 p (fun k hk c=>lu h1 hk (fun cur z j=>q cur z (c ▸ j)))
 · rw [qW] at hs
   by_cases a:x.1=s
   · rw [if_pos a] at hs; simp at hs
   · rw [if_neg a,List.append_nil] at hs
     rw [l8 (fun e=>a (str_inj.1 e).symm)]; exact h.nil s hs
structure g9 (w:World) (B wb mb:Nat) (va:Value) (vs:List Value) (xs:List bR):Prop where
 cells:w.heap[wb]? =some (.cells [va,.map (some mb)].toArray 108 (0,0))
 own:World.ownsRow w B 56 2 va xs.length (ik (xs.zip vs))
 fl:bX w B 71 vs (xs.map (·.2))
 mp:∃ f,bz w.heap mb eQ f∧jl w B f xs
theorem g9.md {G:Nat→Prop} {w w':World} {B q i:Nat} {p:Value} {vs:List Value} {xs:List bR} (h:g9 w B q i p vs xs) (hm:Md G w w') {L:List Nat} (a:TF w L G) (j:(L.contains 110 || L.contains 58 || L.contains 73 || L.contains 5)=false) (C:¬G i):g9 w' B q i p vs xs:=by
 simp only [Bool.or_eq_false_iff] at j
 obtain ⟨⟨⟨h1,h2⟩,h3⟩,h4⟩:=j
 obtain ⟨f,s,A⟩:=h.mp
 exact ⟨hm.iK a h.cells h1,cJ h.own hm a h2,h.fl.md hm (fun k hk cur z c=>a.no (c5 c) h3 hk),⟨f,s.md hm C,A.md hm (fun k hk cur z c=>a.no (c5 c) h4 hk)⟩⟩
theorem g9.wk {w w':World} {B i a:Nat} {c:Value} {vs:List Value} {xs:List bR} (h:g9 w B i a c vs xs) (hm:Wk w w'):g9 w' B i a c vs xs:=h.md (L:= []) hm (fun _ hk=>hk.elim) rfl id
theorem B5 {F:aM} {t:Tx} {ln:Nat} {row:List Tx} {rows:List Rw} (h:¬65536 < t.length) (h1:bY t=(ln,row)::rows) (h2:(gV row).2≠0):∃ e:Nat,(gV row).2=(e:Int)∧ef F t= .error (ln,e):=by
 unfold gV at h2 ⊢
 by_cases a:row.length≠1
 · rw [if_pos a]; exact ⟨111,rfl,ud h h1 a⟩
 · rw [if_neg a] at h2 ⊢
   have h3:=oU (s:=row.getD 0 []) (most:=8192) h2
   exact ⟨13,h3.2,uf h h1 (Classical.not_not.1 a) h3.1⟩
theorem B6 {F:aM} {t:Tx} {ln:Nat} {row:List Tx} {rows:List Rw} (h:¬65536 < t.length) (h1:bY t=(ln,row)::rows) (h2:(gV row).2=0):∃ n:Nat,(gV row).1=n∧n≤8192∧ef F t=dw F ((a7 t).length+1) n rows:=by
 unfold gV at h2 ⊢
 by_cases a:row.length≠1
 · rw [if_pos a] at h2; cases h2
 · rw [if_neg a] at h2 ⊢
   exact ⟨_,U,by have :=oT (row.getD 0 []) 8192 h2; omega,ou h h1 (Classical.not_not.1 a) (oV h2)⟩
theorem xL {u:Tx} {a:Value} (h:a.oneCell'=true):[str u,a].all Value.oneCell'=true :=by rw [List.all_cons,List.all_cons,h]; rfl
def sj (l e:Nat):Value:= .agg [.int .i64 2,.int .i64 (l:Nat),.int .i64 (e:Nat)].toArray
def yn (w':World) (B0:Nat) (xs:List bR) (v:Value):Prop := ∃ B a c i vs,B0≤B∧v= .tuple #[.pointer (some ⟨a,0,none⟩),.agg [.int .i64 0,.int .i64 0,.int .i64 0].toArray]∧g9 w' B a c i vs xs∧B0≤a∧B0≤c
def ym (e:Nat×Nat) (v:Value):Prop :=v= .tuple #[.pointer none,sj e.1 e.2]
def hU (F:aM) (t:Tx) (w:World) (v:Value) (w':World):Prop :=(match ef F t with | .ok xs=>yn w' w.heap.size xs v | .error e=>ym e v)∧Wk w w'
theorem hU.no {F:aM} {t:Tx} {w w':World} {l e:Nat} (h:ef F t= .error (l,e)) (hm:Wk w w'):hU F t w (.tuple #[.pointer none,.agg [.int .i64 2,.int .i64 (l:Nat),.int .i64 (e:Nat)].toArray]) w':=by
 unfold hU; rw [h]; exact ⟨rfl,hm⟩
theorem Cb (t:Tx) (w:World):
 a3 Tryz.prog 11 (List.toArray [.pointer none,str t]) w (fun v w'=>v= .tuple #[.pointer none,sj 0 1]∧Wk w w'):=by
 refine enter Tryz.func11 U Tryz.ntmps11 U (ag (fun _ c=>(p aA (e (al gd fun O J V G C=>az ((c _ _ (sq (fun _ M=>sq (fun _ i=>rg U (aj (.pointer none) (p (jc ny U U) (az ((i _ _ (ct (U) (ag (fun _ s=>e (cl k6 (la 0 1 J) U fun aa ab I=> ?_)))))))))))))))))))
 obtain ⟨rfl,a⟩:=I
 exact p aA (e (b8 dW U U U U (a.B C) (by simp) fun ac E A=>az ((s _ _ (rt (tr (ez U dS (dm (cs:= [.int .i64 2,.int .i64 0,.int .i64 1]) U fG U (fun j Y=>A.bI j)) (⟨U,(G.md.trans a).trans' E (fun q Z h=>by omega)⟩))))))))
theorem lP (B fb mc:Nat) (F:aM) (V:dq) (t:Tx) (w:World) (cu:bQ w B fb mc F V) (dZ:∃ seen,gE F [] seen) (e5:Nx F) (hs:t.length≤1048576):
 a3 Tryz.prog 11 (List.toArray [a6 fb,str t]) w (hU F t w):=by
 refine enter Tryz.func11 U Tryz.ntmps11 U (ag (fun _ c9=>(p aA (e (fC gd fun bL fD fS cx co=> ?_)))))
 have cn:bl fD.heap bL [.int .i64 0,.int .i64 0,.int .i64 0]:=⟨_,co⟩
 refine az ((c9 _ _ (sq (fun _ dh=>ag (fun _ dn=>(aj (a6 fb) (p (jc ny U U) (nl (tn (dn _ _ (cf (U) (aH (tn (dh _ _ (ag (fun _ dr=>(aj (str t) (e (cl tp (xz t _ hs) U fun gw cc ej=> ?_)))))))))))))))))))
 obtain ⟨⟨fJ,rfl,cI⟩,hE22⟩:=ej
 have ct:=cx.md.trans hE22
 have gh:=cx.size
 refine p mv (p (xt U U) (p (xt U U) (p aA (au (((dr _ _ (sq (fun _ ds=>ag (fun _ dt=>(p mv (p (dF U U) (az ((dt _ _ (cd U (fun b5=> ?_) (fun b5=> ?_)))))))))))))))))
 have cF:65536 < t.length:=Classical.byContradiction fun h=>b5 (by rw [if_neg h])
 refine ag (fun _ bE=>(p mv (e (cl k6 (la 0 (if 65536 < t.length then 10 else 0) cc) U fun gx gM ek=> ?_))))
 obtain ⟨rfl,bN⟩:=ek
 have gc:=(hE22.trans bN).size
 refine p aA (e (b8 dW U U U U (Wk.B (hE22.trans bN) cn) (by simp) fun gZ ec dV=>az ((bE _ _ (rt (tr (ez U dS (dm (cs:= [.int .i64 2,.int .i64 0,.int .i64 (if 65536 < t.length then 10 else 0)]) U fG U (fun j an=>dV.bI j)) ?_)))))))
 have h:=hU.no (F:=F) (mR cF) ((ct.trans bN).trans' ec (fun q A h=>by omega))
 show hU F t w (.tuple #[.pointer none,.agg [.int .i64 2,.int .i64 0,.int .i64 (if 65536 < t.length then 10 else 0)].toArray]) _
 rw [if_pos cF]
 exact h
 have a8:¬65536 < t.length:=fun h=>b5 (by rw [if_pos h]; decide)
 rw [if_neg a8] at cI
 obtain ⟨c2,ci,rfl⟩:=cE cI
 have fZ:=kh t
 refine aH (tn (ds _ _ (ag (fun _ bE=>(aj (str t) (e (cl tk (xh t _ hs) U fun gy ar el=> ?_)))))))
 obtain ⟨⟨fK,rfl,cH⟩,hE31⟩:=el
 rw [if_neg a8] at cH
 obtain ⟨c6,bt,bv⟩:=cH
 obtain ⟨cg,ba,rfl⟩:=cE bt
 have ax:=ct.trans hE31
 have aW:=Wk.B (hE22.trans hE31) cn
 have ge:=(hE22.trans hE31).size
 have c0:=xg t
 refine p mv (p (xt U U) (p (xt U U) (p aA (au (((bE _ _ (sq (fun _ dv=>ag (fun _ dw=>(p mv (p (bo pD U U) (p (bp U U) (az ((dw _ _ (cd U (fun b6=> ?_) (fun b6=> ?_))))))))))))))))))
 have e4:bY t= []:=List.eq_nil_of_length_eq_zero aa
 refine ag (fun _ bw=>(p mv (p (bo ea U U) (p (bm (((a7 t).length+1:Nat):Int) U U (aU aa aa)) (e (cl k6 (la ((a7 t).length+1:Nat) 116 ar) U fun gz gN em=> ?_))))))
 obtain ⟨rfl,bO⟩:=em
 have gf:=bO.size
 exact p aA (e (b8 dW U U U U (Wk.B bO aW) (by simp) fun g0 ed dX=>az ((bw _ _ (rt (tr (ez U dS (dm (cs:= [.int .i64 2,ae ((a7 t).length+1),.int .i64 116]) U fG U (fun j an=>dX.bI j)) (hU.no (ue a8 e4) ((ax.trans bO).trans' ed (fun q A h=>by omega))))))))))
 obtain ⟨⟨c3,aR⟩,rest,O⟩:∃ q rest,bY t=q::rest:=by
  cases h:bY t with
  | nil=>rw [h] at b6; exact absurd rfl b6
  | cons q rest=>exact ⟨q,rest,rfl⟩
 have ca:=bv.1
 rw [O] at bt bv ca c0
 obtain ⟨⟨aP,fu⟩,rvs',rfl⟩:∃ q cb,c6=q::cb:=by
  cases c6 with
  | nil=>exact absurd ca (by simp)
  | cons q cb=>exact ⟨q,cb,rfl⟩
 obtain ⟨fe,cX⟩:=bv.2 0 (aP,fu) (c3,aR) rfl rfl
 obtain rfl :aP=c3:=fe
 obtain ⟨dA,dB,rfl⟩:=cX.slice
 have a1:=(aJ bt).2
 have eS:=(aJ bt).1
 have cM:∀ q∈(aP,aR)::rest,q.2.length≤70000∧∀ x∈q.2,x.length≤70000:=fun q A=>by
  have h:=o4 (show q∈bY t by rw [O]; exact A)
  exact ⟨aa,fun x fq=>by have :=(h.2.2.2.2 x fq).2; omega⟩
 have cL:=cM _ (List.mem_cons_self ..)
 simp only [List.length_cons] at ca c0 eS
 refine aH (tn (dv _ _ (ag (fun _ bw=>(p mv (p (aQ lS U U (by rw [O]; simp only [List.length_cons]; omega) (aw.ok (a1) (nn (by simp)))) (p (cC nV U (U) (np (i:=0) a1 U)) (e (cl zZ (B7 aP aR cc.heap.size dA dB ar cX cL.2 cL.1) U fun gC fB en=> ?_)))))))))
 obtain ⟨rfl,aF⟩:=en
 have gg:=aF.size
 refine p mv (p (xt U U) (p (xt U U) (p aA (au (((bw _ _ (sq (fun _ da=>ag (fun _ db=>(p mv (p (dF U U) (az ((db _ _ (cd U (fun cG=> ?_) (fun cG=> ?_)))))))))))))))))
 obtain ⟨fO,eV,b3⟩:=B5 (F:=F) a8 O cG
 refine ag (fun _ bx=>(p mv (p (aQ lS U U (by rw [O]; simp only [List.length_cons]; omega) (aw.ok (a1.wk aF) (nn (by simp)))) (p (fa oG U) (p (ld eu U (np (i:=0) (a1.wk aF) U 0 ao)) (p mv (e (cl k6 (la (aP:Nat) (gV aR).2 fB) U fun gD gO eo=> ?_))))))))
 obtain ⟨rfl,bP⟩:=eo
 have gi:=bP.size
 refine p aA (e (b8 dW U U U U (Wk.B (aF.trans bP) aW) (by simp) fun gT d7 dH=>az ((bx _ _ (rt (tr (ez U dS (dm (cs:= [.int .i64 2,ae aP,.int .i64 (gV aR).2]) U fG U (fun j an=>dH.bI j)) ?_)))))))
 have h:=hU.no b3 ((ax.trans (aF.trans bP)).trans' d7 (fun q A h=>by omega))
 show hU F t w (.tuple #[.pointer none,.agg [.int .i64 2,ae aP,.int .i64 (gV aR).2].toArray]) _
 rw [eV]
 exact h
 obtain ⟨n,cO,f0,b3⟩:=B6 (F:=F) a8 O (show (gV aR).2=0 by omega)
 have d6:=cu.wk (ax.trans aF)
 obtain ⟨seen,cp⟩:=dZ
 have fX:=cp.len
 refine aH (tn (da _ _ (ag (fun _ bx=>(e (na fun Y gP fU b1 dT=> ?_))))))
 have gj:=b1.size
 refine p (bU (ps:= [(1,.map (some Y))]) (L:= [.slice none 0 0,.map (some Y)]) Hf U (U)) (e (pU U fun C fE fV bi dU=> ?_))
 have gk:=bi.size
 have d3:=aF.trans (b1.md.trans bi.md)
 refine au (((bx _ _ (ag (fun _ dc=>(aj (a6 fb) (e (cl z0 (yA B fb mc F V fE (d6.wk (b1.md.trans bi.md)) aa e5) U fun gF gQ ep=> ?_))))))))
 obtain ⟨⟨fI,rfl,_⟩,hE60⟩:=ep
 have gm:=hE60.size
 refine p (CY Di sD U U) (e (al Im fun bH gI fQ bg dI=> ?_))
 have f4:=bg.size
 refine e (b8 BD U U U U (dI) (by simp) fun J bd dJ=> ?_)
 have d1:Wk ar J:=(d3.trans (hE60.trans bg.md)).trans' bd (fun q A h=>by omega)
 have f6:=bd.size
 have eL:J.heap[C]? =some (.cells [.slice none 0 0,.map (some Y)].toArray 108 (0,0)):=bd.aC (Wk.aC (hE60.trans bg.md) dU) (fun h=>by omega)
 have e1:bz J.heap Y eQ (fun _=>none):=bz.md (bz.wk (bz.nil dT) (bi.md.trans (hE60.trans bg.md))) bd (fun h=>by omega)
 have ey:g9 J J.heap.size C Y (.slice none 0 0) [] []:=⟨eL,World.ownsRow_nil _ _ _ _,bX.nil _ _ _,⟨_,e1,⟨fun s=>World.ownsRow_nil _ _ _ _,fun s _=>rfl⟩⟩⟩
 have eH:bl J.heap bH [aI (F.sp.getD 0 0),aI (F.sp.getD 1 0),aI (F.sp.getD 2 0),aI (F.sp.getD 3 0),aI (F.sp.getD 4 0)]:=dJ
 have cq:aw ar.heap (dz cg ba 1 2) (gB rvs'):=by
  have h:=a1.drop (cap:=ba) (k:=1) (size:=2) (by rw [rQ]; simp only [List.length_cons]; omega)
  exact h
 have eC:eU F ((a7 t).length+1) (ef F t) [] (n - 0) (rest.drop 0):=by rw [b3]; exact eU.start
 refine az ((dc _ _ (sq (fun _ dd=>ag (fun _ de=>(p mv (p (me lS U U (by rw [O]; simp only [List.length_cons]; omega)) (p (bo pD U U) (p mv (az ((de _ _ (aC (lp (fun ck ah av=> ∃ (i:Nat) (xs:List bR) (vs:List Value) (ay:Value),(i≤rest.length∧i≤n)∧(xs.length=i)∧(eU F ((a7 t).length+1) (ef F t) xs (n - i) (rest.drop i))∧(g9 av J.heap.size C Y ay vs xs)∧(Wk ar av)∧(bl av.heap bH [aI (F.sp.getD 0 0),aI (F.sp.getD 1 0),aI (F.sp.getD 2 0),aI (F.sp.getD 3 0),aI (F.sp.getD 4 0)])∧(J.heap.size≤av.heap.size)∧(ah 0=a6 fb)∧(ah 5=a6 bL)∧(ah 6= .slice c2 (a7 t).length ci)∧(ah 10=ae n)∧(ah 11=a6 C)∧(ah 12=a6 bH)∧(ah 63= .slice (dz cg ba 1 2) rest.length (ba - 1))∧(ah 64=ae (rest.length))∧(ah 65=ae i)∧(rest.length - i=ck)) _ ⟨0,[],[],.slice none 0 0,aa,U,eC,ey,d1,eH,(Nat.le_refl _),U,U,U,(by first | rfl | (rw [← cO]; rfl)),U,U,(by first | rfl | (rw [O]; rfl)),(by first | rfl | (rw [O]; rfl)),U,U⟩ ?_))))))))))))))
 rintro ck ah av ⟨i,xs,vs,ay,hi,c1,ai,aT,M,cB,gs,ff,fj,fk,fg,fh,fi,fm,fo,fp,rfl⟩
 refine fx 0 ff (fx 5 fj (fx 6 fk (fx 10 fg (fx 11 fh (fx 12 fi (fx 63 fm (fx 64 fo (fx 65 fp (ag (fun _ df=>(p (lt U U) (az ((df _ _ (sq (fun _ dg=>cd U (fun eO=> ?_) (fun eO=> ?_)))))))))))))))))
 refine aH (tn (dg _ _ (sq (fun _ bA=>aC (sq (fun _ bB=> ?_))))))
 obtain ⟨⟨ln,r⟩,hri⟩:∃ q,rest[i]? =some q:=⟨_,List.getElem?_eq_getElem aa⟩
 have eT:rest.drop i=(ln,r)::rest.drop (i+1):=by rw [List.drop_eq_getElem_cons aa]; rw [List.getElem?_eq_getElem aa] at hri; rw [Option.some.inj hri]
 obtain ⟨p,cZ⟩:∃ p,rvs'[i]? =some p:=⟨_,List.getElem?_eq_getElem aa⟩
 obtain ⟨dC,cA⟩:=bv.2 (i+1) p (ln,r) cZ hri
 obtain ⟨ft,gu⟩:=p
 obtain rfl :ln=ft:=dC.symm
 obtain ⟨a,c,rfl⟩:=cA.slice
 have cN:=cM (ln,r) (List.mem_cons_of_mem _ (List.mem_of_getElem? hri))
 rw [eT] at ai
 refine rg U (aj (ae i) (p (aQ lS U U aa (aw.ok (cq.wk M) (nn aa))) (p (cC nV U (U) (np (cq.wk M) cZ)) (e (al ye fun ch gK bk b0 dK=> ?_)))))
 have f7:=b0.size
 refine p (bG (ae i) U) (e (b8 tM U U U U (dK) (by simp) fun aY bZ dL=> ?_))
 have bb:Wk ar aY:=(M.trans b0.md).trans' bZ (fun q A h=>by omega)
 have cr:Wk av aY:=b0.md.trans' bZ (fun q A h=>by omega)
 have bk:bl aY.heap ch [ae ln,.slice a r.length c]:=dL
 have f9:=bZ.size
 refine az ((bB _ _ (sq (fun _ aZ=>ag (fun _ di=>(aj (ae i) (aj (ae n) (p (bp U U) (az ((di _ _ (cd U (fun eP=> ?_) (fun eP=> ?_)))))))))))))
 refine ag (fun _ bC=>(p (fa oG U) (p (ld eu U ((bk.aG 0).trans U)) (e (cl k6 (la (ln:Nat) 116 aY) U fun gG gR er=> ?_)))))
 obtain ⟨rfl,bS⟩:=er
 have gn:=bS.size
 refine p aA (e (b8 dW U U U U (Wk.B (bb.trans bS) aW) (by simp) fun gU d8 dM=>az ((bC _ _ (rt (tr (br (tr (tr (br (tr (ez U dS (dm (cs:= [.int .i64 2,ae ln,.int .i64 116]) U fG U (fun j an=>dM.bI j)) ?_))))))))))))
 rw [show n - i=0 by omega] at ai
 exact hU.no ai.more ((ax.trans (bb.trans bS)).trans' d8 (fun q A h=>by omega))
 refine aH (tn (aZ _ _ (ag (fun _ bC=>(aj (a6 fb) (p (cC sD U (U) (fun j an=>(Wk.B cr cB).bI j)) (p (cC nV U (U) (fun j an=>bk.bI j)) (e (cl z1 (BY B fb mc F V ln r cc.heap.size a c aY (cu.wk (ax.trans bb)) ⟨seen,cp⟩ (cA.wk bb) cN.2 cN.1) U fun fw fF es=> ?_)))))))))
 obtain ⟨d5,bT⟩:=es
 obtain ⟨dD,a0,cj,rfl,cW,cJ⟩:∃ (u:Tx) (a:Value) (e:Nat),fw= .tuple #[.agg [str u,a].toArray,ae e]∧a.oneCell'=true∧((e=0∧∃ l,du F r= .ok (u,l)∧World.ownsRow fF aY.heap.size 71 1 a l.length (l.map aI))∨(e≠0∧du F r= .error e)):=by
  rcases d5 with ⟨x,a,h1,h2,h3⟩ | ⟨e,h1,h2,h3⟩
  exact ⟨x.1,a,0,h2,dR h3,.inl ⟨U,x.2,h1,h3⟩⟩
  exact ⟨_,_,e,h3,U,.inr ⟨h2,h1⟩⟩
 have gp:=bT.size
 refine p mv (p (xt U U) (p (xt U U) (e (fC yg fun bJ gL fR bh cm=> ?_))))
 have f8:=bh.size
 refine e (fy jv U U U (xL cW) cm ao fun aq bf dN=> ?_)
 have aS:Wk av aq:=(cr.trans (bT.trans bh.md)).trans' bf (fun q A h=>by omega)
 have cD:aq.heap[bJ]? =some (.cells [str dD,a0].toArray 56 (0,0)):=dN
 have ga:=bf.size
 have eJ:bl aq.heap ch [ae ln,.slice a r.length c]:=bf.B (Wk.B (bT.trans bh.md) bk) (fun h=>by omega)
 refine au (((bC _ _ (sq (fun _ dk=>ag (fun _ dl=>(p mv (p (dF U U) (az ((dl _ _ (cd U (fun eR=> ?_) (fun eR=> ?_)))))))))))))
 obtain ⟨f1,hex⟩:=cJ.resolve_left (fun h=>by omega)
 refine ag (fun _ bD=>(p (fa oG U) (p (ld eu U ((eJ.aG 0).trans U)) (p mv (e (cl k6 (la (ln:Nat) (cj:Nat) aq) U fun gH gS et=> ?_))))))
 obtain ⟨rfl,bW⟩:=et
 have gq:=bW.size
 exact p aA (e (b8 dW U U U U (Wk.B (M.trans (aS.trans bW)) aW) (by simp) fun gW d9 dO=>az ((bD _ _ (rt (tr (br (tr (tr (br (tr (ez U dS (dm (cs:= [.int .i64 2,ae ln,ae cj]) U fG U (fun j an=>dO.bI j)) (hU.no (ai.bad aa hex) ((ax.trans (M.trans (aS.trans bW))).trans' d9 (fun q A h=>by omega)))))))))))))))
 obtain ⟨_,aO,hex,e8⟩:=cJ.resolve_right (fun h=>by omega)
 have bj:=aT.wk aS
 have e3:¬(ay.ownBlock=some C):=cT bj.own bj.cells ao
 have e2:¬(ay.ownBlock=some bJ):=fun h=>by have :=(c4 aT.own h).2; omega
 have gt:=aS.size
 refine aH (tn (dk _ _ (sq (fun _ bD=> ?_))))
 have aN:(fun w'=>Md (fun q=>ay.ownBlock=some q) aq w') aq.drew:=(Md.refl _ _).drew
 refine dy (fun w'=>Md (fun q=>ay.ownBlock=some q) aq w') 10 U wide aN (aV 0 U (a6 C) aN (aV 1 U (a6 C) aN (bc 2 U (fun _=>nc U) (fun _=>aN) (bc 3 U (fun _=>fa mY U) (fun _=>aN) (cY 4 U (fun w' G=>ld nW U (Md.aG G ((a4 bj.cells).trans U) e3)) aN (cY 5 U (fun w' G=>cC fT U (U) (fun j an=>bl.bI ⟨_,Md.aC G cD e2⟩ j)) aN (gA 6 U ab (j4 pf U U U fun fN fH fW eg dY=> ?_))))))))
 have aK:=fz eg.md
 have I:=bj.wk aK
 have gr:=aK.size
 have cy:(fun w'=>Md (fun q=>ay.ownBlock=some q) aq w') fH:=Md.mono aK (fun _ _ h=>h.elim)
 refine ⟨cy,?_⟩
 refine gA 7 U ab (ap pf (I.own) U aa U (aw.dj dY) (U) (xL cW) aa aa fun a9 ce cU ac fs fY=> ?_)
 obtain ⟨f,cK,eZ⟩:=I.mp
 have a2:=ac.aC I.cells (cT I.own I.cells ao)
 have cV:World.ownsRow ce J.heap.size 56 2 a9 (xs++ [(dD,aO)]).length (ik ((xs++ [(dD,aO)]).zip (vs++ [a0]))):=by
  have e0:xs.length=vs.length:=by have :=I.fl.1; rw [List.length_map] at this; omega
  rw [List.zip_append e0,List.zip_cons_cons,List.zip_nil_right,Ce,List.length_append]; exact cU
 have fs:=ac.size
 have eD:=ac.B (Wk.B (aS.trans aK) cB) (fun h=>by have :=(c4 I.own h).1; omega)
 have eK:=ac.aC (Wk.aC aK cD) (fun h=>by have :=(c4 aT.own h).2; omega)
 have d4:Wk ar ce:=(M.trans (aS.trans aK)).trans' ac (fun q A h=>by have :=(c4 I.own h).1; omega)
 have b2:(fun w'=>Md (fun q=>ay.ownBlock=some q) aq w') ce:=cy.trans' ac (fun _ _ h=>h)
 refine ⟨b2,?_⟩
 refine bc 8 U (fun _=>nc U) (fun _=>b2) (bc 9 U (fun _=>fa mY U) (fun _=>b2) (bV 10 U ab ab (dp Bz U U (v:=a9) (dR cU) a2 (by show _ < 2; omega) fun aD ak dE=> ?_)))
 have bq:aD.heap[C]? =some (.cells [a9,.map (some Y)].toArray 108 (0,0)):=dE
 have f2:=ak.size
 have d0:Wk ar aD:=d4.trans' ak (fun q A h=>by omega)
 have eE:=ak.B eD (fun h=>by omega)
 have b4:=ak.aC eK (fun h=>by omega)
 have cR:=bK cV ak (fun q A h=>cT cV a2 ao (h ▸ A))
 have ew:Tg aD J.heap.size 71 aO.length a0 (aO.map aI):=((((((Tg.gl e8).mono aa).wk bh.md).md bf (eG cm ao)).wk aK).md ac (e9 I.own ao)).md ak (eG a2 ao)
 have eW:=(((I.fl.md ac (e9 I.own ao)).md ak (eG a2 ao)).snoc ew)
 have b7:=(cK.md ac (fun h=>lu I.own h (fun cur z=>cK.ki))).md ak (fun h=>by omega)
 have bs:=(eZ.md ac (e9 I.own ao)).md ak (eG a2 ao)
 have b9:¬(((f (str dD)).getD (Value.slice none 0 0)).ownBlock=some C):=cT (bs.own dD) bq ao
 have cP:¬(((f (str dD)).getD (Value.slice none 0 0)).ownBlock=some bJ):=cT (bs.own dD) b4 ao
 have cQ:¬(((f (str dD)).getD (Value.slice none 0 0)).ownBlock=some Y):=fun h=>lu (bs.own dD) h (fun cur z=>b7.ki)
 refine dx ab (tn (bD _ _ ?_))
 have E:(fun w'=>Md (fun q=>((f (str dD)).getD (Value.slice none 0 0)).ownBlock=some q) aD w') aD.drew:=(Md.refl _ _).drew
 refine dy (fun w'=>Md (fun q=>((f (str dD)).getD (Value.slice none 0 0)).ownBlock=some q) aD w') 16 U wide E (lq 0 U ab (fun _ _=>aB (a6 C) U) E (lq 1 U ab (fun _ _=>nc U) E (lq 2 U ab (fun _ _=>fa uR U) E (lq 3 U ab (fun w' G=>ld sx U (Md.aG G ((a4 bq).trans U) b9)) E (lq 4 U ab (fun _ _=>fa lU U) E (lq 5 U ab (fun w' G=>ld bF U (Md.aG G ((a4 b4).trans U) cP)) E (lq 6 U ab (fun _ _=>aB (a6 C) U) E (lq 7 U ab (fun _ _=>nc U) E (lq 8 U ab (fun _ _=>fa uR U) E (lq 9 U ab (fun w' G=>ld sx U (Md.aG G ((a4 bq).trans U) b9)) E (lq 10 U ab (fun _ _=>fa lU U) E (lq 11 U ab (fun w' G=>ld bF U (Md.aG G ((a4 b4).trans U) cP)) E (lq 12 U ab (fun w' G=>jy xM It eI (bz.md (b7) G cQ) U U (⟨_,U⟩) (U)) E (lq 13 U ab (fun _ _=>aB (ae i) U) E (gA 14 U ab (eY pk U U fun fM fA fP ee dG=> ?_))))))))))))))))
 have Z:=fz ee.md
 have aX:=bs.md Z (fun _ hk=>hk.elim)
 have f3:=Z.size
 have cz:(fun w'=>Md (fun q=>((f (str dD)).getD (Value.slice none 0 0)).ownBlock=some q) aD w') fA:=Md.mono Z (fun _ _ h=>h.elim)
 refine ⟨cz,?_⟩
 refine gA 15 U ab (ap pk (aX.own dD) U aa U (aw.dj dG) (U) (U) (by have :=vt dD xs; omega) (by have :=vt dD xs; omega) fun fv c7 e6 am fr a5=> ?_)
 have fr:=am.size
 have a5:=(b7.wk Z).md am cQ
 have fc:World.ownsRow c7 J.heap.size 3 1 fv (idxs dD xs++ [xs.length]).length ((idxs dD xs++ [xs.length]).map nM):=by
  rw [List.length_append,List.map_append,c1]; exact e6
 have ev:(fun w'=>Md (fun q=>((f (str dD)).getD (Value.slice none 0 0)).ownBlock=some q) aD w') c7:=cz.trans' am (fun _ _ h=>h)
 refine ⟨ev,?_⟩
 refine bV 16 U ab ab (ml xM eI (a5) U U U (⟨_,U⟩) fun c8 aL eh=> ?_)
 have fd:=jl.put (x:=(dD,aO)) aX am fc (fun cur z=>a5.ki) aL
 have eN:=aL.aC (am.aC (Wk.aC Z bq) b9) (fun h=>by omega)
 have cS:=bK (aE cR Z) am (fun q A=>ir (aE cR Z) (aX.own dD) ao A)
 have e7:=bK cS aL (fun q A h=>lu cS A (fun cur z=>h ▸ a5.ki))
 have eX:=((eW.wk Z).md am (e9 (aX.own dD) ao)).md aL (fun k hk cur z h=>a5.ki (hk ▸ h))
 have eA:g9 c8 J.heap.size C Y a9 (vs++ [a0]) (xs++ [(dD,aO)]):=⟨eN,e7,by rw [List.map_append]; exact eX,⟨_,eh,fd⟩⟩
 have d2:Wk ar c8:=((d0.trans Z).trans' am (fun q A h=>by have :=(c4 (aX.own dD) h).1; omega)).trans' aL (fun q A h=>by omega)
 have eF:=aL.B (am.B (Wk.B Z eE) (fun h=>by have :=(c4 (aX.own dD) h).1; omega)) (fun h=>by omega)
 have gb:=aL.size
 exact dx ab (bn (tn (bA _ _ (rg U (p (ad U U (bu aa)) (p mv (az ((⟨_,aa,i+1,xs++ [(dD,aO)],vs++ [a0],a9,aa,((by rw [List.length_append,c1]; rfl)),((by rw [show n - (i+1)=n - i - 1 by omega]; exact ai.step aa hex)),eA,d2,eF,(aa),U,U,U,(by first | rfl | (rw [← cO]; rfl)),U,U,(by first | rfl | (rw [O]; rfl)),(by first | rfl | (rw [O]; rfl)),U,U⟩)))))))))
 refine ext (te _ (te _ (be (tn (dd _ _ (sq (fun _ bA=>sq (fun _ bB=> ?_))))))))
 obtain ⟨fL,cv,rfl⟩:=cE aT.own
 refine rg U (aj (a6 C) (p (nc U) (p (fa mY U) (p (ld nW U ((a4 aT.cells).trans U)) (p (bo jO U U) (aj (ae n) (p (lt U U) (az ((bB _ _ (cd U (fun eM=> ?_) (fun eM=> ?_))))))))))))
 refine ag (fun _ aZ=>(aj (.slice c2 (a7 t).length ci) (p (bo ea U U) (p (bm (((a7 t).length+1:Nat):Int) U U (aU aa aa)) (e (cl k6 (la ((a7 t).length+1:Nat) 116 av) U fun gv gJ ei=> ?_))))))
 obtain ⟨rfl,bM⟩:=ei
 have f5:=bM.size
 refine p aA (e (b8 dW U U U U (Wk.B (M.trans bM) aW) (by simp) fun gX eb dP=>az ((aZ _ _ (rt (tr (ez U dS (dm (cs:= [.int .i64 2,ae ((a7 t).length+1),.int .i64 116]) U fG U (fun j an=>dP.bI j)) ?_)))))))
 rw [List.drop_eq_nil_of_le aa] at ai
 exact hU.no (ai.ends aa) ((ax.trans (M.trans bM)).trans' eb (fun q A h=>by omega))
 refine aH (tn (bA _ _ (ag (fun _ aZ=>(aj (a6 C) (p (bU (ps:= []) (L:= [.int .i64 0,.int .i64 0,.int .i64 0]) iU U (U)) (p (bG (a6 C) U) (e (b8 dW U U U U (Wk.B M aW) (by simp) fun gY cw dQ=>az ((aZ _ _ (rt (ez U dS (dm (cs:= [.int .i64 0,.int .i64 0,.int .i64 0]) U fG U (fun j an=>dQ.bI j)) ?_)))))))))))))
 rw [List.drop_eq_nil_of_le aa,show n - i=0 by omega] at ai
 have eB:=ai.done
 have ex:TF av [27] (fun q=>q=bL):=TF.eq (c5 (Wk.aC (hE22.trans (hE31.trans M)) co)) ao
 unfold hU
 rw [eB]
 exact ⟨⟨J.heap.size,C,Y,_,vs,aa,U,aT.md cw ex ao (fun h=>by omega),aa,aa⟩,(ax.trans M).trans' cw (fun q A h=>by omega)⟩
end Go.Hb.lE
end
section
set_option maxRecDepth 20000
set_option maxHeartbeats 1000000
namespace Go.Hb.nK
open Go.Hb.c6
open Go.Proofs
open Go.Hb.ff Go.Hb.fP Go.Hb.gh Go.Hb.kr Go.Hb.iW Go.Hb.gu Go.Hb.kt Go.Hb.kR Go.Hb.lE
theorem If {α:Type} {f:α×Value→List Value} {m c i:Nat} (p:∀ q,(f q).length=m) (s:c < m) (hs:∀ a u v,(f (a,u)).set c v=f (a,v)) {rs:List α} {vs:List Value} {v:Value} (hi:i < rs.length) (G:i < vs.length):((rs.zip vs).flatMap f).set (i*m+c) v=(rs.zip (vs.set i v)).flatMap f:=by
 obtain ⟨r,E⟩:∃ r,rs[i]? =some r:=⟨_,List.getElem?_eq_getElem hi⟩
 obtain ⟨u,hu⟩:∃ u,vs[i]? =some u:=⟨_,List.getElem?_eq_getElem G⟩
 have I:(rs.zip vs)[i]? =some (r,u):=List.getElem?_zip_eq_some.2 ⟨E,hu⟩
 have O:rs.zip (vs.set i v)=(rs.zip vs).set i (r,v):=by
  apply List.ext_getElem?
  intro j
  rw [List.getElem?_set]
  by_cases A:i=j
  · subst A
    rw [if_pos rfl,if_pos (List.getElem?_eq_some_iff.1 I).1]
    exact List.getElem?_zip_eq_some.2 ⟨E,by simp [G]⟩
  · rw [if_neg A]
    cases h1:(rs.zip vs)[j]? with
    | none=>
      rw [List.getElem?_eq_none_iff,List.length_zip] at h1 ⊢
      rw [List.length_set]; exact h1
    | some q=>
      have h2:=List.getElem?_zip_eq_some.1 h1
      exact List.getElem?_zip_eq_some.2 ⟨h2.1,by rw [List.getElem?_set,if_neg A]; exact h2.2⟩
 have U:(rs.zip vs).length=min rs.length vs.length:=List.length_zip
 have C:((rs.zip vs).flatMap f).length=(rs.zip vs).length*m:=kD p _
 have hle:i*m+m≤(rs.zip vs).length*m:=by rw [← Nat.succ_mul]; exact Nat.mul_le_mul_right _ aa
 rw [O,uP p _ aa]
 apply List.ext_getElem?
 intro j
 have J:=fun c s=>qE p (c:=c) I s
 have M:(((rs.zip vs).flatMap f).take (i*m)).length=i*m:=by rw [List.length_take,C]; omega
 rw [List.getElem?_set]
 by_cases h1:j < i*m
 · rw [if_neg aa,List.append_assoc,List.getElem?_append_left aa,List.getElem?_take,if_pos h1]
 · rw [List.append_assoc,List.getElem?_append_right aa,M]
   by_cases h2:j < i*m+m
   · rw [List.getElem?_append_left (by rw [p]; omega)]
     obtain ⟨d,rfl⟩:∃ d,j=i*m+d:=⟨j - i*m,aa⟩
     rw [J d aa,show i*m+d - i*m=d by omega,← hs r u v,List.getElem?_set]
     by_cases h3:c=d
     · subst h3; rw [if_pos rfl,if_pos rfl,if_pos (by rw [C]; omega),if_pos (by rw [p]; exact s)]
     · rw [if_neg aa,if_neg h3]
   · rw [if_neg aa,List.getElem?_append_right (by rw [p]; omega),p,List.getElem?_drop]
     congr 1; omega
theorem Cl {xs:List bR} {vs:List Value} {i:Nat} {v:Value} (hi:i < xs.length) (a:i < vs.length):(ik (xs.zip vs)).set (i*2 +1) v=ik (xs.zip (vs.set i v)):=If (f:=fW) (m:=2) (c:=1) (fun _=>rfl) ao (fun _ _ _=>rfl) hi a
theorem gS {l:List (bR×Value)} {i:Nat} {q:bR×Value} (h:l[i]? =some q):ik l≠[]:=fun h2=>by
 have h3:=Cf l
 have h4:=(List.getElem?_eq_some_iff.1 h).1
 rw [h2] at h3
 have h5:0=l.length*2:=h3
 omega
theorem Ck {w:World} {B e:Nat} {xs:List bR} {vs:List Value} {ls:List (List Nat)} (h:bX w B e vs ls):(ik (xs.zip vs)).all Value.oneCell'=true :=by
 rw [List.all_eq_true]
 intro v a
 obtain ⟨q,c,a⟩:=List.mem_flatMap.1 a
 have h1:=List.all_eq_true.1 (pR h) q.2 (List.of_mem_zip c).2
 simp only [fW,List.mem_cons,List.not_mem_nil,or_false] at a
 rcases a with rfl | rfl
 · rfl
 · exact h1
def jW (w:World) (B:Nat) (vs:List Value) (ls:List (List Nat)):Prop :=vs.length=ls.length∧∀ (i:Nat) v l,vs[i]? =some v→ls[i]? =some l→World.ownsRow w B 71 1 v l.length (l.map aI)
theorem jW.t {w:World} {B:Nat} {vs:List Value} {ls:List (List Nat)} (h:jW w B vs ls):bX w B 71 vs ls:=⟨h.1,fun i v l h1 h2=>Tg.gl (h.2 i v l h1 h2)⟩
theorem sJ {G:Nat→Prop} {w w':World} {B:Nat} {vs:List Value} {ls:List (List Nat)} (h:jW w B vs ls) (hm:Md G w w') (a:∀ k,G k→∀ cur z,w.heap[k]?≠some (.cells cur 71 z)):jW w' B vs ls:=⟨h.1,fun i v l h1 h2=>bK (h.2 i v l h1 h2) hm (fun k hk c=>lu (h.2 i v l h1 h2) hk (a k c))⟩
theorem yK (w:World) (B:Nat):jW w B [] []:=⟨rfl,fun i v l a=>by simp at a⟩
theorem yJ {w:World} {B i:Nat} {vs:List Value} {ls:List (List Nat)} {v:Value} (h:jW w B (vs.take i) (ls.take i)) (hi:i < ls.length) (q:i < vs.length) (p:World.ownsRow w B 71 1 v (ls.getD i []).length ((ls.getD i []).map aI)):jW w B ((vs.set i v).take (i+1)) (ls.take (i+1)):=by
 refine ⟨by simp; have :=h.1; simp at this; omega,fun j u l h1 h2=> ?_⟩
 rw [List.getElem?_take] at h1 h2
 by_cases a:j < i+1
 · rw [if_pos a] at h1 h2
   rw [List.getElem?_set] at h1
   by_cases c:i=j
   · subst c
     rw [if_pos rfl,if_pos q] at h1
     cases h1
     rw [show ls.getD i []=l by rw [List.getD_eq_getElem?_getD,h2]; rfl] at p
     exact p
   · rw [if_neg c] at h1
     exact h.2 j u l (by rw [List.getElem?_take,if_pos aa]; exact h1) (by rw [List.getElem?_take,if_pos aa]; exact h2)
 · rw [if_neg a] at h1; cases h1
theorem B9 (B i E:Nat) (G:Value) (vs:List Value) (xs:List bR) (w:World) (j:g9 w B i E G vs xs) (I:xs.length≤70000):
 a3 Tryz.prog 17 (List.toArray [a6 i]) w (fun v w'=>v=ae (xs.length)∧Wk w w'):=by
 obtain ⟨a,c,rfl⟩:=cE j.own
 exact enter Tryz.func17 U Tryz.ntmps17 U (ag (fun _ q=>(au (((q _ _ (sq (fun _ s=>ag (fun _ A=>aj (a6 i) (p (jc nz U U) (az ((A _ _ (cf (U) (aH (tn (s _ _ (sq (fun _ C=>rg U (aj (a6 i) (p (nc U) (p (fa mY U) (p (ld nW U ((a4 j.cells).trans U)) (p (bo jO U U) (p aA (nl (tn (C _ _ (rt (f1 U U (⟨U,Md.refl _ _⟩)))))))))))))))))))))))))))))))
theorem mQ (B I aZ:Nat) (am:Value) (vs:List Value) (xs:List bR) (w:World) (C:g9 w B I aZ am vs xs) (a2:xs.length≤70000) (aN:∀ x∈xs,x.2.length≤64):
 a3 Tryz.prog 16 (List.toArray [a6 I]) w (fun v w'=>(∃ vs,World.ownsRow w' w.heap.size 56 2 v xs.length (ik (xs.zip vs))∧bX w' w.heap.size 71 vs (xs.map (·.2))∧jW w' w.heap.size vs (xs.map (·.2)))∧Wk w w'):=by
 refine enter Tryz.func16 U Tryz.ntmps16 U (ag (fun _ an=>(au (((an _ _ (sq (fun _ aq=>ag (fun _ ar=>aj (a6 I) (p (jc nz U U) (az ((ar _ _ (cf (U) (aH (tn (aq _ _ (sq (fun _ av=>rg U (aj (a6 I) (p (nc U) (p (fa mY U) (p (ld nW U ((a4 C.cells).trans U)) (e (cl z4 (AK am xs.length (ik (xs.zip vs)) w (Rd.gl C.own) (Ck C.fl) aa) U fun v11 a8 aG=> ?_)))))))))))))))))))))))))
 obtain ⟨ai,aD⟩:=aG
 obtain ⟨s,fH,rfl⟩:=cE ai
 have aV:vs.length=xs.length:=by have :=C.fl.1; rwa [List.length_map] at this
 refine au (((av _ _ (sq (fun _ ax=>ag (fun _ ay=>(p mv (p (bo jO U U) (p mv (az ((ay _ _ (aC (lp (fun ah J A=> ∃ (i:Nat) (sa:List Value),(i≤xs.length)∧(sa.length=xs.length)∧(sa.drop i=vs.drop i)∧(jW A w.heap.size (sa.take i) ((xs.map (·.2)).take i))∧(World.ownsRow A w.heap.size 56 2 (.slice s xs.length fH) xs.length (ik (xs.zip sa)))∧(Wk w A)∧(J 3= .slice s xs.length fH)∧(J 13=ae (xs.length))∧(J 14=ae i)∧(xs.length - i=ah)) _ ⟨0,vs,aa,aV,U,(yK _ _),ai,aD,U,U,U,U⟩ ?_))))))))))))))
 rintro ah J A ⟨i,sa,hi,aU,al,G,c,E,aT,aR,aS,rfl⟩
 refine fx 3 aT (fx 13 aR (fx 14 aS (ag (fun _ aA=>(p (lt U U) (az ((aA _ _ (sq (fun _ aB=>cd U (fun aM=> ?_) (fun aM=> ?_)))))))))))
 refine aH (tn (aB _ _ (sq (fun _ M=>aC (sq (fun _ ap=> ?_))))))
 obtain ⟨a7,aW,V⟩:=bX.get (C.wk E).fl (show i < (xs.map (·.2)).length by rw [List.length_map]; omega)
 obtain ⟨ac,ci,rfl⟩:=V.slice
 obtain ⟨x,ab⟩:∃ x,xs[i]? =some x:=⟨_,List.getElem?_eq_getElem aa⟩
 have aY:(xs.map (·.2)).getD i []=x.2:=by rw [List.getD_eq_getElem?_getD,List.getElem?_map,ab]; rfl
 have aX:=aN x (List.mem_of_getElem? ab)
 rw [← aY] at aX
 have Z:(xs.zip sa)[i]? =some (x,.slice ac ((xs.map (·.2)).getD i []).length ci):=List.getElem?_zip_eq_some.2 ⟨ab,(qt al).trans aW⟩
 refine rg U (aj (ae i) (p (bG (ae i) U) (az ((ap _ _ (rg U (aj (.slice s xs.length fH) (aj (ae i) (aj (.slice s xs.length fH) (aj (ae i) (p (aQ gT U U aa (aw.ok ((aJ c).2) (gS Z))) (p (fa ka U) (p (ld iJ U (fX (f:=fW) (m:=2) (fun _=>rfl) (aJ c).2 Z 1 ao)) (e (cl n8 (oc ac ((xs.map (·.2)).getD i []).length ci (((xs.map (·.2)).getD i []).map aI) A V.bN.2 (by simp) (fun h=>Tg.oS V (by simp) h) (nZ _) aa) U fun a0 a9 aK=> ?_)))))))))))))))
 obtain ⟨Y,a⟩:=aK
 have a5:=a.size
 refine p (aQ gT U U aa (aw.ok ((aJ (aE c a)).2) (gS Z))) (p (fa ka U) (e (kM (j:=i*2 +1) (aE c a) om U U (dR Y) (by rw [Int.toNat_natCast]; omega) aa fun a1 O ak=> ?_)))
 rw [Cl aa aa] at ak
 have aF:Wk w a1:=Wk.own (E.trans a) (aE c a) O aa
 have aO:=bK (ga Y (show w.heap.size≤A.heap.size from E.size)) O (fun q aP=>ir Y (aE c a) ao aP)
 have aL:=sJ (sJ G a (fun _ hk=>hk.elim)) O (e9 (aE c a) ao)
 exact nl (bn (tn (M _ _ (rg U (p (ad U U (bu aa)) (p mv (nl (tn (⟨_,aa,i+1,sa.set i a0,aa,((by rw [List.length_set]; exact aU)),(kt.set_drop al),(yJ aL (by rw [List.length_map]; omega) aa aO),ak,aF,U,U,U,U⟩)))))))))
 refine ext (te _ (te _ (be (tn (ax _ _ (ag (fun _ M=>(aj (.slice s xs.length fH) (p (bG (.slice s xs.length fH) U) (az ((M _ _ (rt (f1 U U ?_))))))))))))))
 rw [List.take_of_length_le aa,List.take_of_length_le (by rw [List.length_map]; omega)] at G
 exact ⟨⟨sa,c,G.t,G⟩,E⟩
end Go.Hb.nK
end
section
set_option maxRecDepth 20000
set_option maxHeartbeats 1000000
namespace Go.Hb.pN
open Go.Proofs
open Go.Hb.ff Go.Hb.fP Go.Hb.jV Go.Hb.gh Go.Hb.ji Go.Hb.kO Go.Hb.my
structure yp where
 rb:Nat
 fb:Nat
 eof:Nat
 vr:Value
 vs:List (Nat×Value)
 rows:List Rw
section
variable {w w':World} {B k ln:Nat} {H:yp} {seen:List Tx} {vh:Value}
end
end Go.Hb.pN
end
section
set_option maxRecDepth 20000
set_option maxHeartbeats 1000000
namespace Go.Hb.sw
open Go.Hb.c6
open Go.Proofs
open Go.Hb.gP
theorem vd {α:Type} {l:List α} {i:Nat} {d:α} (h:i < l.length):l.getD i d∈l:=by
 rw [List.getD_eq_getElem?_getD,List.getElem?_eq_getElem h]; exact List.getElem_mem h
theorem GA (s:List UInt8) (w:World) (hs:s.length≤1048576):
 a3 Tryz.prog 40 (List.toArray [str s]) w (fun v w'=>World.ownsRow w' w.heap.size 9 1 (v) ((a7 s)).length (((a7 s)).map str)∧Wk w w'):=by
 refine enter Tryz.func40 U Tryz.ntmps40 U (ag (fun _ aT=>(au (((aT _ _ ?_))))))
 refine dA (fun aS aR=>(Wk w aR)∧(aS 0=str (gq s))) ?_ ?_
 refine ag (fun _ ah=>(aj (str s) (e (cl zV (ET s _) U fun b4 ca bh=> ?_))))
 obtain ⟨rfl,aL⟩:=bh
 refine az ((ah _ _ (cb U (fun V=> ?_) (fun V=> ?_))))
 have bW:=ES V
 exact rg U (aj (str s) (p (km u9 U U aa) (au (((⟨aL,by show str (s.drop 3)=_; rw [HR V]⟩))))))
 exact aH (tn (⟨aL,by show str s=_; rw [xV V]⟩))
 rintro aS aR ⟨aD,bv⟩
 refine fx 0 bv ?_
 have bY:=pG s
 refine ag (fun _ ah=>(au (((ah _ _ (ag (fun _ aU=>(e (jq gp fun ax aP bM bd a0=> ?_)))))))))
 have bs:World.ownsRow aP w.heap.size 5 1 (.slice (some ⟨ax,0,none⟩) 0 0) (([]:List UInt8)).length (U8 (([]:List UInt8))):=a0 _ (by have :=aD.size; omega)
 have a6:Wk w aP:=Md.trans aD bd.md
 refine au (((aU _ _ (ag (fun _ aV=>(au (((aV _ _ (sq (fun _ aW=>ag (fun _ aX=>(au (((aX _ _ (aC (lp (fun aB C Z=> ∃ (i:Nat) (c:List (List UInt8)) (a:List UInt8) (ob:Bool) (q Y:Value),(i≤(gq s).length)∧(c++cI a ((gq s).drop i)=a7 s)∧(ob=decide (a≠[]))∧(a.length≤i)∧(Wk w Z)∧(World.ownsRow Z w.heap.size 9 1 (q) (c).length ((c).map str))∧(World.ownsRow Z w.heap.size 5 1 (Y) (a).length (U8 (a)))∧(C 0=str (gq s))∧(C 3=q)∧(C 4=Y)∧(C 5= .bool ob)∧(C 6= .int .i64 i)∧((gq s).length - i=aB)) _ ⟨0,[],[],false,.slice none 0 0,.slice (some ⟨ax,0,none⟩) 0 0,aa,U,U,((by simp)),a6,(World.ownsRow_nil _ _ _ _),bs,U,U,U,U,U,U⟩ ?_))))))))))))))))))
 rintro aB C Z ⟨i,c,a,ob,q,Y,hi,hd,aO,bR,M,A,j,bw,bx,bz,bA,bB,rfl⟩
 refine fx 0 bw (fx 3 bx (fx 4 bz (fx 5 bA (fx 6 bB ?_))))
 have bS:c.length≤s.length+1:=by have h1:=congrArg List.length hd; have h2:=kh s; rw [List.length_append] at h1; omega
 have bX:=M.size
 refine sq (fun _ aY=>ag (fun _ aZ=>(aj (.int .i64 i) (aj (str (gq s)) (p (cA u9 U U) (p (lt U U) (nl (tn (aZ _ _ (cd U (fun bj=> ?_) (fun bj=> ?_)))))))))))
 refine aH (tn (aY _ _ (sq (fun _ G=>aC (sq (fun _ ab=>ag (fun _ E=>(aj (str (gq s)) (aj (.int .i64 i) (p (e7 u9 U U aa) (p (dF U U) (az ((E _ _ (cd U (fun an=> ?_) (fun an=> ?_))))))))))))))))
 refine ag (fun _ ac=>(aj (Y) (aj (str (gq s)) (aj (.int .i64 i) (p (e7 u9 U U aa) (e (eY gp U U fun bI bE bN O a1=> ?_)))))))
 have aF:Wk w bE:=Md.trans M O.md
 refine e (ap gp (aE j O.md) U (by have :=aF.size; omega) U (aw.dj a1) (U) (U) aa aa fun bC b5 bk aM bZ bT=> ?_)
 have a8:=Wk.own aF (aE j O.md) aM (Nat.le_refl _)
 have bl:=oY bk
 have br:=bK (aE A O.md) aM (fun k hk=>ir A j ao hk)
 exact au (((ac _ _ (ag (fun _ ae=>(au (((ae _ _ (ext (te _ (be (tn (G _ _ (rg U (aj (.int .i64 i) (p (ad U U (bu aa)) (p aA (az ((⟨_,aa,i+1,c,a++ [(gq s).getD i 0],true,q,bC,aa,((by rw [drop_cons 0 aa,oQ (Fo an)] at hd; exact hd)),((by simp)),((by rw [List.length_append,List.length_singleton]; omega)),a8,br,bl,U,U,U,U,U,U⟩)))))))))))))))))))))
 have bi:=D2 (Decidable.of_not_not an)
 obtain ⟨I,J,rfl⟩:=cE j
 refine aH (tn (ab _ _ (ag (fun _ ac=>(aj (q) (aj (.slice I a.length J) (e (cl tA (um a I J _ (aJ j).2 aa (aJ j).1) U fun v30 b6 bf=> ?_))))))))
 obtain ⟨rfl,ai⟩:=bf
 refine e (eY dC U U fun bJ bF bO al a2=> ?_)
 have aG:Wk w bF:=Md.trans (Md.trans M ai) al.md
 refine e (ap dC (aE (aE A ai) al.md) U (by have :=aG.size; omega) U (aw.dj a2) (U) (U) aa aa fun bD b7 bm bb b0 bU=> ?_)
 have aI:=Wk.own aG (aE (aE A ai) al.md) bb (Nat.le_refl _)
 have bo:=jJ bm
 refine au (((ac _ _ (ag (fun _ ae=>(e (jq gp fun ay aQ bP aN a4=> ?_)))))))
 have a9:Wk w aQ:=Md.trans aI aN.md
 have bt:World.ownsRow aQ w.heap.size 5 1 (.slice (some ⟨ay,0,none⟩) 0 0) (([]:List UInt8)).length (U8 (([]:List UInt8))):=a4 _ (by have :=aI.size; omega)
 exact au (((ae _ _ (rg U (p aA (nl (bn (tn (G _ _ (rg U (aj (.int .i64 i) (p (ad U U (bu aa)) (au (((⟨_,aa,i+1,c++ [ew a],[],false,bD,.slice (some ⟨ay,0,none⟩) 0 0,aa,((by rw [drop_cons 0 aa,bi,ri] at hd; rw [List.append_assoc]; exact hd)),U,((by simp)),a9,(aE bo aN.md),bt,U,U,U,U,U,U⟩))))))))))))))))
 refine ext (te _ (te _ (be (tn (aW _ _ (sq (fun _ G=>ag (fun _ ab=>aj (.bool ob) (az ((ab _ _ (cb U (fun aq=> ?_) (fun aq=> ?_)))))))))))))
 have av:a≠[]:=by have :=aO.symm.trans aq; exact of_decide_eq_true this
 obtain ⟨I,J,rfl⟩:=cE j
 refine rg U (aj (q) (aj (.slice I a.length J) (e (cl tA (um a I J _ (aJ j).2 aa (aJ j).1) U fun b2 b8 bg=> ?_))))
 obtain ⟨rfl,ak⟩:=bg
 refine e (eY dC U U fun bL bH bQ am a5=> ?_)
 have aK:Wk w bH:=Md.trans (Md.trans M ak) am.md
 refine e (ap dC (aE (aE A ak) am.md) U (by have :=aK.size; omega) U (aw.dj a5) (U) (U) aa aa fun b3 b9 bp bc b1 bV=> ?_)
 have ba:=Wk.own aK (aE (aE A ak) am.md) bc (Nat.le_refl _)
 have bq:=jJ bp
 refine au (((G _ _ (ag (fun _ E=>(p mv (p aA (nl (tn (E _ _ (rt (f1 U U ?_))))))))))))
 have ar:c++ [ew a]=a7 s:=by rw [← hd,show List.drop i (gq s)= [] from List.drop_eq_nil_of_le aa,vS av]
 exact ⟨by rw [← ar]; exact bq,ba⟩
 have av:a= []:=Decidable.of_not_not (of_decide_eq_false (aO.symm.trans aq))
 refine aH (tn (G _ _ (ag (fun _ E=>(aj (q) (p (bG (q) U) (az ((E _ _ (rt (f1 U U ?_)))))))))))
 have ar:c=a7 s:=by rw [← hd,show List.drop i (gq s)= [] from List.drop_eq_nil_of_le aa,av,oR,List.append_nil]
 exact ⟨by rw [← ar]; exact A,M⟩
set_option maxHeartbeats 1000000 in
theorem rM (s:List UInt8) (w:World) (hs:s.length≤1048576):
 a3 Tryz.prog 18 (List.toArray [str s]) w (fun v w'=>(∃ a,v= .tuple #[a,.int .i64 (if 65536 < s.length then 10 else 0)]∧(if 65536 < s.length then a= .slice none 0 0 else ∃ vs,World.ownsRow w' w.heap.size 50 2 a (bY s).length (gB vs)∧ec w' w.heap.size 9 vs (bY s)))∧Wk w w'):=by
 refine enter Tryz.func18 U Tryz.ntmps18 U (ag (fun _ ba=>(p aA (au (((ba _ _ (sq (fun _ bh=>sq (fun _ bi=>rg U (aj (str s) (p (cA u9 U U) (p (gt U U) (az ((bi _ _ (cd U (fun bB=> ?_) (fun bB=> ?_))))))))))))))))))
 refine ag (fun _ aN=>(p aA (au (((aN _ _ (rt (tr (f2 U U U ?_)))))))))
 have ar:65536 < s.length:=aa
 exact ⟨⟨.slice none 0 0,by show Value.tuple #[.slice none 0 0,.int .i64 10]=_; rw [if_pos ar],by rw [if_pos ar]⟩,Md.refl _ _⟩
 refine aH (tn (bh _ _ (ag (fun _ aN=>(au (((aN _ _ (sq (fun _ bk=>rg U (aj (str s) (e (cl z3 (GA s _ hs) U fun ci ai bx=> ?_)))))))))))))
 obtain ⟨a8,aS⟩:=bx
 obtain ⟨ay,aF,rfl⟩:=cE a8
 have a5:=(aJ a8).2
 have cc:=kh s
 refine au (((bk _ _ (sq (fun _ bp=>ag (fun _ bq=>(p aA (nl (tn (bq _ _ (aC (lp (fun al aM aL=> ∃ (i:Nat) (J:Value) (vs:List (Nat×Value)),(i≤(a7 s).length)∧(Wk ai aL)∧(World.ownsRow aL ai.heap.size 50 2 J (fN 1 ((a7 s).take i)).length (gB vs))∧(ec aL ai.heap.size 9 vs (fN 1 ((a7 s).take i)))∧(aM 4=J)∧(aM 5= .slice ay (a7 s).length aF)∧(aM 6= .int .i64 i)∧((a7 s).length - i=al)) _ ⟨0,.slice none 0 0,[],aa,(Md.refl _ _),(World.ownsRow_nil _ _ _ _),(ec.nil _ _ _),U,U,U,U⟩ ?_))))))))))))
 rintro al aM aL ⟨i,J,vs,hi,an,I,ah,bQ,bR,bS,rfl⟩
 refine fx 4 bQ (fx 5 bR (fx 6 bS ?_))
 have bP:=rL ((a7 s).take i) 1
 rw [List.length_take] at bP
 have ce:=an.size
 refine sq (fun _ br=>sq (fun _ bs=> ?_))
 have cb:((a7 s).getD i []).length≤s.length:=by rcases Nat.lt_or_ge i (a7 s).length with h | h <;> first | exact rf (vd h) | (rw [List.getD_eq_getElem?_getD,List.getElem?_eq_none h]; exact Nat.zero_le _)
 refine rg U (aj (.int .i64 i) (aj (.slice ay (a7 s).length aF) (p (bo ea U U) (p (lt U U) (az ((bs _ _ (cd U (fun bC=> ?_) (fun bC=> ?_)))))))))
 refine aH (tn (br _ _ (sq (fun _ ab=>aC (ag (fun _ bb=>(p aA (nl (tn (bb _ _ (ag (fun _ bc=>(aj (.slice ay (a7 s).length aF) (aj (.int .i64 i) (p (aQ bT U U aa (aw.ok (a5.wk an) (bL aa))) (p (ld bF U (bM.get (i:=i) (a5.wk an) aa)) (e (cl z5 (Gx ((a7 s).getD i []) _ aa) U fun cj aK bz=> ?_))))))))))))))))))
 obtain ⟨a9,C⟩:=bz
 obtain ⟨ax,aD,rfl⟩:=cE a9
 have aG:=(aJ a9).2
 have ac:Wk ai aK:=Md.trans an C
 have b9:=mW ((a7 s).getD i []) []
 refine au (((bc _ _ (sq (fun _ a1=>ag (fun _ bd=>(p aA (nl (tn (bd _ _ (aC (lp (fun al Z a0=> ∃ (j:Nat) (aI:Value),(j≤(bg [] ((a7 s).getD i [])).length)∧(∀ q,q < j→kJ ((bg [] ((a7 s).getD i [])).getD q [])=false)∧(Wk aK a0)∧(World.ownsRow a0 aK.heap.size 9 1 (aI) (((bg [] ((a7 s).getD i [])).take j)).length ((((bg [] ((a7 s).getD i [])).take j)).map str))∧(Z 4=J)∧(Z 5= .slice ay (a7 s).length aF)∧(Z 6= .int .i64 i)∧(Z 7=aI)∧(Z 8= .slice ax (bg [] ((a7 s).getD i [])).length aD)∧(Z 9= .int .i64 j)∧((bg [] ((a7 s).getD i [])).length - j=al)) _ ⟨0,.slice none 0 0,aa,((fun q bO=>by omega)),(Md.refl _ _),(World.ownsRow_nil _ _ _ _),U,U,U,U,U,U,U⟩ ?_))))))))))))
 rintro al Z a0 ⟨j,aI,a6,aX,c,O,bV,bW,bX,bZ,b0,b1,rfl⟩
 refine fx 4 bV (fx 5 bW (fx 6 bX (fx 7 bZ (fx 8 b0 (fx 9 b1 ?_)))))
 have ca:((bg [] ((a7 s).getD i [])).take j).length≤j:=by rw [List.length_take]; omega
 have cg:=c.size
 refine sq (fun _ bf=>ag (fun _ a2=>(aj (.int .i64 j) (aj (.slice ax (bg [] ((a7 s).getD i [])).length aD) (p (bo ea U U) (p (lt U U) (p mv (gs (t:=30) U (fun bI=> ?_) (fun bI=> ?_)))))))))
 refine pg U U U (aB (.slice ax (bg [] ((a7 s).getD i [])).length aD) U) (pg U U U (aB (.int .i64 j) U) (pg U U U (aQ bT U U aa (aw.ok (aG.wk c) (bL aa))) (pg U U U (ld bF U (bM.get (i:=j) (aG.wk c) aa)) (pg U U U (gJ 0 u9 U U (List.length_pos_iff.2 (oE _ _ _ (vd aa)).1)) (pg U U U (dF U U) (p (bE U) (nl (tn (a2 _ _ (cd U (fun bD=> ?_) (fun bD=> ?_)))))))))))
 refine aH (tn (bf _ _ (sq (fun _ ak=>aC (rg U (aj (aI) (aj (.slice ax (bg [] ((a7 s).getD i [])).length aD) (aj (.int .i64 j) (p (aQ bT U U aa (aw.ok (aG.wk c) (bL aa))) (p (ld bF U (bM.get (i:=j) (aG.wk c) aa)) (e (eY dC U U fun b6 b4 b7 aV bt=> ?_))))))))))))
 have a4:Wk aK b4:=Md.trans c aV.md
 refine e (ap dC (aE O aV.md) U (by have :=a4.size; omega) U (aw.dj bt) (U) (U) aa aa fun b3 ck bJ bw ch b8=> ?_)
 have bv:=Wk.own a4 (aE O aV.md) bw (Nat.le_refl _)
 have bN:=jJ bJ
 exact p aA (nl (bn (tn (ak _ _ (rg U (aj (.int .i64 j) (p (ad U U (bu aa)) (p aA (az ((⟨_,aa,j+1,b3,aa,((fun q bO=>by rcases Nat.lt_or_ge q j with h | h <;> first | exact aX q h | (rw [show q=j by omega]; exact decide_eq_false aa))),bv,((by rw [eT _ j [] aa]; exact bN)),U,U,U,U,U,U,U⟩)))))))))))
 have aq:gL (bg [] ((a7 s).getD i []))=((bg [] ((a7 s).getD i [])).take j):=oN a6 aX (.inr (decide_eq_true aa))
 obtain ⟨E,G,rfl⟩:=cE O
 refine ext (te _ (te _ (be (tn (a1 _ _ (ag (fun _ ak=>(p (aB (.slice E ((bg [] ((a7 s).getD i [])).take j).length G) U) (p (bo ea U U) (p (gt U U) (az ((ak _ _ (cd U (fun Y=> ?_) (fun Y=> ?_)))))))))))))))
 have M:fM ((a7 s).getD i []) (1 +i)= [(i+1,((bg [] ((a7 s).getD i [])).take j))]:=by unfold fM; rw [aq,if_neg (fun h=>by rw [h] at Y; simp at Y),Nat.add_comm]
 refine rg U (aj (J) (aj (.int .i64 i) (p (bm ((i+1:Nat):Int) U U (aU aa aa)) (p (aB (.slice E ((bg [] ((a7 s).getD i [])).take j).length G) U) (p (bU (ps:= [(0,ae (i+1)),(1,.slice E ((bg [] ((a7 s).getD i [])).take j).length G)]) (L:= [ae (i+1),.slice E ((bg [] ((a7 s).getD i [])).take j).length G]) xB U (U)) (e (j4 ph U U U fun aO av bA A aP=> ?_)))))))
 have aR:bl av.heap aO [ae (i+1),.slice E ((bg [] ((a7 s).getD i [])).take j).length G]:=aP
 have am:Wk ai av:=Md.trans ac (Md.trans c A.md)
 refine e (ap ph (aE (aE (aE I C) c) A.md) U (by have :=am.size; omega) U (aw.dj aR) (U) (U) aa aa fun aZ b5 aW V b2 bH=> ?_)
 have aT:=Wk.own am (aE (aE (aE I C) c) A.md) V (Nat.le_refl _)
 have aY:=((((ah.wk C).wk c).wk A.md).md V (e9 (aE (aE (aE I C) c) A.md) ao)).snoc (n:=i+1) (Tg.gl (ga (bK (aE O A.md) V (fun k hk=>ir (aE O A.md) (aE (aE (aE I C) c) A.md) ao hk)) (by have :=Md.size ac; omega)))
 exact p aA (nl (bn (tn (ab _ _ (rg U (aj (.int .i64 i) (p (ad U U (bu aa)) (p aA (az ((⟨_,aa,i+1,aZ,vs++ [(i+1,.slice E ((bg [] ((a7 s).getD i [])).take j).length G)],aa,aT,((by rw [eT _ i [] aa,iS,show ((a7 s).take i).length=i from by rw [List.length_take]; omega,M,List.length_append,rP]; exact aW)),((by rw [eT _ i [] aa,iS,show ((a7 s).take i).length=i from by rw [List.length_take]; omega,M]; exact aY)),U,U,U,U⟩)))))))))))
 have M:∀ n,fM ((a7 s).getD i []) n= []:=fun n=>by unfold fM; rw [aq,if_pos (List.length_eq_zero_iff.1 aa)]
 exact aH (bn (tn (ab _ _ (rg U (aj (.int .i64 i) (p (ad U U (bu aa)) (p aA (nl (tn (⟨_,aa,i+1,J,vs,aa,(Md.trans ac c),((by rw [eT _ i [] aa,iS,M,List.append_nil]; exact aE (aE I C) c)),((by rw [eT _ i [] aa,iS,M,List.append_nil]; exact (ah.wk C).wk c)),U,U,U,U⟩))))))))))
 have aq:gL (bg [] ((a7 s).getD i []))=((bg [] ((a7 s).getD i [])).take j):=oN a6 aX (.inl aa)
 obtain ⟨E,G,rfl⟩:=cE O
 refine sk U U U U (sk U U U U (sk U U U U (sk U U U U (sk U U U U (sk U U U U (p (bj U) (nl (tn (a2 _ _ (cf U (ext (te _ (te _ (be (tn (a1 _ _ (sq (fun _ ak=>rg U (p (aB (.slice E ((bg [] ((a7 s).getD i [])).take j).length G) U) (p (bo ea U U) (p (gt U U) (az ((ak _ _ (cd U (fun Y=> ?_) (fun Y=> ?_))))))))))))))))))))))))))
 have M:fM ((a7 s).getD i []) (1 +i)= [(i+1,((bg [] ((a7 s).getD i [])).take j))]:=by unfold fM; rw [aq,if_neg (fun h=>by rw [h] at Y; simp at Y),Nat.add_comm]
 refine rg U (aj (J) (aj (.int .i64 i) (p (bm ((i+1:Nat):Int) U U (aU aa aa)) (p (aB (.slice E ((bg [] ((a7 s).getD i [])).take j).length G) U) (p (bU (ps:= [(0,ae (i+1)),(1,.slice E ((bg [] ((a7 s).getD i [])).take j).length G)]) (L:= [ae (i+1),.slice E ((bg [] ((a7 s).getD i [])).take j).length G]) xB U (U)) (e (j4 ph U U U fun aO av bA A aP=> ?_)))))))
 have aR:bl av.heap aO [ae (i+1),.slice E ((bg [] ((a7 s).getD i [])).take j).length G]:=aP
 have am:Wk ai av:=Md.trans ac (Md.trans c A.md)
 refine e (ap ph (aE (aE (aE I C) c) A.md) U (by have :=am.size; omega) U (aw.dj aR) (U) (U) aa aa fun aZ b5 aW V b2 bH=> ?_)
 have aT:=Wk.own am (aE (aE (aE I C) c) A.md) V (Nat.le_refl _)
 have aY:=((((ah.wk C).wk c).wk A.md).md V (e9 (aE (aE (aE I C) c) A.md) ao)).snoc (n:=i+1) (Tg.gl (ga (bK (aE O A.md) V (fun k hk=>ir (aE O A.md) (aE (aE (aE I C) c) A.md) ao hk)) (by have :=Md.size ac; omega)))
 exact p aA (nl (bn (tn (ab _ _ (rg U (aj (.int .i64 i) (p (ad U U (bu aa)) (p aA (az ((⟨_,aa,i+1,aZ,vs++ [(i+1,.slice E ((bg [] ((a7 s).getD i [])).take j).length G)],aa,aT,((by rw [eT _ i [] aa,iS,show ((a7 s).take i).length=i from by rw [List.length_take]; omega,M,List.length_append,rP]; exact aW)),((by rw [eT _ i [] aa,iS,show ((a7 s).take i).length=i from by rw [List.length_take]; omega,M]; exact aY)),U,U,U,U⟩)))))))))))
 have M:∀ n,fM ((a7 s).getD i []) n= []:=fun n=>by unfold fM; rw [aq,if_pos (List.length_eq_zero_iff.1 aa)]
 exact aH (bn (tn (ab _ _ (rg U (aj (.int .i64 i) (p (ad U U (bu aa)) (p aA (nl (tn (⟨_,aa,i+1,J,vs,aa,(Md.trans ac c),((by rw [eT _ i [] aa,iS,M,List.append_nil]; exact aE (aE I C) c)),((by rw [eT _ i [] aa,iS,M,List.append_nil]; exact (ah.wk C).wk c)),U,U,U,U⟩))))))))))
 refine ext (te _ (te _ (be (tn (bp _ _ (ag (fun _ ab=>(aj (J) (p (bG (J) U) (au (((ab _ _ (rt (f2 U U U ?_)))))))))))))))
 have ar:¬65536 < s.length:=aa
 rw [show (a7 s).take i=a7 s from List.take_of_length_le aa] at I ah
 exact ⟨⟨J,by show Value.tuple #[J,.int .i64 0]=_; rw [if_neg ar],by rw [if_neg ar]; exact ⟨vs,ga I aS.size,ah.mono aS.size⟩⟩,Md.trans aS an⟩
end Go.Hb.sw
end
section
set_option maxRecDepth 20000
set_option maxHeartbeats 1000000
namespace Go.Hb.nJ
open Go.Proofs
open Go.Hb.gh Go.Hb.ji Go.Hb.iW Go.Hb.kP
def Ny (F:aM):Prop := ∀ l∈F.aliases,∀ x∈l,x < 65536
theorem u6 {kind:Nat} {s:Tx} {l:List Nat} (h:iO kind s= .ok l):∀ x∈l,x < 65536:=by
 unfold iO at h
 split at h
 · cases h
 · cases h
   intro x a
   unfold dH at a
   repeat' split at a
   all_goals first
    | (cases a; done)
    | (rw [wo] at a
       obtain ⟨y,_,rfl⟩:=List.mem_map.1 a
       exact CP _ _)
theorem yE {kind ln:Nat} {row:List Tx} {l:List Nat} (h:iY kind ln row= .ok l):∀ x∈l,x < 65536:=by
 unfold iY at h
 split at h
 · cases h
 · exact u6 h
theorem CW {kind:Nat} {al:List (List Nat)} {s:Tx} {l:List Nat} (a:∀ l∈al,∀ x∈l,x < 65536) (h:eh kind al s= .ok l):∀ x∈l,x < 65536:=by
 unfold eh at h
 split at h
 · exact u6 h
 · split at h
   · cases h
   · split at h
     · cases h
     · cases h
       rename_i n _ _
       rw [List.getD_eq_getElem?_getD]
       cases hg:al[n - 1]? with
       | none=>simp
       | some y=>exact a y (List.mem_of_getElem? hg)
theorem DH {eof ln:Nat} {F F':aM} {hs:List Tx} {rows rows':List Rw} {row:List Tx} (h:Ny F) (a:bB eof F hs rows ln row= .ok (F',rows')):Ny F':=by
 unfold bB at a
 repeat' split at a
 · unfold gD at a; repeat' split at a
   all_goals first | (cases a; done) | (cases a; exact h)
 · unfold gY at a; repeat' split at a
   all_goals first | (cases a; done) | (cases a; exact h)
 · unfold jL at a; repeat' split at a
   all_goals first | (cases a; done) | (cases a; exact h)
 · unfold jM at a; repeat' split at a
   all_goals first | (cases a; done) | (cases a; exact h)
 · unfold g5 at a; repeat' split at a
   all_goals first | (cases a; done) | (cases a; exact h)
 · unfold g6 at a; repeat' split at a
   all_goals first | (cases a; done) | (cases a; exact h)
 · unfold gH at a
   split at a
   · cases a
   · split at a
     · cases a
     · split at a
       · cases a
       · rename_i r i
         cases a
         intro l c
         rcases List.mem_append.1 c with c | c
         · exact h l c
         · obtain ⟨_,_,h2⟩:=qS _ _ _ i l c
           exact yE h2
 · unfold eZ at a; repeat' split at a
   all_goals first | (cases a; done) | (cases a; exact h)
theorem Gh {eof:Nat} :∀ (k:Nat) (F F':aM) (hs:List Tx) (rows:List Rw),Ny F→eJ eof k F hs rows= .ok F'→Ny F':=by
 intro k
 induction k with
 | zero=>intro F F' hs rows h a; rw [eJ] at a; split at a <;> cases a; exact h
 | succ k i=>
   intro F F' hs rows h a
   cases rows with
   | nil=>rw [rK] at a; cases a; exact h
   | cons q rows=>
     rw [eJ] at a
     split at a
     · cases a
     · split at a
       · cases a
       · split at a
         · cases a
         · split at a
           · cases a
           · rename_i r c
             exact i _ _ _ _ (DH (rows':=r.2) h c) a
theorem nU {s:Tx} {F:aM} (h:eM s= .ok F):Ny F:=by
 unfold eM at h
 split at h
 · cases h
 · split at h
   · cases h
   · rename_i f a
     split at h
     · cases h
     · cases h
       exact Gh _ _ _ _ _ (fun l c=>by cases c) a
def lF (x:bR):Prop :=x.1.length≤64∧x.2.length≤64∧(∀ y∈x.2,y < 65536)
theorem qw {F:aM} {row:List Tx} {x:bR} (h1:Nx F) (h2:Ny F) (h:du F row= .ok x):lF x:=by
 unfold du at h
 split at h
 · cases h
 · split at h
   · cases h
   · split at h
     · cases h
     · split at h
       · cases h
       · split at h
         · cases h; exact ⟨by simp only; omega,by simp,fun y c=>by cases c⟩
         · split at h
           · cases h
           · rename_i a
             split at h
             · cases h
               exact ⟨by simp only; omega,qD h1.1 a,CW h2 a⟩
             · cases h
theorem Co {F:aM} {eof:Nat} (h1:Nx F) (h2:Ny F):∀ {n:Nat} {rows:List Rw} {r:List bR},dw F eof n rows= .ok r→∀ x∈r,lF x:=by
 intro n
 induction n with
 | zero=>
   intro rows r h
   cases rows with
   | nil=>rw [dw] at h; cases h; intro x a; cases a
   | cons q rows=>rw [dw] at h; cases h
 | succ n i=>
   intro rows r h
   cases rows with
   | nil=>rw [dw] at h; cases h
   | cons q rows=>
     rw [dw] at h
     split at h
     · cases h
     · rename_i he
       split at h
       · cases h
       · rename_i c
         cases h
         intro x a
         rcases List.mem_cons.1 a with rfl | a
         · exact qw h1 h2 he
         · exact i c x a
theorem ot {F:aM} {t:Tx} {xs:List bR} (h1:Nx F) (h2:Ny F) (h:ef F t= .ok xs):(∀ x∈xs,lF x)∧xs.length≤8192:=by
 unfold ef at h
 split at h
 · cases h
 · split at h
   · cases h
   · split at h
     · cases h
     · split at h
       · cases h
       · rename_i hn
         refine ⟨Co h1 h2 h,?_⟩
         have c:=(uw h).1
         unfold cR at hn
         split at hn
         · cases hn
         · cases hn
           rename_i a
           have :=oT _ 8192 (Classical.not_not.1 a)
           omega
end Go.Hb.nJ
end
section
set_option maxRecDepth 20000
set_option maxHeartbeats 1000000
namespace Go.Hb.nI
open Go.Hb.c6
open Go.Proofs
open Go.Hb.ff Go.Hb.fP Go.Hb.gh Go.Hb.kr Go.Hb.iW Go.Hb.kP Go.Hb.gu Go.Hb.kt Go.Hb.kR Go.Hb.lE Go.Hb.nK Go.Hb.nJ Go.Hb.pN
theorem Cq (a b c i j p:Int) (w:World):(binOp .eql 25 (.agg [.int .i64 a,.int .i64 b,.int .i64 c].toArray) (.agg [.int .i64 i,.int .i64 j,.int .i64 p].toArray)).run Tryz.prog w= .ok (.bool (decide (a=i∧b=j∧c=p))) w:=by
 have s:=Tryz.underlying3
 have A:=Tryz.underlying3
 have u3:=Tryz.underlying23
 have q:Tryz.prog.underlying 25=some (.struct (Tryz.prog.fieldsOf 25)):=ab
 have hp:Tryz.prog.stoodInHeld 25=false :=ab
 rw [run_eql_struct,show (10000:Nat)=9999 +1 from rfl,run_equalIn_agg w 9999 25 _ _ q hp]
 simp only [Program.fieldsOf,Tryz.underlying25]
 go_simp
 by_cases h1:a=i <;> by_cases h2:b=j <;> by_cases h3:c=p <;> simp [h1,h2,h3]
section
variable {N:Fm} {σ:Nat→Value} {w:World} {dst:Option Nat} {ty:TypeId} {pos :String} {af:Array Edge} {g:Option (Nat×Bool)} {x y:Operand}
theorem lr {E:TypeId} {a b c i j p:Int} (A:ev N σ x= .agg [.int .i64 a,.int .i64 b,.int .i64 c].toArray) (C:ev N σ y= .agg [.int .i64 i,.int .i64 j,.int .i64 p].toArray):
 (execOp (ev N σ) ⟨dst,.binOp .neq 25 x y E,ty,pos,af,g⟩).run Tryz.prog w= .ok (.value (.bool (decide (¬(a=i∧b=j∧c=p))))) w:=by
 have hm:Tryz.prog.eqGuardType Tryz.prog.depth 25=false :=ab
 have s:=run_eqGuard_agg w .neq 25 x y [.int .i64 a,.int .i64 b,.int .i64 c].toArray [.int .i64 i,.int .i64 j,.int .i64 p].toArray hm
 have he:(binOp .neq 25 (.agg [.int .i64 a,.int .i64 b,.int .i64 c].toArray) (.agg [.int .i64 i,.int .i64 j,.int .i64 p].toArray)).run Tryz.prog w= .ok (.bool (decide (¬(a=i∧b=j∧c=p)))) w:=by
  have h:=Cq a b c i j p w
  simp only [binOp,Sem.run_bind] at h ⊢
  generalize ((Op.equal 25 (.agg [.int .i64 a,.int .i64 b,.int .i64 c].toArray) (.agg [.int .i64 i,.int .i64 j,.int .i64 p].toArray)).run Tryz.prog w)=r at h ⊢
  cases r with
  | ok q G=>
    simp only [Result.andThen_ok,Sem.run_pure,Result.ok.injEq,Value.bool.injEq] at h ⊢
    rw [h.1]
    exact ⟨(decide_not).symm,h.2⟩
  | halt q G=>simp [Result.andThen] at h
 simp only [execOp,A,C,Sem.run_bind,s,he,Result.andThen_ok,Sem.run_pure]
end
end Go.Hb.nI
end
section
set_option maxRecDepth 20000
set_option maxHeartbeats 1000000
namespace Go.Hb.si
open Go.Hb.c6
open Go.Proofs
open Go.Hb.ff Go.Hb.fP Go.Hb.gh Go.Hb.gu Go.Hb.kR Go.Hb.lE Go.Hb.nI
theorem vF (ls:List Tx) (i:Nat):(dB (ls.take i)).length≤(dB ls).length:=by
 have h:=congrArg List.length (vE (ls.take i) (ls.drop i))
 rw [List.take_append_drop,List.length_append] at h; omega
theorem oM {ls:List Tx} {i:Nat} (h:i < ls.length):dB (ls.take (i+1))=dB (ls.take i)++(ls.getD i []++ [13,10]):=by
 rw [eT ls i [] h,vE]; simp [dB]
theorem rev_succ {l:Tx} {k:Nat} (h:k < l.length):l.reverse.take (k+1)=l.reverse.take k++ [l.getD (l.length - 1 - k) 0]:=by
 rw [eT _ k 0 (by simpa using h)]
 congr 2
 rw [List.getD_eq_getElem?_getD,List.getD_eq_getElem?_getD,List.getElem?_reverse h]
theorem BR (n:Nat) (w:World) (hn:n≤1048576):
 a3 Tryz.prog 20 (List.toArray [ae n]) w (fun v w'=>v=str (fV n)∧Wk w w'):=by
 refine enter Tryz.func20 U Tryz.ntmps20 U (ag (fun _ ar=>(au (((ar _ _ (sq (fun _ aD=>ag (fun _ aF=>aj (ae n) (p (bp U U) (az ((aF _ _ (cd U (fun a2=> ?_) (fun a2=> ?_)))))))))))))))
 obtain rfl :n=0:=aa
 exact ag (fun _ V=>(au (((V _ _ (rt (tr (f1 U U (⟨U,Md.refl _ _⟩)))))))))
 refine aH (tn (aD _ _ (ag (fun _ V=>(e (jq gp fun ak bk bs aY aO=> ?_))))))
 have ba:World.ownsRow bk w.heap.size 5 1 (.slice (some ⟨ak,0,none⟩) 0 0) (([]:Tx)).length (U8 (([]:Tx))):=aO _ aa
 refine au (((V _ _ (ag (fun _ aG=>(aj (ae n) (p (bG (ae n) U) (nl (tn (aG _ _ (sq (fun _ aI=>aC (lp (fun c E a=> ∃ (m:Nat) (l:Tx) (A:Value),(m≤n)∧(l++cV m m=(cV n n))∧(World.ownsRow a w.heap.size 5 1 (A) (l).length (U8 (l)))∧(Wk w a)∧(E 0=ae n)∧(E 3=A)∧(E 4=ae m)∧(m=c)) _ ⟨n,[],.slice (some ⟨ak,0,none⟩) 0 0,(Nat.le_refl _),U,ba,aY.md,U,U,U,U⟩ ?_)))))))))))))
 rintro c E a ⟨m,l,A,hm,j,q,ac,bb,bc,bd,rfl⟩
 refine fx 0 bb (fx 3 bc (fx 4 bd ?_))
 have bA:=tX n n
 have bD:l.length≤n:=by have h:=congrArg List.length j; rw [List.length_append] at h; omega
 have bE:=ac.size
 refine sq (fun _ aK=>ag (fun _ aL=>(aj (ae m) (p (dF U U) (az ((aL _ _ (cd U (fun a0=> ?_) (fun a0=> ?_)))))))))
 refine aH (tn (aK _ _ (aC (ag (fun _ Y=>(aj (ae m) (p (rm U U aa) (p aA (az ((Y _ _ (sq (fun _ I=>ag (fun _ J=>(p mv (p (lt U U) (nl (tn (J _ _ (cd U (fun h=>absurd h aa) (fun bx=>aH (tn (I _ _ (ag (fun _ M=>(aj (A) (p mv (p (bm ((48 +m % 10:Nat):Int) U U (aU aa aa)) (p (jb u5 lz U (HN (48 +m % 10))) (e (eY gp U U fun bq bK bt ad aP=> ?_)))))))))))))))))))))))))))))))
 have an:=ac.trans ad.md
 refine e (ap gp (aE q ad.md) U (by have :=an.size; omega) U (aw.dj aP) (U) (U) aa aa fun bi bL a6 aW bI bB=> ?_)
 have aT:=Wk.own an (aE q ad.md) aW (Nat.le_refl _)
 have a7:=oY (x:=UInt8.ofNat (48 +m % 10)) a6
 exact au (((M _ _ (rg U (aj (ae m) (p (kj ((m / 10:Nat):Int) U U aa (aU aa aa)) (p aA (nl (bn (tn (⟨_,Nat.div_lt_self aa ao,m / 10,l++ [UInt8.ofNat (48 +m % 10)],bi,aa,((by rw [← j,mM (m:=m) aa,List.append_assoc]; rfl)),a7,aT,U,U,U,U⟩)))))))))))
 refine ext (te _ (te _ (be (tn (aI _ _ (ag (fun _ Y=>(e (jq gp fun al bl bv aZ aR=> ?_)))))))))
 obtain rfl :m=0:=aa
 rw [tY,List.append_nil] at j
 subst j
 obtain ⟨Z,ab,rfl⟩:=cE q
 have am:=(aJ q).2
 have a5:World.ownsRow bl a.heap.size 5 1 (.slice (some ⟨al,0,none⟩) 0 0) (([]:Tx)).length (U8 (([]:Tx))):=aR _ aa
 refine au (((Y _ _ (sq (fun _ I=>ag (fun _ J=>(aj (ae n) (p (lt U U) (az ((J _ _ (cd U (fun h=>absurd h aa) (fun bz=>aH (tn (I _ _ (sq (fun _ M=>ag (fun _ av=>(aj (.slice Z (cV n n).length ab) (p (bo jN U U) (p (sb U U (bu aa)) (au (((av _ _ (aC (lp (fun c G ai=> ∃ (k:Nat) (C:Value),(k≤(cV n n).length)∧(World.ownsRow ai a.heap.size 5 1 (C) (((cV n n).reverse.take k)).length (U8 (((cV n n).reverse.take k))))∧(Wk a ai)∧(G 3= .slice Z (cV n n).length ab)∧(G 6=C)∧(G 7= .int .i64 ((((cV n n).length:Nat):Int) - 1 - (k:Nat)))∧((cV n n).length - k=c)) _ ⟨0,.slice (some ⟨al,0,none⟩) 0 0,aa,a5,aZ.md,U,U,(iv aa),U⟩ ?_)))))))))))))))))))))))))))
 rintro c G ai ⟨k,C,hk,s,i,bf,bg,bh,rfl⟩
 refine fx 3 bf (fx 6 bg (fx 7 bh ?_))
 have bH:((cV n n).reverse.take k).length=k:=by rw [List.length_take,List.length_reverse]; omega
 have bF:=i.size
 refine sq (fun _ ax=>ag (fun _ ay=>(p (aB (.int .i64 ((((cV n n).length:Nat):Int) - 1 - (k:Nat))) U) (p (ge U U) (az ((ay _ _ (cd U (fun a1=> ?_) (fun a1=> ?_)))))))))
 refine aH (tn (ax _ _ (sq (fun _ O=>aC (rg U (aj (C) (aj (.slice Z (cV n n).length ab) (p (aB (.int .i64 ((((cV n n).length:Nat):Int) - 1 - (k:Nat))) U) (p (aQ jw U U aa (aw.ok (am.wk i) (nC aa))) (p (ld mC U (by rw [show (((((cV n n).length:Nat):Int) - 1 - (k:Nat)).toNat)=(cV n n).length - 1 - k from by omega]; exact nB (am.wk i) aa)) (e (eY gp U U fun br bM bw ah aS=> ?_))))))))))))
 have aq:=i.trans ah.md
 refine e (ap gp (aE s ah.md) U (by have :=aq.size; omega) U (aw.dj aS) (U) (U) aa aa fun bj bN a8 aX bJ bC=> ?_)
 have aV:=Wk.own aq (aE s ah.md) aX (Nat.le_refl _)
 have a9:=oY a8
 exact p aA (nl (bn (tn (O _ _ (rg U (p (aB (.int .i64 ((((cV n n).length:Nat):Int) - 1 - (k:Nat))) U) (p (sb U U (bu aa)) (p aA (az ((⟨_,aa,k+1,bj,aa,((by rw [rev_succ aa]; exact a9)),aV,U,U,(iv aa),U⟩)))))))))))
 refine ext (te _ (te _ (be (tn (M _ _ (sq (fun _ O=> ?_)))))))
 obtain ⟨aM,aN,rfl⟩:=cE s
 refine rg U (aj (.slice aM ((cV n n).reverse.take k).length aN) (p (k8 k5 U ((aJ s).2) (U)) (au (((O _ _ (rt (f1 U U ?_))))))))
 have a4:(cV n n).reverse.take k=(cV n n).reverse:=List.take_of_length_le (by rw [List.length_reverse]; omega)
 exact ⟨by rw [a4,fV,if_neg (show ¬n=0 by omega)]; rfl,ac.trans i⟩
theorem Ed (a:Option Addr) (c:Nat) (ls:List Tx) (w:World) (C:bM w.heap a ls) (al:ls.length≤1048576) (ak:(dB ls).length≤1099511627776):
 a3 Tryz.prog 19 (List.toArray [.slice a ls.length c]) w (fun v w'=>v=str (dB ls)∧Wk w w'):=by
 refine enter Tryz.func19 U Tryz.ntmps19 U (ag (fun _ G=>(au (((G _ _ (ag (fun _ I=>(p aA (az ((I _ _ (sq (fun _ J=>ag (fun _ M=>(aj (.slice a ls.length c) (p (bo ea U U) (p mv (az ((M _ _ (aC (lp (fun A j E=> ∃ (i:Nat),(i≤ls.length)∧(Wk w E)∧(j 3=str (dB (ls.take i)))∧(j 6= .slice a ls.length c)∧(j 7=ae (ls.length))∧(j 8=ae i)∧(ls.length - i=A)) _ ⟨0,aa,(Md.refl _ _),(by first | rfl | (rw [oM aa]; rfl)),U,U,U,U⟩ ?_)))))))))))))))))))))))
 rintro A j E ⟨i,hi,q,ab,ac,ah,ai,rfl⟩
 refine fx 3 ab (fx 6 ac (fx 7 ah (fx 8 ai (ag (fun _ O=>(p (lt U U) (az ((O _ _ (sq (fun _ V=>cd U (fun Z=> ?_) (fun Z=> ?_))))))))))))
 exact aH (tn (V _ _ (sq (fun _ s=>aC (ag (fun _ Y=>(p (aQ bT U U aa (aw.ok (C.wk q) (bL aa))) (p (ld bF U (bM.get (i:=i) (C.wk q) aa)) (au (((Y _ _ (rg U (aj (str (dB (ls.take i))) (p mv (p (cc U U (by have :=congrArg List.length (oM (ls:=ls) (i:=i) aa); have :=vF ls (i+1); simp at*; omega)) (p (cc U U (by have :=congrArg List.length (oM (ls:=ls) (i:=i) aa); have :=vF ls (i+1); simp at*; omega)) (p aA (nl (bn (tn (s _ _ (rg U (p (ad U U (bu aa)) (p mv (nl (tn (⟨_,aa,i+1,aa,q,(by first | rfl | (rw [oM aa]; rfl)),U,U,U,U⟩))))))))))))))))))))))))))))
 exact ext (te _ (te _ (be (tn (J _ _ (ag (fun _ s=>(aj (str (dB (ls.take i))) (p (bG (str (dB (ls.take i))) U) (az ((s _ _ (rt (f1 U U (⟨by rw [List.take_of_length_le aa]; rfl,q⟩)))))))))))))))
theorem oy (x:bR) (a b:Option Addr) (c d:Nat) (w:World) (Z:aw w.heap a (x.2.map aI)) (ac:aw w.heap b (x.2.map aI)) (aS:x.2.length≤1048576):
 a3 Tryz.prog 21 (List.toArray [.agg [str x.1,.slice a x.2.length c].toArray,.agg [str x.1,.slice b x.2.length d].toArray]) w (fun v w'=>v= .bool true∧Wk w w'):=by
 refine enter Tryz.func21 U Tryz.ntmps21 U (ag (fun _ ai=>(e (gx U fun M aL aM aB av=> ?_))))
 have ax:bl aL.heap M [str x.1,.slice a x.2.length c]:=av
 refine e (gx U fun V I aN ah ay=> ?_)
 have A:Wk w I:=aB.md.trans ah.md
 have O:bl I.heap V [str x.1,.slice b x.2.length d]:=ay
 have G:bl I.heap M [str x.1,.slice a x.2.length c]:=Wk.B ah.md ax
 refine au (((ai _ _ (sq (fun _ al=>ag (fun _ am=>(p (fa lU U) (p (ld bF U (G.bI 0)) (p (fa lU U) (p (ld bF U (O.bI 0)) (p (l5 U U) (p mv (gs (t:=11) U (fun h=>absurd h (fun h=>h U)) (fun aR=>pg U U U (fa ka U) (pg U U U (ld iJ U (G.bI 1)) (pg U U U (bo iF U U) (pg U U U (fa ka U) (pg U U U (ld iJ U (O.bI 1)) (pg U U U (bo iF U U) (pg U U U (dF U U) (p (bj U) (az ((am _ _ (cd U (fun h=>absurd h (fun h=>h U)) (fun aO=>aH (tn (al _ _ (sq (fun _ an=>ag (fun _ ao=>(p (fa ka U) (p (ld iJ U (G.bI 1)) (p (bo iF U U) (p mv (az ((ao _ _ (aC (lp (fun Y E C=> ∃ (i:Nat),(i≤x.2.length)∧(Wk I C)∧(E 2=a6 M)∧(E 3=a6 V)∧(E 22=ae (x.2.length))∧(E 23=ae i)∧(x.2.length - i=Y)) _ ⟨0,aa,(Md.refl _ _),U,U,U,U,U⟩ ?_))))))))))))))))))))))))))))))))))))))))
 rintro Y E C ⟨i,hi,q,aE,aK,aF,aJ,rfl⟩
 refine fx 2 aE (fx 3 aK (fx 22 aF (fx 23 aJ (ag (fun _ ap=>(p (lt U U) (az ((ap _ _ (sq (fun _ aq=>cd U (fun aD=> ?_) (fun aD=> ?_))))))))))))
 refine aH (tn (aq _ _ (sq (fun _ J=>aC (ag (fun _ ar=>(aj (ae i) (p (bG (ae i) U) (az ((ar _ _ (sq (fun _ ak=> ?_)))))))))))))
 have j:(fun w'=>Wk C w') C.drew:=(Md.refl _ _).drew
 refine bS (fun w'=>Wk C w') U wide j (aT 0 U (fun _ _=>fa ka U) j (aT 1 U (fun w' s=>ld iJ U (Wk.aG s ((Wk.B q G).bI 1))) j (bH 2 U (ae i) j (aT 3 U (fun _ _=>aQ ba U U aa (aw.ok ((Z.wk A).wk q) (bL aa))) j (aT 4 U (fun w' s=>ld bq U (Wk.aG s (aw.h8 ((Z.wk A).wk q) (show (x.2.map aI)[i]? =some (aI (x.2.getD i 0)) by rw [List.getElem?_map,List.getD_eq_getElem?_getD,List.getElem?_eq_getElem (by omega :i < x.2.length)]; rfl)))) j ?_)))))
 refine aT 5 U (fun _ _=>fa ka U) j (aT 6 U (fun w' s=>ld iJ U (Wk.aG s ((Wk.B q O).bI 1))) j (bH 7 U (ae i) j (aT 8 U (fun _ _=>aQ ba U U aa (aw.ok ((ac.wk A).wk q) (bL aa))) j (aT 9 U (fun w' s=>ld bq U (Wk.aG s (aw.h8 ((ac.wk A).wk q) (show (x.2.map aI)[i]? =some (aI (x.2.getD i 0)) by rw [List.getElem?_map,List.getD_eq_getElem?_getD,List.getElem?_eq_getElem (by omega :i < x.2.length)]; rfl)))) j ?_))))
 exact aT 10 U (fun _ _=>dF U U) j (hn ab (tn (ak _ _ (cd U (fun h=>absurd h (fun h=>h U)) (fun aP=>aH (bn (tn (J _ _ (rg U (p (ad U U (bu aa)) (p mv (nl (tn (⟨_,aa,i+1,aa,(q.trans j),U,U,U,U,U⟩))))))))))))))
 exact ext (te _ (te _ (be (tn (an _ _ (ag (fun _ J=>(p aA (az ((J _ _ (rt (f1 U U (⟨U,A.trans q⟩))))))))))))))
end Go.Hb.si
end
section
set_option maxRecDepth 20000
set_option maxHeartbeats 1000000
namespace Go.Hb.sr
open Go.Hb.c6
open Go.Proofs
open Go.Hb.ff Go.Hb.fP Go.Hb.gh Go.Hb.kr Go.Hb.iW Go.Hb.kP Go.Hb.gu Go.Hb.kt Go.Hb.kR Go.Hb.lE Go.Hb.nK Go.Hb.nJ Go.Hb.nI Go.Hb.pN
theorem nG (w:World):
 a3 Tryz.prog 13 (List.toArray []) w (fun v w'=>v= .bool true∧Wk w w'):=by
 refine enter Tryz.func13 U Tryz.ntmps13 U (ag (fun _ aq=>(au (((aq _ _ (ag (fun _ ar=>(e (cl fU (lG pH w ao) U fun bH a8 aR=> ?_))))))))))
 obtain ⟨ad,M⟩:=aR
 rw [HY] at ad
 obtain ⟨fb,mc,V,a1,aK,aG,aM⟩:=ad
 subst a1
 refine p mv (p (xt U U) (p (xt U U) (e (al gd fun bb bJ bi Y aD=> ?_))))
 have bz:=Y.size
 have bB:=M.size
 refine p aA (e (b8 dW U U U U (aD) (by simp) fun an O bg=> ?_))
 have E:Wk a8 an:=Y.md.trans' O (fun q aV h=>by omega)
 have bw:=O.size
 refine az ((ar _ _ (ag (fun _ av=>(p mv (e (cl fH (lP w.heap.size fb mc mo V r6 an (aK.wk E) aG aM ao) U fun dG a6 aN=> ?_)))))))
 obtain ⟨ac,G⟩:=aN
 rw [HZ] at ac
 obtain ⟨B,am,ai,aj,vs,bf,a0,aS,_⟩:=ac
 subst a0
 refine p mv (p (xt U U) (p (xt U U) (e (al gd fun bc bK bk Z aF=> ?_))))
 have bA:=Z.size
 have bx:=G.size
 refine p aA (e (b8 dW U U U U (aF) (by simp) fun ap aL aE=> ?_))
 have I:Wk a6 ap:=Z.md.trans' aL (fun q aV h=>by omega)
 have aa:=aS.wk I
 refine az ((av _ _ (sq (fun _ ax=>ag (fun _ ay=>(p mv (p (jc nz U U) (p mv (gb (t:=17) U (fun h=>absurd (h.symm.trans (U)) Bool.noConfusion) (fun bm=> ?_))))))))))
 refine pg U U U (cC fG U (U) (fun j bv=>aE.bI j)) (pg U U U (bU (ps:= []) (L:= [.int .i64 0,.int .i64 0,.int .i64 0]) iU U (U)) (pg U U U (lr U U) (p (bj U) (p mv (gs (t:=22) U (fun h=>absurd h (fun h=>h ⟨U,U,U⟩)) (fun bn=>pg U U U mv (eg U U U (cl zM (B9 B am ai aj vs lA ap aa ao) U fun bD ak aO=> ?_))))))))
 obtain ⟨rfl,J⟩:=aO
 have aT:=aa.wk J
 refine pg U U U (dF U U) (p (bj U) (az ((ay _ _ (cd U (fun h=>absurd h (fun h=>h U)) (fun bl=>aH (tn (ax _ _ (ag (fun _ aB=>(p mv (e (cl mI (mQ B am ai aj vs lA ak aT ao ao) U fun bG a7 aP=> ?_)))))))))))))
 obtain ⟨aU,aI⟩:=aP
 obtain ⟨vx,ae,ab,_⟩:=aU
 have aX:=cE ae
 obtain ⟨a9,bd,a2⟩:=aX
 subst a2
 obtain ⟨bC,aY,s⟩:=bX.get ab (show 0 < (lA.map (·.2)).length by decide)
 obtain ⟨a5,aZ,bh⟩:=bX.get ab (show 1 < (lA.map (·.2)).length by decide)
 have aW:=s.slice
 obtain ⟨A,C,a4⟩:=aW
 subst a4
 have s:Tg a7 ak.heap.size 71 1 (.slice A 1 C) [.int .u16 (65:Nat)]:=s
 have a:=(aJ ae).2
 have c:(lA.zip vx)[0]? =some (([102,108,121],[65]),.slice A 1 C):=List.getElem?_zip_eq_some.2 ⟨rfl,aY⟩
 have ah:(lA.zip vx)[1]? =some (([105,110,47,111,117,116],[]),a5):=List.getElem?_zip_eq_some.2 ⟨rfl,aZ⟩
 refine au (((aB _ _ (ag (fun _ aC=>(p mv (p (bo jO U U) (p (bp U U) (p mv (gs (t:=32) U (fun br=> ?_) (fun h=>absurd U h)))))))))))
 refine pg U U U mv (pg U U U (aQ gT U U ao (aw.ok (a) (gS c))) (pg U U U (fa lU U) (pg U U U (ld bF U (fX (f:=fW) (m:=2) (i:=0) (fun _=>rfl) a c 0 ao)) (pg U U U (fJ U U) (p (bE U) (p mv (gs (t:=39) U (fun bs=> ?_) (fun h=>absurd U h))))))))
 refine pg U U U mv (pg U U U (aQ gT U U ao (aw.ok (a) (gS c))) (pg U U U (fa ka U) (pg U U U (ld iJ U (fX (f:=fW) (m:=2) (i:=0) (fun _=>rfl) a c 1 ao)) (pg U U U (bo iF U U) (pg U U U (bp U U) (p (bE U) (p mv (gs (t:=47) U (fun bt=> ?_) (fun h=>absurd U h)))))))))
 refine pg U U U mv (pg U U U (aQ gT U U ao (aw.ok (a) (gS c))) (pg U U U (fa ka U) (pg U U U (ld iJ U (fX (f:=fW) (m:=2) (i:=0) (fun _=>rfl) a c 1 ao)) (pg U U U (aQ ba U U ao (aw.ok (s.bN.2) (by simp))) (pg U U U (ld bq U (aw.h8 (i:=0) s.bN.2 U)) (pg U U U (bp U U) (p (bE U) (p mv (gs (t:=56) U (fun bu=> ?_) (fun h=>absurd U h))))))))))
 exact pg U U U mv (pg U U U (aQ gT U U ao (aw.ok (a) (gS ah))) (pg U U U (fa lU U) (pg U U U (ld bF U (fX (f:=fW) (m:=2) (i:=1) (fun _=>rfl) a ah 0 ao)) (pg U U U (fJ U U) (p (bE U) (p aA (nl (tn (aC _ _ (rt (f1 U U (⟨congrArg Value.bool (decide_eq_true U),M.trans (E.trans (G.trans (I.trans (J.trans aI))))⟩))))))))))))
theorem nT {s:Tx} {F:aM} (h:eM s= .ok F):Nx F:=by
 unfold eM at h
 split at h
 · cases h
 · split at h
   · cases h
   · rename_i f i
     split at h
     · cases h
     · cases h
       have key:∀ (k:Nat) (F F':aM) (hs:List Tx) (rows:List Rw) (eof:Nat),Nx F→eJ eof k F hs rows= .ok F'→Nx F':=by
        intro k
        induction k with
        | zero=>intro F F' hs rows eof h a; rw [eJ] at a; split at a <;> cases a; exact h
        | succ k p=>
          intro F F' hs rows eof h a
          cases rows with
          | nil=>rw [rK] at a; cases a; exact h
          | cons q rows=>
            rw [eJ] at a
            split at a
            · cases a
            · split at a
              · cases a
              · split at a
                · cases a
                · split at a
                  · cases a
                  · rename_i r j
                    exact p _ _ _ _ _ (qV (rows':=r.2) h j) a
       exact key _ _ _ _ _ _ ⟨fun l c=>(by cases c),fun l c=>(by cases c)⟩ i
end Go.Hb.sr
end
