/-
  Walks and plain laws that the law rests on, laid together. No conditions but those that each theorem names.
-/
import Derived.Test.YtkiemnnhcilhpaaGreatDoorMnDicKeeps4
set_option linter.unusedVariables false
section
set_option maxRecDepth 20000
set_option maxHeartbeats 1000000
namespace Go.Hb.vI
open Go.Hb.di
open Go.Proofs
open Go.Hb.eX Go.Hb.fH Go.Hb.iV Go.Hb.fP Go.Hb.iG Go.Hb.jP Go.Hb.kf Go.Hb.gY
theorem HL (B:Nat) (H:bO) (F:aI) (rows:List Rw) (ln:Nat) (seen:List Tx) (r:List Tx) (j:Nat) (a:Option Addr) (i:Nat) (w:World) (p:St w B H F rows ln seen) (hT:Tg w j 9 r.length (.slice a r.length i) (r.map str)) (hrl:∀ x∈r,x.length≤70000) (hw:r.length=width (r.getD 0 [])) (A:gG F seen) (s:width (r.getD 0 [])=2→r.getD 0 []∉seen) (q:F.bN.length+F.aliases.length+F.a3.length+F.rules.length+rows.length < 70000) (hk:r.getD 0 []=eS):dO Tryz.prog 58 (List.toArray [.pointer (some ⟨H.rb,0,none⟩),.slice a r.length i]) w (fR B H seen (bA H.eof F seen rows ln r) w) (fQ B H (bA H.eof F seen rows ln r) w):=by
 have h:=II B H F rows ln seen r j a i w p hT (by rw [hw,hk]; decide) hrl
 rw [show bA H.eof F seen rows ln r=gT F seen rows ln r from by unfold bA; rw [hk]; rfl]
 exact h
theorem HT (B:Nat) (H:bO) (F:aI) (rows:List Rw) (ln:Nat) (seen:List Tx) (r:List Tx) (j:Nat) (a:Option Addr) (i:Nat) (w:World) (p:St w B H F rows ln seen) (hT:Tg w j 9 r.length (.slice a r.length i) (r.map str)) (hrl:∀ x∈r,x.length≤70000) (hw:r.length=width (r.getD 0 [])) (A:gG F seen) (s:width (r.getD 0 [])=2→r.getD 0 []∉seen) (q:F.bN.length+F.aliases.length+F.a3.length+F.rules.length+rows.length < 70000) (hk:r.getD 0 []=e8):dO Tryz.prog 59 (List.toArray [.pointer (some ⟨H.rb,0,none⟩),.slice a r.length i]) w (fR B H seen (bA H.eof F seen rows ln r) w) (fQ B H (bA H.eof F seen rows ln r) w):=by
 have h:=Ey B H F rows ln seen r j a i w p hT (by rw [hw,hk]; decide) hrl
 rw [show bA H.eof F seen rows ln r=jK F rows ln r from by unfold bA; rw [hk]; rfl]
 exact h
theorem HV (B:Nat) (H:bO) (F:aI) (rows:List Rw) (ln:Nat) (seen:List Tx) (r:List Tx) (j:Nat) (a:Option Addr) (i:Nat) (w:World) (p:St w B H F rows ln seen) (hT:Tg w j 9 r.length (.slice a r.length i) (r.map str)) (hrl:∀ x∈r,x.length≤70000) (hw:r.length=width (r.getD 0 [])) (A:gG F seen) (s:width (r.getD 0 [])=2→r.getD 0 []∉seen) (q:F.bN.length+F.aliases.length+F.a3.length+F.rules.length+rows.length < 70000) (hk:r.getD 0 []=fu):dO Tryz.prog 60 (List.toArray [.pointer (some ⟨H.rb,0,none⟩),.slice a r.length i]) w (fR B H seen (bA H.eof F seen rows ln r) w) (fQ B H (bA H.eof F seen rows ln r) w):=by
 have h:=LU B H F rows ln seen r j a i w p hT (by rw [hw,hk]; decide) hrl
 rw [show bA H.eof F seen rows ln r=jO F rows ln r from by unfold bA; rw [hk]; rfl]
 exact h
theorem HP (B:Nat) (H:bO) (F:aI) (rows:List Rw) (ln:Nat) (seen:List Tx) (r:List Tx) (j:Nat) (a:Option Addr) (i:Nat) (w:World) (p:St w B H F rows ln seen) (hT:Tg w j 9 r.length (.slice a r.length i) (r.map str)) (hrl:∀ x∈r,x.length≤70000) (hw:r.length=width (r.getD 0 [])) (s:gG F seen) (q:width (r.getD 0 [])=2→r.getD 0 []∉seen) (A:F.bN.length+F.aliases.length+F.a3.length+F.rules.length+rows.length < 70000) (hk:r.getD 0 []=gA):dO Tryz.prog 61 (List.toArray [.pointer (some ⟨H.rb,0,none⟩),.slice a r.length i]) w (fR B H seen (bA H.eof F seen rows ln r) w) (fQ B H (bA H.eof F seen rows ln r) w):=by
 have h:=o3 B H F rows ln seen r j a i w p hT (by rw [hw,hk]; decide) hrl (by rw [hk]; decide) (s _ (by rw [hk]; decide) (q (by rw [hk]; decide)))
 rw [show bA H.eof F seen rows ln r=gO F rows ln r from by unfold bA; rw [hk]; rfl]
 exact h
theorem HM (B:Nat) (H:bO) (F:aI) (rows:List Rw) (ln:Nat) (seen:List Tx) (r:List Tx) (j:Nat) (a:Option Addr) (i:Nat) (w:World) (p:St w B H F rows ln seen) (hT:Tg w j 9 r.length (.slice a r.length i) (r.map str)) (hrl:∀ x∈r,x.length≤70000) (hw:r.length=width (r.getD 0 [])) (s:gG F seen) (q:width (r.getD 0 [])=2→r.getD 0 []∉seen) (A:F.bN.length+F.aliases.length+F.a3.length+F.rules.length+rows.length < 70000) (hk:r.getD 0 []=gJ):dO Tryz.prog 61 (List.toArray [.pointer (some ⟨H.rb,0,none⟩),.slice a r.length i]) w (fR B H seen (bA H.eof F seen rows ln r) w) (fQ B H (bA H.eof F seen rows ln r) w):=by
 have h:=o3 B H F rows ln seen r j a i w p hT (by rw [hw,hk]; decide) hrl (by rw [hk]; decide) (s _ (by rw [hk]; decide) (q (by rw [hk]; decide)))
 rw [show bA H.eof F seen rows ln r=gO F rows ln r from by unfold bA; rw [hk]; rfl]
 exact h
theorem HN (B:Nat) (H:bO) (F:aI) (rows:List Rw) (ln:Nat) (seen:List Tx) (r:List Tx) (j:Nat) (a:Option Addr) (i:Nat) (w:World) (p:St w B H F rows ln seen) (hT:Tg w j 9 r.length (.slice a r.length i) (r.map str)) (hrl:∀ x∈r,x.length≤70000) (hw:r.length=width (r.getD 0 [])) (s:gG F seen) (q:width (r.getD 0 [])=2→r.getD 0 []∉seen) (A:F.bN.length+F.aliases.length+F.a3.length+F.rules.length+rows.length < 70000) (hk:r.getD 0 []=gS):dO Tryz.prog 61 (List.toArray [.pointer (some ⟨H.rb,0,none⟩),.slice a r.length i]) w (fR B H seen (bA H.eof F seen rows ln r) w) (fQ B H (bA H.eof F seen rows ln r) w):=by
 have h:=o3 B H F rows ln seen r j a i w p hT (by rw [hw,hk]; decide) hrl (by rw [hk]; decide) (s _ (by rw [hk]; decide) (q (by rw [hk]; decide)))
 rw [show bA H.eof F seen rows ln r=gO F rows ln r from by unfold bA; rw [hk]; rfl]
 exact h
theorem HK (B:Nat) (H:bO) (F:aI) (rows:List Rw) (ln:Nat) (seen:List Tx) (r:List Tx) (j:Nat) (a:Option Addr) (i:Nat) (w:World) (p:St w B H F rows ln seen) (hT:Tg w j 9 r.length (.slice a r.length i) (r.map str)) (hrl:∀ x∈r,x.length≤70000) (hw:r.length=width (r.getD 0 [])) (s:gG F seen) (q:width (r.getD 0 [])=2→r.getD 0 []∉seen) (A:F.bN.length+F.aliases.length+F.a3.length+F.rules.length+rows.length < 70000) (hk:r.getD 0 []=hZ):dO Tryz.prog 61 (List.toArray [.pointer (some ⟨H.rb,0,none⟩),.slice a r.length i]) w (fR B H seen (bA H.eof F seen rows ln r) w) (fQ B H (bA H.eof F seen rows ln r) w):=by
 have h:=o3 B H F rows ln seen r j a i w p hT (by rw [hw,hk]; decide) hrl (by rw [hk]; decide) (s _ (by rw [hk]; decide) (q (by rw [hk]; decide)))
 rw [show bA H.eof F seen rows ln r=gO F rows ln r from by unfold bA; rw [hk]; rfl]
 exact h
theorem HQ (B:Nat) (H:bO) (F:aI) (rows:List Rw) (ln:Nat) (seen:List Tx) (r:List Tx) (j:Nat) (a:Option Addr) (i:Nat) (w:World) (p:St w B H F rows ln seen) (hT:Tg w j 9 r.length (.slice a r.length i) (r.map str)) (hrl:∀ x∈r,x.length≤70000) (hw:r.length=width (r.getD 0 [])) (s:gG F seen) (q:width (r.getD 0 [])=2→r.getD 0 []∉seen) (A:F.bN.length+F.aliases.length+F.a3.length+F.rules.length+rows.length < 70000) (hk:r.getD 0 []=iy):dO Tryz.prog 61 (List.toArray [.pointer (some ⟨H.rb,0,none⟩),.slice a r.length i]) w (fR B H seen (bA H.eof F seen rows ln r) w) (fQ B H (bA H.eof F seen rows ln r) w):=by
 have h:=o3 B H F rows ln seen r j a i w p hT (by rw [hw,hk]; decide) hrl (by rw [hk]; decide) (s _ (by rw [hk]; decide) (q (by rw [hk]; decide)))
 rw [show bA H.eof F seen rows ln r=gO F rows ln r from by unfold bA; rw [hk]; rfl]
 exact h
theorem HO (B:Nat) (H:bO) (F:aI) (rows:List Rw) (ln:Nat) (seen:List Tx) (r:List Tx) (j:Nat) (a:Option Addr) (i:Nat) (w:World) (p:St w B H F rows ln seen) (hT:Tg w j 9 r.length (.slice a r.length i) (r.map str)) (hrl:∀ x∈r,x.length≤70000) (hw:r.length=width (r.getD 0 [])) (A:gG F seen) (s:width (r.getD 0 [])=2→r.getD 0 []∉seen) (q:F.bN.length+F.aliases.length+F.a3.length+F.rules.length+rows.length < 70000) (hk:r.getD 0 []=gz):dO Tryz.prog 62 (List.toArray [.pointer (some ⟨H.rb,0,none⟩),.slice a r.length i]) w (fR B H seen (bA H.eof F seen rows ln r) w) (fQ B H (bA H.eof F seen rows ln r) w):=by
 have h:=IM B H F rows ln seen r j a i w p hT (by rw [hw,hk]; decide) hrl
 rw [show bA H.eof F seen rows ln r=ib F rows ln r from by unfold bA; rw [hk]; rfl]
 exact h
theorem HS (B:Nat) (H:bO) (F:aI) (rows:List Rw) (ln:Nat) (seen:List Tx) (r:List Tx) (j:Nat) (a:Option Addr) (i:Nat) (w:World) (p:St w B H F rows ln seen) (hT:Tg w j 9 r.length (.slice a r.length i) (r.map str)) (hrl:∀ x∈r,x.length≤70000) (hw:r.length=width (r.getD 0 [])) (A:gG F seen) (s:width (r.getD 0 [])=2→r.getD 0 []∉seen) (q:F.bN.length+F.aliases.length+F.a3.length+F.rules.length+rows.length < 70000) (hk:r.getD 0 []=dE):dO Tryz.prog 63 (List.toArray [.pointer (some ⟨H.rb,0,none⟩),.slice a r.length i]) w (fR B H seen (bA H.eof F seen rows ln r) w) (fQ B H (bA H.eof F seen rows ln r) w):=by
 have h:=Kt B H F rows ln seen r j a i w p hT (by rw [hw,hk]; decide) hrl
 rw [show bA H.eof F seen rows ln r=gM H.eof F rows ln r from by unfold bA; rw [hk]; rfl]
 exact h
theorem HJ (B:Nat) (H:bO) (F:aI) (rows:List Rw) (ln:Nat) (seen:List Tx) (r:List Tx) (j:Nat) (a:Option Addr) (i:Nat) (w:World) (p:St w B H F rows ln seen) (hT:Tg w j 9 r.length (.slice a r.length i) (r.map str)) (hrl:∀ x∈r,x.length≤70000) (hw:r.length=width (r.getD 0 [])) (A:gG F seen) (s:width (r.getD 0 [])=2→r.getD 0 []∉seen) (q:F.bN.length+F.aliases.length+F.a3.length+F.rules.length+rows.length < 70000) (hk:r.getD 0 []=db):dO Tryz.prog 64 (List.toArray [.pointer (some ⟨H.rb,0,none⟩),.slice a r.length i]) w (fR B H seen (bA H.eof F seen rows ln r) w) (fQ B H (bA H.eof F seen rows ln r) w):=by
 have h:=CK B H F rows ln seen r j a i w p hT (by rw [hw,hk]; decide) hrl
 rw [show bA H.eof F seen rows ln r=gu H.eof F seen rows ln r from by unfold bA; rw [hk]; rfl]
 exact h
theorem HR (B:Nat) (H:bO) (F:aI) (rows:List Rw) (ln:Nat) (seen:List Tx) (r:List Tx) (j:Nat) (a:Option Addr) (i:Nat) (w:World) (p:St w B H F rows ln seen) (hT:Tg w j 9 r.length (.slice a r.length i) (r.map str)) (hrl:∀ x∈r,x.length≤70000) (hw:r.length=width (r.getD 0 [])) (A:gG F seen) (s:width (r.getD 0 [])=2→r.getD 0 []∉seen) (q:F.bN.length+F.aliases.length+F.a3.length+F.rules.length+rows.length < 70000) (hk:r.getD 0 []=dQ):dO Tryz.prog 65 (List.toArray [.pointer (some ⟨H.rb,0,none⟩),.slice a r.length i]) w (fR B H seen (bA H.eof F seen rows ln r) w) (fQ B H (bA H.eof F seen rows ln r) w):=by
 have h:=xT B H F rows ln seen r j a i w p hT (by rw [hw,hk]; decide) hrl q
 rw [show bA H.eof F seen rows ln r=eN H.eof F rows ln r from by unfold bA; rw [hk]; rfl]
 exact h
theorem HU (B:Nat) (H:bO) (F:aI) (rows:List Rw) (ln:Nat) (seen:List Tx) (r:List Tx) (j:Nat) (a:Option Addr) (i:Nat) (w:World) (p:St w B H F rows ln seen) (hT:Tg w j 9 r.length (.slice a r.length i) (r.map str)) (hrl:∀ x∈r,x.length≤70000) (hw:r.length=width (r.getD 0 [])) (A:gG F seen) (s:width (r.getD 0 [])=2→r.getD 0 []∉seen) (q:F.bN.length+F.aliases.length+F.a3.length+F.rules.length+rows.length < 70000) (hk:r.getD 0 []=bQ):dO Tryz.prog 65 (List.toArray [.pointer (some ⟨H.rb,0,none⟩),.slice a r.length i]) w (fR B H seen (bA H.eof F seen rows ln r) w) (fQ B H (bA H.eof F seen rows ln r) w):=by
 have h:=xT B H F rows ln seen r j a i w p hT (by rw [hw,hk]; decide) hrl q
 rw [show bA H.eof F seen rows ln r=eN H.eof F rows ln r from by unfold bA; rw [hk]; rfl]
 exact h
theorem zQ (B:Nat) (H:bO) (F:aI) (rows:List Rw) (ln:Nat) (seen:List Tx) (r:List Tx) (j:Nat) (a:Option Addr) (i:Nat) (w:World) (p:St w B H F rows ln seen) (hT:Tg w j 9 r.length (.slice a r.length i) (r.map str)) (hrl:∀ x∈r,x.length≤70000) (hw:r.length=width (r.getD 0 [])) (A:gG F seen) (s:width (r.getD 0 [])=2→r.getD 0 []∉seen) (q:F.bN.length+F.aliases.length+F.a3.length+F.rules.length+rows.length < 70000) {v:Value} (hv:e7 (r.getD 0 [])=some v):∃ f:Nat,v= .agg [.int .i64 (width (r.getD 0 []):Nat),.func (.func f) #[] #[]].toArray∧aV Tryz.prog f∧dO Tryz.prog f (List.toArray [.pointer (some ⟨H.rb,0,none⟩),.slice a r.length i]) w (fR B H seen (bA H.eof F seen rows ln r) w) (fQ B H (bA H.eof F seen rows ln r) w):=by
 unfold e7 at hv
 by_cases hk:r.getD 0 []=bQ
 · rw [if_pos hk] at hv; cases hv; exact ⟨_,by rw [hk]; rfl,xG,HU B H F rows ln seen r j a i w p hT hrl hw A s q hk⟩
 · rw [if_neg hk] at hv; clear hk
   by_cases hk:r.getD 0 []=dQ
   · rw [if_pos hk] at hv; cases hv; exact ⟨_,by rw [hk]; rfl,xG,HR B H F rows ln seen r j a i w p hT hrl hw A s q hk⟩
   · rw [if_neg hk] at hv; clear hk
     by_cases hk:r.getD 0 []=db
     · rw [if_pos hk] at hv; cases hv; exact ⟨_,by rw [hk]; rfl,Eh,HJ B H F rows ln seen r j a i w p hT hrl hw A s q hk⟩
     · rw [if_neg hk] at hv; clear hk
       by_cases hk:r.getD 0 []=dE
       · rw [if_pos hk] at hv; cases hv; exact ⟨_,by rw [hk]; rfl,Eg,HS B H F rows ln seen r j a i w p hT hrl hw A s q hk⟩
       · rw [if_neg hk] at hv; clear hk
         by_cases hk:r.getD 0 []=gz
         · rw [if_pos hk] at hv; cases hv; exact ⟨_,by rw [hk]; rfl,Ef,HO B H F rows ln seen r j a i w p hT hrl hw A s q hk⟩
         · rw [if_neg hk] at hv; clear hk
           by_cases hk:r.getD 0 []=iy
           · rw [if_pos hk] at hv; cases hv; exact ⟨_,by rw [hk]; rfl,oo,HQ B H F rows ln seen r j a i w p hT hrl hw A s q hk⟩
           · rw [if_neg hk] at hv; clear hk
             by_cases hk:r.getD 0 []=hZ
             · rw [if_pos hk] at hv; cases hv; exact ⟨_,by rw [hk]; rfl,oo,HK B H F rows ln seen r j a i w p hT hrl hw A s q hk⟩
             · rw [if_neg hk] at hv; clear hk
               by_cases hk:r.getD 0 []=gS
               · rw [if_pos hk] at hv; cases hv; exact ⟨_,by rw [hk]; rfl,oo,HN B H F rows ln seen r j a i w p hT hrl hw A s q hk⟩
               · rw [if_neg hk] at hv; clear hk
                 by_cases hk:r.getD 0 []=gJ
                 · rw [if_pos hk] at hv; cases hv; exact ⟨_,by rw [hk]; rfl,oo,HM B H F rows ln seen r j a i w p hT hrl hw A s q hk⟩
                 · rw [if_neg hk] at hv; clear hk
                   by_cases hk:r.getD 0 []=gA
                   · rw [if_pos hk] at hv; cases hv; exact ⟨_,by rw [hk]; rfl,oo,HP B H F rows ln seen r j a i w p hT hrl hw A s q hk⟩
                   · rw [if_neg hk] at hv; clear hk
                     by_cases hk:r.getD 0 []=fu
                     · rw [if_pos hk] at hv; cases hv; exact ⟨_,by rw [hk]; rfl,Ee,HV B H F rows ln seen r j a i w p hT hrl hw A s q hk⟩
                     · rw [if_neg hk] at hv; clear hk
                       by_cases hk:r.getD 0 []=e8
                       · rw [if_pos hk] at hv; cases hv; exact ⟨_,by rw [hk]; rfl,Ed,HT B H F rows ln seen r j a i w p hT hrl hw A s q hk⟩
                       · rw [if_neg hk] at hv; clear hk
                         by_cases hk:r.getD 0 []=eS
                         · rw [if_pos hk] at hv; cases hv; exact ⟨_,by rw [hk]; rfl,Ec,HL B H F rows ln seen r j a i w p hT hrl hw A s q hk⟩
                         · rw [if_neg hk] at hv; clear hk
                           cases hv
theorem zO {s:Tx} (hv:e7 s=none):width s=0:=by
 unfold e7 at hv
 by_cases M:s=bQ
 · rw [if_pos M] at hv; cases hv
 · rw [if_neg M] at hv
   by_cases G:s=dQ
   · rw [if_pos G] at hv; cases hv
   · rw [if_neg G] at hv
     by_cases a:s=db
     · rw [if_pos a] at hv; cases hv
     · rw [if_neg a] at hv
       by_cases I:s=dE
       · rw [if_pos I] at hv; cases hv
       · rw [if_neg I] at hv
         by_cases A:s=gz
         · rw [if_pos A] at hv; cases hv
         · rw [if_neg A] at hv
           by_cases E:s=iy
           · rw [if_pos E] at hv; cases hv
           · rw [if_neg E] at hv
             by_cases i:s=hZ
             · rw [if_pos i] at hv; cases hv
             · rw [if_neg i] at hv
               by_cases q:s=gS
               · rw [if_pos q] at hv; cases hv
               · rw [if_neg q] at hv
                 by_cases p:s=gJ
                 · rw [if_pos p] at hv; cases hv
                 · rw [if_neg p] at hv
                   by_cases C:s=gA
                   · rw [if_pos C] at hv; cases hv
                   · rw [if_neg C] at hv
                     by_cases O:s=fu
                     · rw [if_pos O] at hv; cases hv
                     · rw [if_neg O] at hv
                       by_cases J:s=e8
                       · rw [if_pos J] at hv; cases hv
                       · rw [if_neg J] at hv
                         by_cases j:s=eS
                         · rw [if_pos j] at hv; cases hv
                         · rw [if_neg j] at hv
                           unfold width cO; simp [j,J,O,C,p,q,i,E,A,I,a,G,M]
theorem tT (s:Tx):e7 s=none∨∃ (wd f:Nat),e7 s=some (Value.agg #[.int .i64 (wd:Nat),.func (.func f) #[] #[]])∧width s=wd∧wd≠0:=by
 by_cases a:s=bQ
 · exact .inr ⟨4,65,by unfold e7; rw [if_pos a],by rw [a]; decide,by decide⟩
 by_cases i:s=dQ
 · exact .inr ⟨4,65,by unfold e7; rw [if_neg a,if_pos i],by rw [i]; decide,by decide⟩
 by_cases j:s=db
 · exact .inr ⟨2,64,by unfold e7; rw [if_neg a,if_neg i,if_pos j],by rw [j]; decide,by decide⟩
 by_cases p:s=dE
 · exact .inr ⟨2,63,by unfold e7; rw [if_neg a,if_neg i,if_neg j,if_pos p],by rw [p]; decide,by decide⟩
 by_cases q:s=gz
 · exact .inr ⟨2,62,by unfold e7; rw [if_neg a,if_neg i,if_neg j,if_neg p,if_pos q],by rw [q]; decide,by decide⟩
 by_cases A:s=iy
 · exact .inr ⟨2,61,by unfold e7; rw [if_neg a,if_neg i,if_neg j,if_neg p,if_neg q,if_pos A],by rw [A]; decide,by decide⟩
 by_cases C:s=hZ
 · exact .inr ⟨2,61,by unfold e7; rw [if_neg a,if_neg i,if_neg j,if_neg p,if_neg q,if_neg A,if_pos C],by rw [C]; decide,by decide⟩
 by_cases E:s=gS
 · exact .inr ⟨2,61,by unfold e7; rw [if_neg a,if_neg i,if_neg j,if_neg p,if_neg q,if_neg A,if_neg C,if_pos E],by rw [E]; decide,by decide⟩
 by_cases G:s=gJ
 · exact .inr ⟨2,61,by unfold e7; rw [if_neg a,if_neg i,if_neg j,if_neg p,if_neg q,if_neg A,if_neg C,if_neg E,if_pos G],by rw [G]; decide,by decide⟩
 by_cases I:s=gA
 · exact .inr ⟨2,61,by unfold e7; rw [if_neg a,if_neg i,if_neg j,if_neg p,if_neg q,if_neg A,if_neg C,if_neg E,if_neg G,if_pos I],by rw [I]; decide,by decide⟩
 by_cases J:s=fu
 · exact .inr ⟨2,60,by unfold e7; rw [if_neg a,if_neg i,if_neg j,if_neg p,if_neg q,if_neg A,if_neg C,if_neg E,if_neg G,if_neg I,if_pos J],by rw [J]; decide,by decide⟩
 by_cases M:s=e8
 · exact .inr ⟨2,59,by unfold e7; rw [if_neg a,if_neg i,if_neg j,if_neg p,if_neg q,if_neg A,if_neg C,if_neg E,if_neg G,if_neg I,if_neg J,if_pos M],by rw [M]; decide,by decide⟩
 by_cases O:s=eS
 · exact .inr ⟨2,58,by unfold e7; rw [if_neg a,if_neg i,if_neg j,if_neg p,if_neg q,if_neg A,if_neg C,if_neg E,if_neg G,if_neg I,if_neg J,if_neg M,if_pos O],by rw [O]; decide,by decide⟩
 refine .inl ?_
 unfold e7
 rw [if_neg a,if_neg i,if_neg j,if_neg p,if_neg q,if_neg A,if_neg C,if_neg E,if_neg G,if_neg I,if_neg J,if_neg M,if_neg O]
end Go.Hb.vI
end
section
set_option maxRecDepth 20000
set_option maxHeartbeats 1000000
namespace Go.Hb.pf
open Go.Hb.di
open Go.Proofs
open Go.Hb.gr Go.Hb.fS
theorem Hn {α:Type} {l:List α} {i:Nat} {d:α} (h:i < l.length):l.getD i d∈l:=by
 rw [List.getD_eq_getElem?_getD,List.getElem?_eq_getElem h]; exact List.getElem_mem h
def gq (n:Nat) (ls:List (List UInt8)):List (Nat×List UInt8):=(ls.zipIdx n).map fun q=>(q.2,q.1)
theorem Jx (n:Nat) (l:List UInt8) (ls:List (List UInt8)):gq n (l::ls)=(n,l)::gq (n+1) ls:=by simp [gq,List.zipIdx_cons]
theorem Jy (n:Nat):gq n []= []:=rfl
theorem uq (n:Nat) (ls:List (List UInt8)):(gq n ls).map Prod.snd=ls:=by
 unfold gq; rw [List.map_map]; exact List.zipIdx_map_fst n ls
theorem At (n:Nat) (ls:List (List UInt8)):(gq n ls).length=ls.length:=by simp [gq]
def qf (x:Nat×List UInt8):Array Value:= #[.int .i64 x.1,str x.2]
theorem uo {ls:List (List UInt8)} {n:Nat} {pre:List (Nat×List UInt8)} {x:Nat×List UInt8} {rest:List (Nat×List UInt8)} (h:gq n ls=pre++x::rest):pre.length < ls.length∧x.1=n+pre.length∧ls=pre.map Prod.snd++x.2::rest.map Prod.snd:=by
 have h1:=congrArg List.length h
 rw [At,List.length_append,List.length_cons] at h1
 have h2:=congrArg (List.map Prod.snd) h
 rw [uq,List.map_append,List.map_cons] at h2
 refine ⟨by omega,?_,h2⟩
 have h3:=congrArg (fun l=>l[pre.length]?) h
 simp only [gq,List.getElem?_map,List.getElem?_zipIdx,List.getElem?_append_right (Nat.le_refl _),Nat.sub_self,List.getElem?_cons_zero] at h3
 cases h4:ls[pre.length]? with
 | none=>rw [h4] at h3; cases h3
 | some q=>rw [h4] at h3; cases h3; rfl
theorem yw (s:List UInt8) (w:World):
 aU Tryz.prog 56 (List.toArray [str s]) w (fun v w'=> ∃ b,v= .func (.func 88) #[] #[aH b]∧w.heap.size≤b∧w'.heap[b]? =some (.cells [str s].toArray 9 (0,0))∧Wk w w'):=by
 refine enter Tryz.func56 rfl Tryz.ntmps56 rfl ?_
 refine U (fun _ a=>(e (C6 rfl rfl fun j w1 A q hB1=>aj (((a _ _ (U (fun _ i=> ?_))))))))
 exact p Ji (aj (((i _ _ (rt (f1 rfl rfl (⟨j,rfl,by omega,hB1,q.md⟩)))))))
theorem Gd (s:List UInt8) (b:Nat) (hs:s.length≤65536) (l:Nat) (a:List (Nat×List UInt8)→World→Prop) (w:World) (h0:a [] w) (ao:∀ pre W,a pre W→W.heap[b]? =some (.cells [str s].toArray 9 (0,0))) (bD:∀ pre W1 A,a pre W1→Wk W1 A→a pre A) (hy:∀ pre x rest W1,(gq 1 (a7 s))=pre++x::rest→a pre W1→YieldAt Fence.wide 0 Tryz.prog l (qf x) W1 fun e W'=>e= .returned (.bool true)∧a (pre++ [x]) W'):
 aU Tryz.prog 88 (List.toArray [.func (.yield l) #[] #[],aH b]) w (fun v w'=>a (gq 1 (a7 s)) w'):=by
 have hb0:=ao _ _ h0
 refine enter Tryz.func88 rfl Tryz.ntmps88 rfl ?_
 refine sq (fun _ I=>U (fun _ M=>(p (ld bz rfl ((aQ hb0).trans rfl)) (p (bK u9 rfl rfl) (p (gt rfl rfl) (au ((M _ _ ?_))))))))
 refine cd rfl (fun h=>absurd h (by omega)) (fun hc10=> ?_)
 refine az (tn (I _ _ (U (fun _ O=>(p (ld bz rfl ((aQ hb0).trans rfl)) (e (cl Es (LQ s l6 _ (by omega) (by decide)) rfl fun cC w12 ai=> ?_)))))))
 obtain ⟨rfl,hE12⟩:=ai
 refine aj (((O _ _ (U (fun _ V=>(aj (((V _ _ ?_)))))))))
 refine aA (lp (fun C j wI=> ∃ (r:List UInt8) (pre:List (Nat×List UInt8)),(r.length≤s.length)∧((gq 1 (a7 s))=pre++gq (pre.length+1) (dZ [] r))∧(a pre wI)∧(pre.length≤s.length)∧(j 0= .func (.yield l) #[] #[])∧(j 3=str r)∧(j 4=ae (pre.length+1))∧(r.length=C)) _ ⟨gX s,[],(rJ s),rfl,(bD _ _ _ h0 hE12),(Nat.zero_le _),rfl,rfl,(iv (by first | rfl | (rw [List.length_append]; rfl))),rfl⟩ ?_)
 rintro C j wI ⟨r,pre,aw,G,E,hpl,aq,ar,av,rfl⟩
 refine fx 0 aq (fx 3 ar (fx 4 av (sq (fun _ Y=>U (fun _ Z=>(ag (str r) (p (j8 rfl rfl) (au ((Z _ _ ?_))))))))))
 refine cd rfl (fun i=> ?_) (fun i=> ?_)
 have q:(gq 1 (a7 s))=pre++(pre.length+1,gd (jh 10 r))::gq (pre.length+2) (dZ [] (jW 10 r)):=by rw [G,I3 i,Jx]
 have hrl:=FC (c:=10) i
 have hal:=Fy 10 r
 refine az (tn (Y _ _ (sq (fun _ aa=>aA (U (fun _ ab=>(ag (str r) (e (cl Et (FD r 10 _ (by omega)) rfl fun ax w19 al=> ?_)))))))))
 obtain ⟨rfl,ah⟩:=al
 refine p mv (p (xt rfl rfl) (p (xt rfl rfl) (p (xt rfl rfl) (p ak (p ak (p ak (nl ?_)))))))
 refine tn (ab _ _ (U (fun _ ac=>(p mv (aj (((ac _ _ (sq (fun _ J=> ?_))))))))))
 refine Kz ?_
 refine py rfl (aC (.func (.yield l) #[] #[]) rfl) ?_
 refine py rfl (aC (ae (pre.length+1)) rfl) ?_
 refine py rfl mv ?_
 refine ey rfl (cl Eu (LS (jh 10 r) _ (by omega)) rfl fun ay aB am=> ?_)
 obtain ⟨rfl,hE27⟩:=am
 have hJ27:=bD _ _ _ E (Md.trans ah hE27)
 refine Mu rfl rfl (hy pre (pre.length+1,gd (jh 10 r)) _ _ q hJ27) (fun w28 an=> ?_)
 refine py rfl (no rfl) ?_
 refine Js ?_
 refine tn (J _ _ (cf (rfl) (az (bn (tn (aa _ _ (rg rfl (ag (ae (pre.length+1)) (p (bc ((pre.length+2:Nat):Int) rfl rfl (aR (by omega) (by omega))) ?_)))))))))
 exact aj (((⟨_,by omega,jW 10 r,pre++ [(pre.length+1,gd (jh 10 r))],(by omega),((by rw [q,List.append_assoc,List.length_append]; rfl)),an,((by have h1:=uo q; have h2:=j6 s; rw [List.length_append,List.length_singleton]; omega)),rfl,rfl,(iv (by first | rfl | (rw [List.length_append]; rfl))),rfl⟩)))
 refine ext (te _ (te _ (be (f0 rfl ?_))))
 show a (gq 1 (a7 s)) wI
 have ap:r= []:=Decidable.of_not_not i
 rw [G,ap,uh,Jy,List.append_nil]
 exact E
theorem yv (s:List UInt8) (b:Nat) (hs:s.length≤65536):vK Tryz.prog 88 #[.pointer (some ⟨b,0,none⟩)] qf (gq 1 (a7 s)) (fun W=>W.heap[b]? =some (.cells [str s].toArray 9 (0,0))):=
 fun l a W h0 i bD hy=>Calls.mono (Gd s b hs l a W h0 i bD hy) fun e w' ⟨v,he,j⟩=>⟨⟨v,he⟩,j⟩
theorem BA (s:List UInt8) (w:World) (hs:s.length≤1048576):
 aU Tryz.prog 30 (List.toArray [str s]) w (fun v w'=>(∃ a,v= .tuple #[a,.int .i64 (if 65536 < s.length then 10 else 0)]∧(if 65536 < s.length then a= .slice none 0 0 else World.ownsRow w' w.heap.size 9 1 (a) ((a7 s)).length (((a7 s)).map str)))∧Wk w w'):=by
 refine yG [] Tryz.func30 rfl Tryz.ntmps30 rfl ?_
 refine fc ?_
 refine fN ?_
 refine rg rfl (p ak (p ak (nl (fy ?_))))
 refine fc ?_
 refine fc ?_
 refine fN ?_
 refine rg rfl (p (aC (str s) rfl) (p (bK u9 rfl rfl) (p (gt rfl rfl) (nl (fy ?_)))))
 refine fN ?_
 refine cd rfl (fun am=> ?_) (fun am=> ?_)
 refine sq (fun aq aj=>rg rfl (p ak (p ak (nl (tn (aj _ _ (rt (uM ?_))))))))
 refine yH rfl rfl rfl ?_
 have hl:65536 < s.length:=by omega
 exact ⟨⟨.slice none 0 0,by show Value.tuple #[.slice none 0 0,.int .i64 10]=_; rw [if_pos hl],by rw [if_pos hl]⟩,Md.refl _ _⟩
 refine az (fy ?_)
 refine fc ?_
 refine fN ?_
 refine rg rfl (e (fT MA fun aa w4 av al ac=>nl (fy ?_)))
 refine fc ?_
 refine fc ?_
 refine fN ?_
 refine rg rfl (p (aC (str s) rfl) (e (cl xF (yw s _) rfl fun v11 w11 hR11=> ?_)))
 obtain ⟨O,rfl,hb11,ab,ae⟩:=hR11
 have E:Wk w w11:=Md.trans al.md ae
 have hb4x:=ae.aA ac
 have hb11l:=(Array.getElem?_eq_some_iff.1 ab).1
 have ay:aa < w4.heap.size:=(Array.getElem?_eq_some_iff.1 ac).1
 have hl:s.length≤65536:=by omega
 refine nl (fy ?_)
 apply A2 (qf) ((gq 1 (a7 s))) (fun W=>W.heap[O]? =some (.cells [str s].toArray 9 (0,0))) (fun pre q=> ∃ v,q.heap[aa]? =some (.cells [v].toArray 48 (0,0))∧World.ownsRow q w11.heap.size 9 1 v pre.length ((pre.map Prod.snd).map str)∧q.heap[O]? =some (.cells [str s].toArray 9 (0,0))∧w11.heap.size≤q.heap.size∧Wk w q) rfl xN (fun _=>rfl) (yv s O hl) (⟨.slice none 0 0,hb4x,World.ownsRow_nil _ _ _ _,ab,Nat.le_refl _,E⟩) (fun _ _ ⟨_,_,_,h,_⟩=>h) (fun pre A C F ⟨v,h1,h2,h3,h5,h4⟩ hm hF=>⟨v,ry h1 hm hF,BG h2 hm hF,ry h3 hm hF,Nat.le_trans h5 hm.size,BH h4 hm E.size hF⟩)
 intro l x q K G
 exact rg rfl (p (bF (str x.2) rfl) (nl (tn (G))))
 intro l pre x rest q an V
 obtain ⟨v,M,j,Y,hsz,U⟩:=V
 obtain ⟨hpl,hx1,aB⟩:=uo an
 have hll:=j6 s
 have hsR:=(Array.getElem?_eq_some_iff.1 Y).1
 refine aA (rg rfl (p (ld gl rfl ((aQ M).trans rfl)) (p mv (e (ec dV rfl rfl fun ar w16 hb16 i ag=> ?_)))))
 have ah:Wk w w16:=Md.trans U i.md
 have hb16:=i.md.aA M
 refine e (ap dV (aG j i.md) rfl (Nat.le_trans hsz i.md.size) rfl (aw.cU ag) (rfl) (rfl) (by omega) (by omega) fun ao w17 Z I aD ax=> ?_)
 have hE17:=Wk.own ah (aG j i.md) I E.size
 have hbt17:=I.aA (i.md.aA Y) (fun h=>by have :=cG (aG j i.md) h; omega)
 have hb17:=I.aA hb16 (fun h=>cw (aG j i.md) hb16 (by decide) h)
 refine e (cj x9 rfl rfl (dU Z) hb17 (by simp) fun w6 J hB6=> ?_)
 have ai:Wk w w6:=Md.trans' hE17 J (fun k hk h=>by omega)
 exact nl (bn (⟨(gE.wk i.md).trans ((gE.md I (oP (aG j i.md))).trans (gE.md J (fun k hk=>⟨_,_,_,hk ▸ hb17⟩))),ao,hB6,bS (by rw [List.map_append,List.map_append,List.length_append]; exact Z) J (fun k hk h=>cw Z hb17 (by decide) (h ▸ hk)),J.aA hbt17 (fun h=>by omega),Nat.le_trans hsz (Nat.le_trans i.md.size (Nat.le_trans I.size J.size)),ai⟩))
 intro D q au V G
 obtain ⟨v,M,j,Y,hsz,U⟩:=V
 have hlt:=(Array.getElem?_eq_some_iff.1 G).1
 refine fy ?_
 refine fc ?_
 refine fN ?_
 refine rg rfl (p (ld gl rfl ((aQ M).trans rfl)) (p ak (p ak (nl (fy ?_)))))
 refine uV ?_
 refine yI rfl rfl rfl G ?_
 have hl:¬65536 < s.length:=by omega
 rw [uq,At] at j
 exact ⟨⟨v,by show Value.tuple #[v,.int .i64 0]=_; rw [if_neg hl],by rw [if_neg hl]; exact gi (bS j (nD _ _ _) (fun k hk h=>by obtain ⟨c,e,z,h1⟩:=oP j k hk; rw [h,G] at h1; cases h1)) E.size⟩,Md.trans' U (nD _ _ _) (fun k hk h=>by have :=E.size; omega)⟩
end Go.Hb.pf
end
section
set_option maxRecDepth 20000
set_option maxHeartbeats 1000000
namespace Go.Hb.pj
open Go.Hb.di
open Go.Proofs
open Go.Hb.gr Go.Hb.fS Go.Hb.pf
set_option maxHeartbeats 1000000 in
theorem A3 (s:List UInt8) (w:World) (hs:s.length≤1048576):
 aU Tryz.prog 29 (List.toArray [str s]) w (fun v w'=>(∃ a,v= .tuple #[a,.int .i64 (if 65536 < s.length then 10 else 0)]∧(if 65536 < s.length then a= .slice none 0 0 else ∃ vs,World.ownsRow w' w.heap.size 105 2 a (bh s).length (gN vs)∧eL w' w.heap.size 9 vs (bh s)))∧Wk w w'):=by
 refine yG [] Tryz.func29 rfl Tryz.ntmps29 rfl ?_
 refine fc ?_
 refine fN ?_
 refine rg rfl (p ak (p ak (nl (fy ?_))))
 refine fc ?_
 refine fc ?_
 refine fN ?_
 refine rg rfl (p (aC (str s) rfl) (p (bK u9 rfl rfl) (p (gt rfl rfl) (nl (fy ?_)))))
 refine fN ?_
 refine cd rfl (fun a0=> ?_) (fun a0=> ?_)
 refine sq (fun av Z=>rg rfl (p ak (p ak (nl (tn (Z _ _ (rt (uM ?_))))))))
 refine yH rfl rfl rfl ?_
 have hl:65536 < s.length:=by omega
 exact ⟨⟨.slice none 0 0,by show Value.tuple #[.slice none 0 0,.int .i64 10]=_; rw [if_pos hl],by rw [if_pos hl]⟩,Md.refl _ _⟩
 refine az (fy ?_)
 refine fc ?_
 refine fN ?_
 refine rg rfl (e (fT MB fun ae w4 bw aX aB=>nl (fy ?_)))
 refine fc ?_
 refine fc ?_
 refine fN ?_
 refine rg rfl (p (aC (str s) rfl) (e (cl xF (yw s _) rfl fun bD w14 aY=> ?_)))
 obtain ⟨ai,rfl,hb14,ay,hE14⟩:=aY
 have U:Wk w w14:=Md.trans aX.md hE14
 have bA:ae < w4.heap.size:=(Array.getElem?_eq_some_iff.1 aB).1
 have hb4x:=hE14.aA aB
 have hb14l:=(Array.getElem?_eq_some_iff.1 ay).1
 have hl:s.length≤65536:=by omega
 refine nl (fy ?_)
 apply A2 (qf) ((gq 1 (a7 s))) (fun W=>W.heap[ai]? =some (.cells [str s].toArray 9 (0,0))) (fun pre I=> ∃ v vs,I.heap[ae]? =some (.cells [v].toArray 74 (0,0))∧World.ownsRow I w14.heap.size 105 2 v (ij 1 (pre.map Prod.snd)).length (gN vs)∧eL I w14.heap.size 9 vs (ij 1 (pre.map Prod.snd))∧I.heap[ai]? =some (.cells [str s].toArray 9 (0,0))∧w14.heap.size≤I.heap.size∧Wk w I) rfl xN (fun _=>rfl) (yv s ai hl) (⟨.slice none 0 0,[],hb4x,World.ownsRow_nil _ _ _ _,eL.nil _ _ _,ay,Nat.le_refl _,U⟩) (fun _ _ ⟨_,_,_,_,_,h,_⟩=>h) (fun pre A C F ⟨v,vs,h1,h2,aI,h3,h5,h4⟩ hm hF=>⟨v,vs,ry h1 hm hF,BG h2 hm hF,aI.md hm (fun k hk cur z=>(hF k hk).2 cur _ z),ry h3 hm hF,Nat.le_trans h5 hm.size,BH h4 hm U.size hF⟩)
 intro l x I K V
 refine sq (fun av Z=>rg rfl (p (bF (.int .i64 x.1) rfl) (nl (tn (Z _ _ (rg rfl (p (bF (str x.2) rfl) (nl ?_))))))))
 exact tn (V)
 intro l pre x rest I bi am
 obtain ⟨v,vs,aq,ab,hrw,ao,hsz,al⟩:=am
 obtain ⟨hpl,hx1,bj⟩:=uo bi
 have hll:=j6 s
 have hsR:=(Array.getElem?_eq_some_iff.1 ao).1
 have hxl:x.2.length≤s.length:=ue (by rw [bj]; simp)
 have hfl:=oy x.2 []
 have hrl:=uS (pre.map Prod.snd) 1
 rw [List.length_map] at hrl
 refine aA (sq (fun av Z=>rg rfl (p mv (e (cl Eb (GI x.2 _ (by omega)) rfl fun bH w18 aZ=> ?_)))))
 obtain ⟨aa,aN⟩:=aZ
 obtain ⟨j,ag,rfl⟩:=bW aa
 have hS18:=(aM aa).2
 have hc18:=(aM aa).1
 refine p ak (nl (tn (Z _ _ ?_)))
 refine c7 (fun ah wC=> ∃ (n cp:Nat),(n≤(bC [] x.2).length)∧(n≤cp)∧(j5 (bC [] x.2)=(bC [] x.2).take n)∧(Wk w18 wC)∧(ah 4= .pointer (some ⟨ae,0,none⟩))∧(ah 5= .int .i64 x.1)∧(ah 7= .slice j n cp)) ?_ ?_
 refine sq (fun aF an=>rg rfl (p mv (p (ba dx rfl rfl) (p mv (nl (tn (an _ _ (aA ?_))))))))
 refine lp (fun ax O wI=> ∃ (i:Nat),(i≤(bC [] x.2).length)∧(∀ q,q < i→oV ((bC [] x.2).getD q [])=false)∧(Wk w18 wI)∧(O 4= .pointer (some ⟨ae,0,none⟩))∧(O 5= .int .i64 x.1)∧(O 7= .slice j (bC [] x.2).length ag)∧(O 19= .slice j (bC [] x.2).length ag)∧(O 20= .int .i64 (bC [] x.2).length)∧(O 21= .int .i64 i)∧((bC [] x.2).length - i=ax)) _ ⟨0,(by omega),((fun q hq=>by omega)),(Md.refl _ _),rfl,rfl,rfl,rfl,rfl,rfl,rfl⟩ ?_
 rintro ax O wI ⟨i,hi,au,Y,bc,bd,bg,a8,a9,bb,rfl⟩
 refine fx 4 bc (fx 5 bd (fx 7 bg (fx 19 a8 (fx 20 a9 (fx 21 bb (sq (fun bl aP=>rg rfl (p (lt rfl rfl) (nl (tn (aP _ _ (sq (fun bo aR=>cd rfl (fun a1=> ?_) (fun a1=> ?_))))))))))))))
 refine az (tn (aR _ _ (sq (fun bq aS=>aA (sq (fun br aT=>rg rfl (p (aC (.int .i64 i) rfl) (p (aJ bE rfl rfl (by omega) (aw.ok (hS18.wk Y) (bp (by omega)))) ?_))))))))
 refine p (ld bz rfl (bu.get (i:=i) (hS18.wk Y) (by omega))) (p (bF (.int .i64 i) rfl) (p ak (nl (tn (aT _ _ (sq (fun bs aV=>rg rfl (p mv ?_))))))))
 refine p (fD 0 u9 rfl rfl (List.length_pos_iff.2 (tq _ _ _ (Hn (by omega))).1)) (p (bf rfl rfl) (nl (tn (aV _ _ (cd rfl (fun a2=> ?_) (fun a2=> ?_))))))
 refine sq (fun bt aW=>rg rfl (p (aC (.slice j (bC [] x.2).length ag) rfl) (p (aC (.int .i64 i) rfl) (p (aC (.int .i64 i) rfl) (p (EK bE rfl rfl rfl (by omega)) (p ak (nl ?_)))))))
 exact tn (aW _ _ (ext (ks (by decide) (te _ (te _ (be (tn (⟨i,i,hi,(Nat.le_refl _),(qM hi au (.inr (decide_eq_true (by omega)))),Y,rfl,rfl,rfl⟩))))))))
 refine az (bn (tn (aS _ _ (rg rfl (p (ad rfl rfl (bm (by omega))) (p mv (nl (tn ?_))))))))
 exact ⟨_,by omega,i+1,(by omega),((fun q hq=>by rcases Nat.lt_or_ge q i with h | h <;> first | exact au q h | (rw [show q=i by omega]; exact decide_eq_false (by omega)))),Y,rfl,rfl,rfl,rfl,rfl,rfl,rfl⟩
 exact ext (te _ (te _ (be (tn (⟨(bC [] x.2).length,ag,(Nat.le_refl _),hc18,((by have h:=qM hi au (.inl (by omega)); rwa [show i=(bC [] x.2).length from by omega] at h)),Y,rfl,rfl,rfl⟩)))))
 rintro ah wC ⟨n,cp,hn,hcp,aE,aj,a4,a5,a6⟩
 refine fx 4 a4 (fx 5 a5 (fx 7 a6 ?_))
 have E:Wk I wC:=Md.trans aN aj
 have hbC:=E.aA aq
 have hovC:=aG ab E
 have hrwC:=hrw.wk E
 have hbtC:=E.aA ao
 have aD:Wk w wC:=Md.trans al E
 refine sq (fun aF an=>rg rfl (p (aC (.slice j n cp) rfl) (p (ba dx rfl rfl) (p (gt rfl rfl) (nl (tn (an _ _ (cd rfl (fun a3=> ?_) (fun a3=> ?_)))))))))
 have ac:h8 x.2 (1 +pre.length)= [(x.1,(bC [] x.2).take n)]:=by unfold h8; rw [aE,if_neg (fun h=>by have h:=congrArg List.length h; rw [List.length_take,List.length_nil] at h; omega),← hx1]
 refine rg rfl (p (ld m9 rfl ((aQ hbC).trans rfl)) (p (aC (.int .i64 x.1) rfl) (p (aC (.slice j n cp) rfl) (p (bZ (ps:= [(0,.int .i64 x.1),(1,.slice j n cp)]) (L:= [.int .i64 x.1,.slice j n cp]) Lq rfl (rfl)) (e (im Bw rfl rfl rfl fun aH w41 hb41 G aK=> ?_))))))
 have aL:bG w41.heap aH [.int .i64 x.1,.slice j n cp]:=aK
 have hE41:Wk w w41:=Md.trans aD G.md
 have hov41:=aG hovC G.md
 have hb41:=G.md.aA hbC
 refine e (ap Bw (hov41) rfl (by have :=G.size; have :=E.size; omega) rfl (aw.cU aL) (rfl) (rfl) (by omega) (by omega) fun bk w42 ar J bB bx=> ?_)
 have hE42:=Wk.own hE41 hov41 J U.size
 have hbt42:=J.aA (G.md.aA hbtC) (fun h=>by have :=cG hov41 h; omega)
 have hb42:=J.aA hb41 (fun h=>cw hov41 hb41 (by decide) h)
 have hrw42:=(hrwC.wk G.md).md J (eT hov41 (by decide))
 have ho42f:=bS (aG (aG aa aj) G.md) J (fun k hk=>gV (aG (aG aa aj) G.md) hov41 (by decide) hk)
 refine e (cj yb rfl rfl (dU ar) hb42 (by simp) fun w6 M hB6=> ?_)
 have aO:Wk w w6:=Md.trans' hE42 M (fun k hk h=>by omega)
 have hrw6:=(hrw42.md M (dM hb42 (by decide))).snoc (n:=x.1) (r:=(bC [] x.2).take n) (v:= .slice j n cp) (by rw [List.length_take,Nat.min_eq_left hn,List.map_take]; exact (Tg.fY (gi (bS ho42f M (fun k hk h=>cw ho42f hb42 (by decide) (h ▸ hk))) hsz)).clip hcp)
 exact nl (bn (⟨(gE.wk E).trans ((gE.wk G.md).trans ((gE.md J (oP hov41)).trans (gE.md M (fun k hk=>⟨_,_,_,hk ▸ hb42⟩)))),bk,vs++ [(x.1,.slice j n cp)],hB6,(by rw [List.map_append,show [x].map Prod.snd= [x.2] from rfl,jH,List.length_map,ac]; rw [List.length_append,uX]; exact bS ar M (fun k hk h=>cw ar hb42 (by decide) (h ▸ hk))),(by rw [List.map_append,show [x].map Prod.snd= [x.2] from rfl,jH,List.length_map,ac]; exact hrw6),M.aA hbt42 (fun h=>by omega),Nat.le_trans hsz (Nat.le_trans E.size (Nat.le_trans G.md.size (Nat.le_trans J.size M.size))),aO⟩))
 have ac:h8 x.2 (1 +pre.length)= []:=by unfold h8; rw [aE,if_pos (by rw [show n=0 by omega]; rfl)]
 exact az (bn (⟨gE.wk E,v,vs,hbC,(by rw [List.map_append,show [x].map Prod.snd= [x.2] from rfl,jH,List.length_map,ac]; rw [List.append_nil]; exact hovC),(by rw [List.map_append,show [x].map Prod.snd= [x.2] from rfl,jH,List.length_map,ac]; rw [List.append_nil]; exact hrwC),hbtC,Nat.le_trans hsz E.size,aD⟩))
 intro D I bv am V
 obtain ⟨v,vs,aq,ab,hrw,ao,hsz,al⟩:=am
 have hlt:=(Array.getElem?_eq_some_iff.1 V).1
 refine fy ?_
 refine fc ?_
 refine fN ?_
 refine rg rfl (p (ld m9 rfl ((aQ aq).trans rfl)) (p ak (p ak (nl (fy ?_)))))
 refine uV ?_
 refine yI rfl rfl rfl V ?_
 have hl:¬65536 < s.length:=by omega
 rw [uq] at ab hrw
 exact ⟨⟨v,by show Value.tuple #[v,.int .i64 0]=_; rw [if_neg hl],by rw [if_neg hl]; exact ⟨vs,gi (bS ab (nD _ _ _) (fun k hk h=>by obtain ⟨c,e,z,h1⟩:=oP ab k hk; rw [h,V] at h1; cases h1)) U.size,(hrw.md (nD _ _ _) (fun k hk cur z=>by rw [hk,V]; simp)).mono U.size⟩⟩,Md.trans' al (nD _ _ _) (fun k hk h=>by have :=U.size; omega)⟩
end Go.Hb.pj
end
section
set_option maxRecDepth 20000
set_option maxHeartbeats 1000000
namespace Go.Hb.lF
open Go.Hb.di
open Go.Proofs
open Go.Hb.eX Go.Hb.fH Go.Hb.iV Go.Hb.fP Go.Hb.iG Go.Hb.jP Go.Hb.kQ Go.Hb.kf Go.Hb.vH Go.Hb.gY Go.Hb.vI Go.Hb.pj Go.Hb.pf Go.Hb.gr Go.Hb.fS
theorem l0 {eof ln:Nat} {F F':aI} {hs:List Tx} {rows rows':List Rw} {row:List Tx} (a:bA eof F hs rows ln row= .ok (F',rows')):rows'.length≤rows.length:=by
 unfold bA at a
 repeat' split at a
 · unfold gO at a; split at a; cases a; cases a; exact Nat.le_refl _
 · unfold gT at a; repeat' split at a
   all_goals first | (cases a; done) | (cases a; exact Nat.le_refl _)
 · unfold jK at a; split at a; cases a; cases a; exact Nat.le_refl _
 · unfold jO at a; split at a; cases a; cases a; exact Nat.le_refl _
 · unfold ib at a; repeat' split at a
   all_goals first | (cases a; done) | (cases a; exact Nat.le_refl _)
 · unfold gM at a; repeat' split at a
   all_goals first | (cases a; done) | (cases a; exact (tP _ _ _ (by assumption)).1)
 · unfold gu at a; repeat' split at a
   all_goals first | (cases a; done) | (cases a; exact (tP _ _ _ (by assumption)).1)
 · unfold eN at a; repeat' split at a
   all_goals first | (cases a; done) | (cases a; exact (tP _ _ _ (by assumption)).1)
theorem nI {eof k:Nat} {F:aI} {hs:List Tx} :eH eof k F hs []= .ok F:=by cases k <;> simp [eH]
section
variable {eof k n:Nat} {F:aI} {hs:List Tx} {r:List Tx} {rest:List Rw} {T:Except (Nat×Nat) aI} (h:eH eof k F hs ((n,r)::rest)=T) (hk:rest.length+1≤k)
include h hk
theorem AU (h0:width (r.getD 0 [])=0):T= .error (n,110):=by
 obtain ⟨m,rfl⟩:∃ m,k=m+1:=⟨k - 1,by omega⟩
 rw [← h,eH,if_pos h0]
theorem AV (h0:width (r.getD 0 [])≠0) (h1:r.length≠width (r.getD 0 [])):T= .error (n,111):=by
 obtain ⟨m,rfl⟩:∃ m,k=m+1:=⟨k - 1,by omega⟩
 rw [← h,eH,if_neg h0,if_pos h1]
theorem uO (h0:width (r.getD 0 [])≠0) (h1:r.length=width (r.getD 0 [])) (h2:width (r.getD 0 [])≠4) (h3:r.getD 0 []∈hs):T= .error (n,112):=by
 obtain ⟨m,rfl⟩:∃ m,k=m+1:=⟨k - 1,by omega⟩
 have hw:width (r.getD 0 [])=2:=by
  unfold width at h0 h2 ⊢
  split
  · rfl
  · rename_i hn
    rw [if_neg hn] at h0 h2
    split at h2
    · exact absurd rfl h2
    · rename_i a; rw [if_neg a] at h0; exact absurd rfl h0
 rw [← h,eH,if_neg h0,if_neg (fun h4=>h4 h1),if_pos ⟨hw,h3⟩]
theorem uP {e:Nat×Nat} (h0:width (r.getD 0 [])≠0) (h1:r.length=width (r.getD 0 [])) (h2:width (r.getD 0 [])=2→r.getD 0 []∉hs) (h3:bA eof F hs rest n r= .error e):T= .error e:=by
 obtain ⟨m,rfl⟩:∃ m,k=m+1:=⟨k - 1,by omega⟩
 rw [← h,eH,if_neg h0,if_neg (fun h4=>h4 h1),if_neg (fun h4=>h2 h4.1 h4.2),h3]
theorem uQ {F':aI} {rows':List Rw} (h0:width (r.getD 0 [])≠0) (h1:r.length=width (r.getD 0 [])) (h2:width (r.getD 0 [])=2→r.getD 0 []∉hs) (h3:bA eof F hs rest n r= .ok (F',rows')):eH eof (k - 1) F' (hs++ [r.getD 0 []]) rows'=T∧rows'.length≤k - 1:=by
 obtain ⟨m,rfl⟩:∃ m,k=m+1:=⟨k - 1,by omega⟩
 refine ⟨?_,by have :=l0 h3; omega⟩
 rw [← h,eH,if_neg h0,if_neg (fun h4=>h4 h1),if_neg (fun h4=>h2 h4.1 h4.2),h3]; rfl
end
theorem vW {s:Tx} (h:65536 < s.length):eM s= .error (0,10):=by unfold eM; rw [if_pos h]
theorem kp {s:Tx} {e:Nat×Nat} (h:¬65536 < s.length) (h1:eH ((a7 s).length+1) (bh s).length fJ [] (bh s)= .error e):eM s= .error e:=by unfold eM; rw [if_neg h,h1]
theorem rT {s:Tx} {F:aI} {q:eK} (h:¬65536 < s.length) (h1:eH ((a7 s).length+1) (bh s).length fJ [] (bh s)= .ok F) (h2:F.rules.find? (jT F)=some q):eM s= .error (q.line,118):=by unfold eM; rw [if_neg h,h1]; simp only; rw [h2]
theorem vX {s:Tx} {F:aI} (h:¬65536 < s.length) (h1:eH ((a7 s).length+1) (bh s).length fJ [] (bh s)= .ok F) (h2:F.rules.find? (jT F)=none):eM s= .ok F:=by unfold eM; rw [if_neg h,h1]; simp only; rw [h2]
def l2 (s:Tx):Value:=match e7 s with | some (.agg cs)=>cs.getD 1 .nilFunc | _=> .nilFunc
theorem HZ (s:Tx):(e7 s).getD (.agg #[.int .i64 0,.nilFunc])= .agg [.int .i64 (width s:Nat),l2 s].toArray∧(e7 s).isSome=decide (width s≠0):=by
 rcases tT s with h | ⟨wd,f,h,hw,h0⟩
 · have h0:=zO h
   unfold l2
   rw [h,h0]; exact ⟨rfl,rfl⟩
 · unfold l2
   rw [h,hw,decide_eq_true h0]; exact ⟨rfl,rfl⟩
theorem H6 (s:Tx):[Value.int .i64 (width s:Nat),l2 s].all Value.oneCell'=true :=by
 rcases tT s with h | ⟨wd,f,h,hw,h0⟩ <;> unfold l2 <;> rw [h] <;> rfl
theorem zN {s:Tx} (h:width s≠0):∃ v,e7 s=some v∧∀ (wd:Nat) (f:Nat),v= .agg [.int .i64 (wd:Nat),.func (.func f) #[] #[]].toArray→l2 s= .func (.func f) #[] #[]:=by
 rcases tT s with h1 | ⟨wd,f,h1,hw,h0⟩
 · exact absurd (zO h1) h
 · refine ⟨_,h1,fun i a he=> ?_⟩
   unfold l2
   rw [h1,he]; rfl
theorem Be {f:Value→Option Value} {seen:List Tx} (k:Tx) (hf:∀ s:Tx,(f (str s)).getD (.int .i64 0)= .int .i64 (seen.count s:Nat)) (s:Tx):(bj f (str k) (.int .i64 (seen.count k+1:Nat)) (str s)).getD (.int .i64 0)= .int .i64 ((seen++ [k]).count s:Nat):=by
 rw [List.count_append]
 by_cases h:s=k
 · subst h; rw [oR]; simp
 · rw [nH (fun h2=>h (str_inj.1 h2)),hf s,List.count_singleton,show (k==s)=false from by simpa using fun h2=>h h2.symm]; rfl
theorem bU.Bc {w w':World} {B:Nat} {H:bO} {F:aI} {R:eI} {rows:List Rw} {ln:Nat} {seen seen':List Tx} {f:Value→Option Value} (h:bU w B H F R rows ln seen) (hm:Md (fun k=>k=H.ms) w w') (hf:bP w'.heap H.ms fM f) (hd:∀ s:Tx,(f (str s)).getD (.int .i64 0)= .int .i64 (seen'.count s:Nat)):bU w' B H F R rows ln seen':=by
 obtain ⟨g,hg,hg2⟩:=h.tm
 obtain ⟨f0,i,_⟩:=h.sm
 have hT:TF w [1] (fun k=>k=H.ms):=TF.eq (dt i) (by decide)
 exact ⟨hm.gw hT h.cells (by decide),h.rws.md hm (fun k hk cur z a=>hT.no (cV a) (by decide) hk),h.rt.md hm (fun k hk cur z a=>hT.no (cV a) (by decide) hk),⟨f,hf,hd⟩,⟨g,hg.md hm (fun h2=>h.ne.1 h2.symm),hg2⟩,bI h.on hm hT (by decide),h.lo,h.ne⟩
theorem cD.ms {w w':World} {B:Nat} {H:bO} {F a:aI} {V:dW} {R:eI} {rows:List Rw} {ln:Nat} {seen:List Tx} (h:cD w B H.fb H.mc a V) (i:bU w B H F R rows ln seen) (hm:Md (fun k=>k=H.ms) w w'):cD w' B H.fb H.mc a V:=by
 obtain ⟨g,hg,_⟩:=i.sm
 exact h.md (L:= [1]) hm (TF.eq (dt hg) (by decide)) (by decide) (fun h=>i.ne.2.1 h.symm)
theorem dN.ms {w w':World} {B:Nat} {H:bO} {F:aI} {R:eI} {rows:List Rw} {ln:Nat} {seen:List Tx} (a:bU w B H F R rows ln seen) (hm:Md (fun k=>k=H.ms) w w'):dN B H w w':=hm.mono fun k _ hk=>⟨hk ▸ a.lo.2.1,.inl hk⟩
structure kR (w0 w:World) (H:bO) (b2 b3 bt:Nat):Prop where
 c2:w.heap[b2]? =some (.cells [.pointer none].toArray 22 (0,0))
 c3:w.heap[b3]? =some (.cells [.int .i64 0,.int .i64 0,.int .i64 0].toArray 25 (0,0))
 lo:w0.heap.size≤b2∧w0.heap.size≤b3∧b2≠b3
 tb:∃ f,bP w.heap bt fM f∧∀ s,f (str s)=e7 s
 ne:bt≠H.ms∧bt≠H.mt∧bt≠H.mc
 wk:Wk w0 w
theorem kR.md {j w w':World} {H:bO} {a i bt:Nat} (h:kR j w H a i bt) (hm:Wk w w'):kR j w' H a i bt:=by
 obtain ⟨f,hf,p⟩:=h.tb
 exact ⟨Wk.aA hm h.c2,Wk.aA hm h.c3,h.lo,⟨f,hf.wk hm,p⟩,h.ne,h.wk.trans hm⟩
theorem kR.mw {a w w':World} {H:bO} {i j bt:Nat} {F:aI} {R:eI} {V:dW} {rows:List Rw} {ln:Nat} {seen:List Tx} (h:kR a w H i j bt) (hF:cD w a.heap.size H.fb H.mc F V) (p:bU w a.heap.size H F R rows ln seen) (hm:dN a.heap.size H w w'):kR a w' H i j bt:=by
 obtain ⟨f,hf,q⟩:=h.tb
 obtain ⟨f1,hf1,_⟩:=p.sm
 obtain ⟨f2,s,_⟩:=p.tm
 obtain ⟨f3,A,_⟩:=hF.cm
 have hn:=fun e (hl:([94,91,165,56,159,157,5]:List Nat).contains (e+2)=false)=>Wr.ne (B:=a.heap.size) (dt hf1) (dt s) (dt A) hl
 refine ⟨hm.aA h.c2 (fun hk=>hn 22 (by decide) _ hk _ _ h.c2),hm.aA h.c3 (fun hk=>hn 25 (by decide) _ hk _ _ h.c3),h.lo,⟨f,hf.md hm ?_,q⟩,h.ne,hm.wk h.wk (Nat.le_refl _)⟩
 rintro ⟨_,h1 | h1 | h1 | h1⟩
 · exact h.ne.1 h1
 · exact h.ne.2.1 h1
 · exact h.ne.2.2 h1
 · rw [dt hf] at h1; exact absurd h1 (by decide)
def Cm (w':World) (B:Nat) (F:aI) (v:Value):Prop := ∃ fb mc V,v= .tuple #[.pointer (some ⟨fb,0,none⟩),.agg [.int .i64 0,.int .i64 0,.int .i64 0].toArray]∧cD w' B fb mc F V∧(∃ seen,ik F [] seen)∧Nx F
def Cl (e:Nat×Nat) (v:Value):Prop :=v= .tuple #[.pointer none,.agg [.int .i64 1,.int .i64 (e.1:Nat),.int .i64 (e.2:Nat)].toArray]
def lK (s:Tx) (w:World) (v:Value) (w':World):Prop :=(match eM s with | .ok F=>Cm w' w.heap.size F v | .error e=>Cl e v)∧Wk w w'
theorem lK.no {s:Tx} {w w':World} {l e:Nat} (h:eM s= .error (l,e)) (hm:Wk w w'):lK s w (.tuple #[.pointer none,.agg [.int .i64 1,.int .i64 (l:Nat),.int .i64 (e:Nat)].toArray]) w':=by
 unfold lK; rw [h]; exact ⟨rfl,hm⟩
theorem mQ {n:Nat} {G:List Nat} {fn:Func} {σ:Nat→Value} {s:Tx} {w W:World} {H:bO} {i j bt l e:Nat} (p:fn.results= #[.cell 2 22,.cell 3 25]) (hlt:3 < n) (q:σ 2= .pointer (some ⟨i,0,none⟩)) (A:σ 3= .pointer (some ⟨j,0,none⟩)) (a:kR w W H i j bt) (C:eM s= .error (l,e)):qb ⟨n,[{target:= .fn (.func 31) #[.pointer (some ⟨i,0,none⟩),.pointer (some ⟨j,0,none⟩)],args:= #[]}],G,none⟩ (lG Tryz.prog fn (lK s w)) (.panic (fL 25 l (e:Nat))) σ W:=
 Ko p hlt q A ⟨_,a.c2⟩ ⟨_,rfl,a.c3⟩ a.lo.2.2 (fun w' hm=>lK.no C (a.wk.trans' hm (fun k hk h=>by rcases h with rfl | rfl; have :=a.lo.1; omega; have :=a.lo.2.1; omega)))
theorem FU {x:Nat} (h:x≠0):dw fJ x=false :=by
 unfold dw fJ dK
 simp [h]
theorem Wk.dr {w:World} :Wk w w.drew:=(Md.refl _ _).drew
theorem pB (s:Tx) (w:World) (hs:s.length≤1048576):
 aU Tryz.prog 10 (List.toArray [str s]) w (lK s w):=by
 refine Gj [2,3] Tryz.func10 rfl Tryz.ntmps10 rfl ?_
 refine fc ?_
 refine fN ?_
 refine rg rfl (e (fT Mx fun ah dF hb2 bI hB2=>e (fT iU fun ai w3 dk aT b9=> ?_)))
 have hz2:=bI.size
 have hz3:=aT.size
 have cg:Wk w w3:=bI.md.trans aT.md
 have hp2:=Wk.aA aT.md hB2
 refine nl (fy ?_)
 refine fc ?_
 refine fN ?_
 refine rg rfl (p (aC (str s) rfl) (e (cl xA (A3 s _ hs) rfl fun dz w15 hR15=> ?_)))
 obtain ⟨⟨de,rfl,hcs⟩,hE15⟩:=hR15
 have hE15x:=cg.trans hE15
 have hq2:=Wk.aA hE15 hp2
 have hq3:=Wk.aA hE15 b9
 have hz15:=hE15.size
 refine p mv (p (xt rfl rfl) (p (xt rfl rfl) (p ak (p ak (nl (fy ?_))))))
 refine fc ?_
 refine fc ?_
 refine fN ?_
 refine rg rfl (p mv (p (bB rfl rfl) (nl (fy ?_))))
 refine fN ?_
 refine cd rfl (fun a0=> ?_) (fun a0=> ?_)
 have bL:65536 < s.length:=Classical.byContradiction fun h=>a0 (by rw [if_neg h])
 refine sq (fun bV aM=>rg rfl (p mv (p (bZ (ps:= [(0,.int .i64 1),(2,.int .i64 (if 65536 < s.length then 10 else 0))]) (L:= [.int .i64 1,.int .i64 0,.int .i64 (if 65536 < s.length then 10 else 0)]) nL rfl (rfl)) (e (cj sR rfl rfl (v:= .pointer none) rfl hq2 (by decide) fun w5 bF cc=>e (gj fU rfl rfl rfl rfl (bF.aA hq3 (fun h=>by omega)) (by decide) fun w6 bG hB6=>nl (tn (aM _ _ ?_))))))))
 refine rt (uM ?_)
 exact GF (q8 rfl (jJ (uT rfl rfl ((aQ (bG.aA cc (fun h=>by omega))).trans rfl))) (jJ (c9 rfl rfl rfl (fun j dq=>by rw [Nat.zero_add,aQ hB6,if_pos bL]; simp)))) (lK.no (vW bL) ((hE15x.trans' bF (fun k hk h=>by omega)).trans' bG (fun k hk h=>by omega)))
 have hsm:¬65536 < s.length:=fun h=>a0 (by rw [if_pos h]; decide)
 rw [if_neg hsm] at hcs
 obtain ⟨vs,bR,cN⟩:=hcs
 obtain ⟨aF,aG,rfl⟩:=bW bR
 refine az (fy ?_)
 refine fc ?_
 refine fN ?_
 refine rg rfl (p (aC (str s) rfl) (e (cl xB (BA s _ hs) rfl fun dA bS cv=> ?_)))
 obtain ⟨⟨df,rfl,bN⟩,hE24⟩:=cv
 rw [if_neg hsm] at bN
 obtain ⟨du,og,rfl⟩:=bW bN
 have hE24x:=hE15x.trans hE24
 have hll:=j6 s
 have hz24:=hE24.size
 refine p mv (p (xt rfl rfl) (p (xt rfl rfl) (p ak (p ak (nl (fy ?_))))))
 refine fc ?_
 refine fN ?_
 refine rg rfl (e (oK fun I dI di bJ b7=> ?_))
 have hz27:=bJ.size
 refine p (bZ (ps:= [(1,.map (some I))]) (L:= [.int .i64 0,.string ⟨⟨[]⟩⟩,.string ⟨⟨[]⟩⟩,.int .u16 0,.int .u16 0,.int .u16 0,.int .u16 0,.int .u16 0,.int .i64 0,.slice none 0 0,.slice none 0 0,.slice none 0 0,.slice none 0 0,.map (some I)]) Ly rfl (rfl)) (e (od rfl fun E w29 dj aS b8=> ?_))
 have hz29:=aS.size
 refine p mv (p mv (p (ba dx rfl rfl) (p (bc (((a7 s).length+1:Nat):Int) rfl rfl (aR (by omega) (by omega))) (e (oK fun J dJ dl aH ca=> ?_)))))
 have hz34:=aH.size
 refine e (oK fun M w35 dm aq cb=> ?_)
 have hz35:=aq.size
 refine p (bZ (ps:= [(0,.pointer (some ⟨E,0,none⟩)),(1,.slice aF (bh s).length aG),(3,.int .i64 ((a7 s).length+1:Nat)),(4,.map (some J)),(5,.map (some M))]) (L:= [.pointer (some ⟨E,0,none⟩),.slice aF (bh s).length aG,.int .i64 0,.int .i64 ((a7 s).length+1:Nat),.map (some J),.map (some M),.slice none 0 0]) Lz rfl (rfl)) (e (od rfl fun A w37 dn an aL=> ?_))
 have hz37:=an.size
 have hf37:=Wk.aA (aH.md.trans (aq.md.trans an.md)) b8
 refine p ak (nl (fy ?_))
 refine fc ?_
 refine fN ?_
 have Y:(fun w'=>Md (fun k=>k=E) w37 w') w37.drew:=(Md.refl _ _).drew
 refine bD (fun w'=>Md (fun k=>k=E) w37 w') rfl wide Y (hp 0 rfl (by kernel_rfl) (fun _ _=>mv) Y (hp 1 rfl (by kernel_rfl) (fun _ _=>nc rfl) Y (hp 2 rfl (by kernel_rfl) (fun _ _=>fa eR rfl) Y (hp 3 rfl (by kernel_rfl) (fun w' G=>ld ew rfl (Md.aE G ((aQ aL).trans rfl) (fun h=>by omega))) Y (hp 4 rfl (by kernel_rfl) (fun _ _=>mv) Y (hp 5 rfl (by kernel_rfl) (fun _ _=>nc rfl) Y (hp 6 rfl (by kernel_rfl) (fun _ _=>fa eR rfl) Y ?_)))))))
 refine hp 7 rfl (by kernel_rfl) (fun w' G=>ld ew rfl (Md.aE G ((aQ aL).trans rfl) (fun h=>by omega))) Y (hp 8 rfl (by kernel_rfl) (fun _ _=>nc rfl) Y (hp 9 rfl (by kernel_rfl) (fun _ _=>fa eA rfl) Y (hp 10 rfl (by kernel_rfl) (fun _ _=>fa nw rfl) Y (he 11 rfl (by kernel_rfl) (cj fV rfl rfl (v:= .int .i64 (1:Nat)) rfl hf37 (by show 0 +0 +0 < 14; decide) fun w8 cs ce=> ?_)))))
 have ar:(fun w'=>Md (fun k=>k=E) w37 w') w8:=Y.trans' cs (fun _ _ h=>h)
 refine ⟨ar,?_⟩
 refine hp 12 rfl (by kernel_rfl) (fun _ _=>nc rfl) ar (hp 13 rfl (by kernel_rfl) (fun _ _=>fa eA rfl) ar (hp 14 rfl (by kernel_rfl) (fun _ _=>fa tD rfl) ar (he 15 rfl (by kernel_rfl) (cj fV rfl rfl (v:= .int .i64 (3:Nat)) rfl ce (by show _ < 14; decide) fun w9 hM9 cf=> ?_))))
 have aZ:(fun w'=>Md (fun k=>k=E) w37 w') w9:=ar.trans' hM9 (fun _ _ h=>h)
 refine ⟨aZ,?_⟩
 refine hn (by kernel_rfl) (fy ?_)
 refine fc ?_
 refine F3 IT #[.pointer (some ⟨ah,0,none⟩),.pointer (some ⟨ai,0,none⟩)] rfl (by decide) ?_
 refine fc ?_
 refine fN ?_
 refine rg rfl (e (cl DZ (H4 _) rfl fun dB w53 cw=> ?_))
 obtain ⟨bt,rfl,dp,cX,bs⟩:=cw
 have ch:Wk bS w37:=bJ.md.trans (aS.md.trans (aH.md.trans (aq.md.trans an.md)))
 have am:Md (fun k=>k=E) w37 w53:=aZ.trans' bs (fun _ _ h=>h.elim)
 have ap:Wk bS w53:=Md.trans' ch am (fun k hk h=>by omega)
 have hsz53:=am.size
 have hE53x:=hE24x.trans ap
 have cC:w53.heap[E]? =some (.cells (kB fJ ⟨.slice none 0 0,.slice none 0 0,.slice none 0 0,.slice none 0 0,[],[]⟩ I).toArray 89 (0,0)):=Wk.aA bs cf
 have hcr:w53.heap[A]? =some (.cells (oU (⟨A,E,J,M,I,(a7 s).length+1⟩:bO) ⟨.slice aF (bh s).length aG,vs,.slice none 0 0⟩ 0).toArray 92 (0,0)):=am.aA aL (fun h=>by omega)
 have cI:bP w53.heap I (lg .u16) (fun _=>none):=bP.md (bP.wk (bP.nil b7) (aS.md.trans (aH.md.trans (aq.md.trans an.md)))) am (fun h=>by omega)
 have cJ:bP w53.heap J fM (fun _=>none):=bP.md (bP.wk (bP.nil ca) (aq.md.trans an.md)) am (fun h=>by omega)
 have cK:bP w53.heap M (lg .u16) (fun _=>none):=bP.md (bP.wk (bP.nil cb) an.md) am (fun h=>by omega)
 have ci:cD w53 w.heap.size E I fJ ⟨.slice none 0 0,.slice none 0 0,.slice none 0 0,.slice none 0 0,[],[]⟩:=⟨cC,World.ownsRow_nil _ _ _ _,World.ownsRow_nil _ _ _ _,c4.nil _ _ _,World.ownsRow_nil _ _ _ _,World.ownsRow_nil _ _ _ _,c4.nil _ _ _,⟨_,cI,fun _=>rfl⟩,⟨by omega,by omega⟩,rfl⟩
 have hR0:bU w53 w.heap.size (⟨A,E,J,M,I,(a7 s).length+1⟩:bO) fJ ⟨.slice aF (bh s).length aG,vs,.slice none 0 0⟩ (bh s) 0 []:=⟨hcr,(((Tg.fY bR).mono (by omega)).wk (hE24.trans ap)).LK,(cN.mono (by omega)).wk (hE24.trans ap),⟨_,cJ,fun _=>rfl⟩,⟨_,cK,fun x bk=>by rw [FU bk]; rfl⟩,World.ownsRow_nil _ _ _ _,⟨by show w.heap.size≤A; omega,by show w.heap.size≤J; omega,by show w.heap.size≤M; omega⟩,⟨by show J≠M; omega,by show J≠I; omega,by show M≠I; omega⟩⟩
 have hrl:=q6 s
 have cB:St w53 w.heap.size (⟨A,E,J,M,I,(a7 s).length+1⟩:bO) fJ (bh s) 0 []:=⟨_,_,ci,hR0,⟨by show 0 +0 +0 +0 +(bh s).length≤70000; omega,by show 0 +(bh s).length≤70000; omega,fun q hq=>by have h:=q7 hq; exact ⟨h.2.2.1,by omega,fun x bk=>by have :=(h.2.2.2.2 x bk).2; omega⟩,.inl rfl,fun l hl=>by cases hl⟩⟩
 have cW:gG fJ []:=fun k hk _=>by have h:∀ k∈cO,fJ.sp.getD (cO.idxOf k) 0=0:=by decide
                                  exact h k hk
 have cL:Nx fJ:=⟨fun l hl=>(by cases hl),fun l hl=>(by cases hl)⟩
 have hsz9:=aZ.size
 have cM:kR w w53 (⟨A,E,J,M,I,(a7 s).length+1⟩:bO) ah ai bt:=⟨Wk.aA (hE24.trans ap) hq2,Wk.aA (hE24.trans ap) hq3,⟨by omega,by omega,by omega⟩,cX,⟨by show bt≠J; omega,by show bt≠M; omega,by show bt≠I; omega⟩,hE53x⟩
 refine p ak (nl (fy ?_))
 refine fc ?_
 refine fN ?_
 refine aA (lp (fun br aD wI=> ∃ (k:Nat) (F:aI) (rows:List Rw) (ln:Nat) (seen:List Tx),(eH (⟨A,E,J,M,I,(a7 s).length+1⟩:bO).eof k F seen rows=eH ((a7 s).length+1) (bh s).length fJ [] (bh s))∧(rows.length≤k)∧(St wI w.heap.size (⟨A,E,J,M,I,(a7 s).length+1⟩:bO) F rows ln seen)∧(gG F seen)∧(Nx F)∧(kR w wI (⟨A,E,J,M,I,(a7 s).length+1⟩:bO) ah ai bt)∧(aD 2= .pointer (some ⟨ah,0,none⟩))∧(aD 3= .pointer (some ⟨ai,0,none⟩))∧(aD 8= .pointer (some ⟨A,0,none⟩))∧(aD 9= .map (some bt))∧(rows.length=br)) _ ⟨(bh s).length,fJ,bh s,0,[],rfl,(Nat.le_refl _),cB,cW,cL,cM,rfl,rfl,rfl,rfl,rfl⟩ ?_)
 rintro br aD wI ⟨k,F,rows,ln,seen,hX,hk,G,hsp,hnx,bb,cP,cQ,cR,cS,rfl⟩
 refine fx 2 cP (fx 3 cQ (fx 8 cR (fx 9 cS ?_)))
 obtain ⟨V,R,hF,ac,aj⟩:=G
 obtain ⟨vr,vs,vn⟩:=R
 obtain ⟨bo,cr1,hv⟩:=ac.rws.slice
 obtain rfl :vr= .slice bo rows.length cr1:=hv
 refine sq (fun bV aM=>sq (fun c6 ck=>rg rfl (p (aC (.pointer (some ⟨A,0,none⟩)) rfl) (p (nc rfl) (p (fa oE rfl) (p (ld m9 rfl ((aQ ac.cells).trans rfl)) (p (ba rF rfl rfl) ?_)))))))
 refine p (gt rfl rfl) (nl (tn (ck _ _ (cd rfl (fun a1=> ?_) (fun a1=> ?_)))))
 obtain ⟨⟨n,r⟩,rest,rfl⟩:∃ q rest,rows=q::rest:=by
  cases rows with
  | nil=>exact absurd a1 (by simp)
  | cons q rest=>exact ⟨q,rest,rfl⟩
 have hrow:=aj.row (n,r) (List.mem_cons_self ..)
 have hbl:=aj.len
 have hbs:=aj.sl
 simp only [List.length_cons] at hbl hbs hk
 refine az (tn (aM _ _ (aA (sq (fun c7 cn=>rg rfl (p (aC (.pointer (some ⟨A,0,none⟩)) rfl) (e (cl xC (BK w.heap.size (⟨A,E,J,M,I,(a7 s).length+1⟩:bO) F ⟨.slice bo (rest.length+1) cr1,vs,vn⟩ n r rest ln seen wI ac) rfl fun dC w61 cx=> ?_))))))))
 obtain ⟨⟨R1,hR1⟩,hT1,hM1⟩:=cx
 obtain ⟨bm,bq,rfl⟩:=hT1.slice
 have hF1:=hF.rb ac hM1
 have hob1:=bb.mw hF ac (dN.rb ac hM1)
 have ds:0 < r.length:=List.length_pos_iff.2 hrow.1
 have hB1:=ik.k4 aj
 have hval:=HZ (r.getD 0 [])
 obtain ⟨dh,cH,bQ⟩:=hob1.tb
 refine p ak (nl (tn (cn _ _ (sq (fun c8 co=>rg rfl (p (aC (.map (some bt)) rfl) (p mv (p (aJ bE rfl rfl (by omega) (aw.ok (hT1.bH.2) (bp (by omega)))) ?_))))))))
 refine p (ld bz rfl (bu.get (i:=0) hT1.bH.2 (by omega))) (p (Ad iT MJ fw (cH) rfl rfl (⟨_,rfl⟩) ((congrArg (fun o=>Option.getD o _) (bQ (r.getD 0 []))).trans hval.1) ((congrArg Option.isSome (bQ (r.getD 0 []))).trans hval.2)) (p mv (p (xt rfl rfl) (p (xt rfl rfl) (e (fT ME fun b1 w11 hb11 ct b4=>e (gj FO rfl rfl rfl (H6 _) b4 (by decide) fun w12 cr hB12=> ?_)))))))
 have hE12:Wk w61 w12:=ct.md.trans' cr (fun k hk h=>by omega)
 have hb12:w12.heap[b1]? =some (.cells [.int .i64 (width (r.getD 0 []):Nat),l2 (r.getD 0 [])].toArray 99 (0,0)):=hB12
 have hF2:=hF1.wk hE12
 have hR2:=hR1.wk hE12
 have hT2:=hT1.wk hE12
 have hob2:=hob1.md hE12
 refine p ak (nl (tn (co _ _ (sq (fun da cp=>rg rfl (p (aC (.pointer (some ⟨A,0,none⟩)) rfl) (p mv ?_)))))))
 refine eP rfl (cz eZ (e9 A n _ 110 w12 hR2.bM (by decide)) rfl fun dD c5 cy=> ?_) (fun c w' U ao hF=>by
  obtain ⟨rfl,hb,rfl⟩:=U
  exact mQ rfl (by decide) ((hF 2 (.head _)).trans rfl) ((hF 3 (.tail _ (.head _))).trans rfl) hob2 (kp hsm (AU hX hk (Classical.not_not.1 (of_decide_eq_false hb)))))
 obtain ⟨rfl,Z,rfl⟩:=cy
 have Z:width (r.getD 0 [])≠0:=of_decide_eq_true Z
 refine nl (tn (cp _ _ (sq (fun db cq=>rg rfl (p (aC (.pointer (some ⟨A,0,none⟩)) rfl) (p mv (p (ba dx rfl rfl) (p (fa ze rfl) ?_))))))))
 refine p (ld bT rfl ((aQ hb12).trans rfl)) (p (bf rfl rfl) ?_)
 refine eP rfl (cz eZ (e9 A n _ 111 c5 hR2.bM (by decide)) rfl fun dE w79 cA=> ?_) (fun c w' U ao hF=>by
  obtain ⟨rfl,hb,rfl⟩:=U
  exact mQ rfl (by decide) ((hF 2 (.head _)).trans rfl) ((hF 3 (.tail _ (.head _))).trans rfl) hob2 (kp hsm (AV hX hk Z (fun h=>of_decide_eq_false hb (by rw [h])))))
 obtain ⟨rfl,aa,rfl⟩:=cA
 have aa:r.length=width (r.getD 0 []):=by have :=of_decide_eq_true aa; omega
 refine nl (tn (cq _ _ (sq (fun dc bw=> ?_))))
 obtain ⟨dw,cT,cU⟩:=hR2.sm
 have hS14:(fun w'=>Wk w79 w') w79.drew:=(Md.refl _ _).drew
 refine bD (fun w'=>Wk w79 w') rfl wide hS14 (hp 0 rfl (by kernel_rfl) (fun _ _=>aC (.pointer (some ⟨A,0,none⟩)) rfl) hS14 (hp 1 rfl (by kernel_rfl) (fun _ _=>fa ze rfl) hS14 (hp 2 rfl (by kernel_rfl) (fun w' G=>ld bT rfl (Wk.aE G ((aQ hb12).trans rfl))) hS14 (hp 3 rfl (by kernel_rfl) (fun _ _=>bf rfl rfl) hS14 (hp 4 rfl (by kernel_rfl) (fun _ _=>mv) hS14 (iQ (t:=84) rfl (fun ax=> ?_) (fun ax=> ?_)))))))
 refine a9 5 rfl (by kernel_rfl) rfl rfl rfl rfl hS14 ?_
 refine a9 6 rfl (by kernel_rfl) rfl rfl rfl rfl hS14 ?_
 refine a9 7 rfl (by kernel_rfl) rfl rfl rfl rfl hS14 ?_
 refine a9 8 rfl (by kernel_rfl) rfl rfl rfl rfl hS14 ?_
 refine a9 9 rfl (by kernel_rfl) rfl rfl rfl rfl hS14 ?_
 refine a9 10 rfl (by kernel_rfl) rfl rfl rfl rfl hS14 ?_
 refine a9 11 rfl (by kernel_rfl) rfl rfl rfl rfl hS14 ?_
 refine a9 12 rfl (by kernel_rfl) rfl rfl rfl rfl hS14 ?_
 refine a9 13 rfl (by kernel_rfl) rfl rfl rfl rfl hS14 ?_
 refine hp 14 rfl (by kernel_rfl) (fun _ _=>bg rfl) hS14 ?_
 refine nA 15 rfl (by kernel_rfl) rfl (cz eZ (e9 A n _ 112 w79.drew (Wk.aE hS14 hR2.bM) (by decide)) rfl fun c1 w95 aX=> ?_) (fun c w' U ao hF=>by
  obtain ⟨rfl,hb,rfl⟩:=U
  first
   | exact absurd hb (by decide)
   | exact mQ rfl (by decide) ((hF 2 (.head _)).trans rfl) ((hF 3 (.tail _ (.head _))).trans rfl) (hob2.md Wk.dr) (kp hsm (uO hX hk Z aa (fun h=>ax (by rw [h]; rfl)) (Classical.not_not.1 fun h=>of_decide_eq_false hb (by rw [List.count_eq_zero.2 h]; rfl)))))
 obtain ⟨rfl,bl,ay⟩:=aX
 have ae:width (r.getD 0 [])=2→r.getD 0 []∉seen:=by
  first
   | exact fun h=>absurd ax (by omega)
   | exact fun _=>List.count_eq_zero.1 (by have :=of_decide_eq_true bl; omega)
 have hE95:Wk w79 w95:=by rw [ay]; exact Wk.dr
 obtain ⟨cY,a6,a4⟩:=zN Z
 obtain ⟨b2,bj,a2,a3⟩:=zQ w.heap.size (⟨A,E,J,M,I,(a7 s).length+1⟩:bO) F rest n seen r w.heap.size bm bq w95 ⟨_,_,hF2.wk hE95,hR2.wk hE95,hB1⟩ (hT2.wk hE95) hrow.2.2 aa hsp ae (by omega) a6
 have hfv:=a4 _ _ bj
 have aY:(fun w'=>Wk w79 w') w95:=by rw [ay]; exact hS14
 refine ⟨aY,?_⟩
 refine hn (by kernel_rfl) (tn (bw _ _ (sq (fun bX aN=>rg rfl (p (fa zf rfl) (p (ld wg rfl ((aQ (Wk.aA hE95 hb12)).trans (congrArg some hfv))) (p (aC (.pointer (some ⟨A,0,none⟩)) rfl) (p mv ?_))))))))
 refine eP rfl (Cc a2 rfl a3 rfl fun c0 ag aW=> ?_) (fun c w' U ao hF=>by
  obtain ⟨l,e,O,rfl,hMw3⟩:=U
  exact mQ rfl (by decide) ((hF 2 (.head _)).trans rfl) ((hF 3 (.tail _ (.head _))).trans rfl) ((hob2.md hE95).mw (hF2.wk hE95) (hR2.wk hE95) hMw3) (kp hsm (uP hX hk Z aa ae O)))
 obtain ⟨rfl,F',rows',ln',O,⟨bY,aK,hF3,hR3,ab⟩,hMw3⟩:=aW
 have hob3:=(hob2.md hE95).mw (hF2.wk hE95) (hR2.wk hE95) hMw3
 obtain ⟨q1,hq1,_⟩:=hR2.sm
 obtain ⟨q2,bd,_⟩:=hR2.tm
 obtain ⟨cZ,bi,_⟩:=hF2.cm
 have hT3:=(hT2.wk hE95).md hMw3 (Wr.ne (dt (hq1.wk hE95)) (dt (bd.wk hE95)) (dt (bi.wk hE95)) (by decide))
 obtain ⟨b3,au,av⟩:=hR3.sm
 have hcl:=List.count_le_length (a:=r.getD 0 []) (l:=seen)
 have hXn:=uQ hX hk Z aa ae O
 refine nl (tn (aN _ _ ?_))
 have C:(fun w'=>Wk ag w') ag.drew:=(Md.refl _ _).drew
 refine dH (fun w'=>Wk ag w') 9 rfl wide C (lq 0 rfl (by kernel_rfl) (fun _ _=>aC (.pointer (some ⟨A,0,none⟩)) rfl) C (lq 1 rfl (by kernel_rfl) (fun _ _=>nc rfl) C (lq 2 rfl (by kernel_rfl) (fun _ _=>fa nz rfl) C (lq 3 rfl (by kernel_rfl) (fun w' G=>ld na rfl (Wk.aE G ((aQ hR3.cells).trans rfl))) C (lq 4 rfl (by kernel_rfl) (fun _ _=>mv) C (lq 5 rfl (by kernel_rfl) (fun _ _=>aJ bE rfl rfl (by omega) (aw.ok (aw.wk hT3.bH.2 C) (bp (by omega)))) C (lq 6 rfl (by kernel_rfl) (fun w' G=>ld bz rfl (Wk.aE G (bu.get (i:=0) hT3.bH.2 (by omega)))) C ?_)))))))
 refine lq 7 rfl (by kernel_rfl) (fun w' G=>j7 mh kP fw (bP.md (au) G id) rfl rfl (⟨_,rfl⟩) (av (r.getD 0 []))) C (lq 8 rfl (by kernel_rfl) (fun _ _=>bc ((seen.count (r.getD 0 [])+1:Nat):Int) rfl rfl (aR (by omega) (by omega))) C (cE 9 rfl (by kernel_rfl) (by kernel_rfl) (nQ mh fw (au.wk C) rfl rfl rfl (⟨_,rfl⟩) fun aB aO aV=> ?_)))
 have hM16:=ff aO
 have hR16:bU aB w.heap.size (⟨A,E,J,M,I,(a7 s).length+1⟩:bO) F' aK rows' ln' (seen++ [r.getD 0 []]):=bU.Bc hR3 hM16 aV (Be _ av)
 have hF16:=cD.ms hF3 hR3 hM16
 have hob16:=hob3.mw hF3 hR3 (dN.ms hR3 hM16)
 have hrw:=l0 O
 have C:St aB w.heap.size (⟨A,E,J,M,I,(a7 s).length+1⟩:bO) F' rows' ln' (seen++ [r.getD 0 []]):=⟨_,_,hF16,hR16,⟨ab.len,by rw [List.length_append,List.length_singleton]; omega,ab.row,ab.kd,ab.al⟩⟩
 have hsp16:=zP hsp O
 have hnx16:=qI hnx O
 refine dG (by kernel_rfl) ?_
 exact bn (tn (⟨_,by simp only [List.length_cons]; have :=l0 O; omega,k - 1,F',rows',ln',seen++ [r.getD 0 []],hXn.1,hXn.2,C,hsp16,hnx16,hob16,rfl,rfl,rfl,rfl,rfl⟩))
 refine a8 5 rfl (by kernel_rfl) rfl rfl rfl (fun _ _=>aC (.pointer (some ⟨A,0,none⟩)) rfl) hS14 (a8 6 rfl (by kernel_rfl) rfl rfl rfl (fun _ _=>nc rfl) hS14 (a8 7 rfl (by kernel_rfl) rfl rfl rfl (fun _ _=>fa nz rfl) hS14 (a8 8 rfl (by kernel_rfl) rfl rfl rfl (fun w' G=>ld na rfl (Wk.aE G ((aQ hR2.cells).trans rfl))) hS14 (a8 9 rfl (by kernel_rfl) rfl rfl rfl (fun _ _=>mv) hS14 (a8 10 rfl (by kernel_rfl) rfl rfl rfl (fun _ _=>aJ bE rfl rfl (by omega) (aw.ok (aw.wk hT2.bH.2 hS14) (bp (by omega)))) hS14 (a8 11 rfl (by kernel_rfl) rfl rfl rfl (fun w' G=>ld bz rfl (Wk.aE G (bu.get (i:=0) hT2.bH.2 (by omega)))) hS14 (a8 12 rfl (by kernel_rfl) rfl rfl rfl (fun w' G=>j7 mh kP fw (bP.md (cT) G id) rfl rfl (⟨_,rfl⟩) (cU (r.getD 0 []))) hS14 ?_)))))))
 refine a8 13 rfl (by kernel_rfl) rfl rfl rfl (fun _ _=>bf rfl rfl) hS14 (hp 14 rfl (by kernel_rfl) (fun _ _=>a5 rfl) hS14 ?_)
 refine nA 15 rfl (by kernel_rfl) rfl (cz eZ (e9 A n _ 112 w79.drew (Wk.aE hS14 hR2.bM) (by decide)) rfl fun c1 w95 aX=> ?_) (fun c w' U ao hF=>by
  obtain ⟨rfl,hb,rfl⟩:=U
  first
   | exact absurd hb (by decide)
   | exact mQ rfl (by decide) ((hF 2 (.head _)).trans rfl) ((hF 3 (.tail _ (.head _))).trans rfl) (hob2.md Wk.dr) (kp hsm (uO hX hk Z aa (fun h=>ax (by rw [h]; rfl)) (Classical.not_not.1 fun h=>of_decide_eq_false hb (by rw [List.count_eq_zero.2 h]; rfl)))))
 obtain ⟨rfl,bl,ay⟩:=aX
 have ae:width (r.getD 0 [])=2→r.getD 0 []∉seen:=by
  first
   | exact fun h=>absurd ax (by omega)
   | exact fun _=>List.count_eq_zero.1 (by have :=of_decide_eq_true bl; omega)
 have hE95:Wk w79 w95:=by rw [ay]; exact Wk.dr
 obtain ⟨cY,a6,a4⟩:=zN Z
 obtain ⟨b2,bj,a2,a3⟩:=zQ w.heap.size (⟨A,E,J,M,I,(a7 s).length+1⟩:bO) F rest n seen r w.heap.size bm bq w95 ⟨_,_,hF2.wk hE95,hR2.wk hE95,hB1⟩ (hT2.wk hE95) hrow.2.2 aa hsp ae (by omega) a6
 have hfv:=a4 _ _ bj
 have aY:(fun w'=>Wk w79 w') w95:=by rw [ay]; exact hS14
 refine ⟨aY,?_⟩
 refine hn (by kernel_rfl) (tn (bw _ _ (sq (fun bX aN=>rg rfl (p (fa zf rfl) (p (ld wg rfl ((aQ (Wk.aA hE95 hb12)).trans (congrArg some hfv))) (p (aC (.pointer (some ⟨A,0,none⟩)) rfl) (p mv ?_))))))))
 refine eP rfl (Cc a2 rfl a3 rfl fun c0 ag aW=> ?_) (fun c w' U ao hF=>by
  obtain ⟨l,e,O,rfl,hMw3⟩:=U
  exact mQ rfl (by decide) ((hF 2 (.head _)).trans rfl) ((hF 3 (.tail _ (.head _))).trans rfl) ((hob2.md hE95).mw (hF2.wk hE95) (hR2.wk hE95) hMw3) (kp hsm (uP hX hk Z aa ae O)))
 obtain ⟨rfl,F',rows',ln',O,⟨bY,aK,hF3,hR3,ab⟩,hMw3⟩:=aW
 have hob3:=(hob2.md hE95).mw (hF2.wk hE95) (hR2.wk hE95) hMw3
 obtain ⟨q1,hq1,_⟩:=hR2.sm
 obtain ⟨q2,bd,_⟩:=hR2.tm
 obtain ⟨cZ,bi,_⟩:=hF2.cm
 have hT3:=(hT2.wk hE95).md hMw3 (Wr.ne (dt (hq1.wk hE95)) (dt (bd.wk hE95)) (dt (bi.wk hE95)) (by decide))
 obtain ⟨b3,au,av⟩:=hR3.sm
 have hcl:=List.count_le_length (a:=r.getD 0 []) (l:=seen)
 have hXn:=uQ hX hk Z aa ae O
 refine nl (tn (aN _ _ ?_))
 have C:(fun w'=>Wk ag w') ag.drew:=(Md.refl _ _).drew
 refine dH (fun w'=>Wk ag w') 9 rfl wide C (lq 0 rfl (by kernel_rfl) (fun _ _=>aC (.pointer (some ⟨A,0,none⟩)) rfl) C (lq 1 rfl (by kernel_rfl) (fun _ _=>nc rfl) C (lq 2 rfl (by kernel_rfl) (fun _ _=>fa nz rfl) C (lq 3 rfl (by kernel_rfl) (fun w' G=>ld na rfl (Wk.aE G ((aQ hR3.cells).trans rfl))) C (lq 4 rfl (by kernel_rfl) (fun _ _=>mv) C (lq 5 rfl (by kernel_rfl) (fun _ _=>aJ bE rfl rfl (by omega) (aw.ok (aw.wk hT3.bH.2 C) (bp (by omega)))) C (lq 6 rfl (by kernel_rfl) (fun w' G=>ld bz rfl (Wk.aE G (bu.get (i:=0) hT3.bH.2 (by omega)))) C ?_)))))))
 refine lq 7 rfl (by kernel_rfl) (fun w' G=>j7 mh kP fw (bP.md (au) G id) rfl rfl (⟨_,rfl⟩) (av (r.getD 0 []))) C (lq 8 rfl (by kernel_rfl) (fun _ _=>bc ((seen.count (r.getD 0 [])+1:Nat):Int) rfl rfl (aR (by omega) (by omega))) C (cE 9 rfl (by kernel_rfl) (by kernel_rfl) (nQ mh fw (au.wk C) rfl rfl rfl (⟨_,rfl⟩) fun aB aO aV=> ?_)))
 have hM16:=ff aO
 have hR16:bU aB w.heap.size (⟨A,E,J,M,I,(a7 s).length+1⟩:bO) F' aK rows' ln' (seen++ [r.getD 0 []]):=bU.Bc hR3 hM16 aV (Be _ av)
 have hF16:=cD.ms hF3 hR3 hM16
 have hob16:=hob3.mw hF3 hR3 (dN.ms hR3 hM16)
 have hrw:=l0 O
 have C:St aB w.heap.size (⟨A,E,J,M,I,(a7 s).length+1⟩:bO) F' rows' ln' (seen++ [r.getD 0 []]):=⟨_,_,hF16,hR16,⟨ab.len,by rw [List.length_append,List.length_singleton]; omega,ab.row,ab.kd,ab.al⟩⟩
 have hsp16:=zP hsp O
 have hnx16:=qI hnx O
 refine dG (by kernel_rfl) ?_
 exact bn (tn (⟨_,by simp only [List.length_cons]; have :=l0 O; omega,k - 1,F',rows',ln',seen++ [r.getD 0 []],hXn.1,hXn.2,C,hsp16,hnx16,hob16,rfl,rfl,rfl,rfl,rfl⟩))
 obtain rfl :rows= []:=by
  cases rows with
  | nil=>rfl
  | cons q rest=>exact absurd (by simp only [List.length_cons]; omega) a1
 rw [nI] at hX
 refine ext (te _ (te _ (be (fy ?_))))
 refine fc ?_
 refine fN ?_
 refine rg rfl (p (aC (.pointer (some ⟨A,0,none⟩)) rfl) ?_)
 refine eP rfl (cz D0 (EB w.heap.size (⟨A,E,J,M,I,(a7 s).length+1⟩:bO) F [] ln seen wI ⟨_,_,hF,ac,aj⟩ hnx.2) rfl fun dy w111 cu=> ?_) (fun c w' U ao bv=>by
  obtain ⟨q,hq,rfl,aP⟩:=U
  exact mQ rfl (by decide) ((bv 2 (.head _)).trans rfl) ((bv 3 (.tail _ (.head _))).trans rfl) (bb.mw hF ac aP) (rT hsm hX.symm hq))
 obtain ⟨rfl,cF,⟨b0,dd,dv,hF4,hR4⟩,aP⟩:=cu
 have hob4:=bb.mw hF ac aP
 have hlo4:=hob4.lo
 refine nl (fy ?_)
 refine fc ?_
 refine fN ?_
 refine rg rfl (p (aC (.pointer (some ⟨A,0,none⟩)) rfl) (p (nc rfl) (p (fa eR rfl) (p (ld ew rfl ((aQ hR4.cells).trans rfl)) (p (bZ (ps:= []) (L:= [.int .i64 0,.int .i64 0,.int .i64 0]) nL rfl (rfl)) (e (cj sR rfl rfl (v:= .pointer (some ⟨E,0,none⟩)) rfl hob4.c2 (by decide) fun w20 bx b5=>e (gj fU rfl rfl rfl rfl (bx.aA hob4.c3 (fun h=>by omega)) (by decide) fun w21 bA b6=> ?_))))))))
 have bC:Md (fun k=>k=ah∨k=ai) w111 w21:=(bx.mono (fun _ _ h=> .inl h)).trans' bA (fun _ _ h=> .inr h)
 refine nl (fy ?_)
 refine uV ?_
 have bK:TF w111 [24,27] (fun k=>k=ah∨k=ai):=TF.or (TF.eq (cV hob4.c2) (by decide)) (TF.eq (cV hob4.c3) (by decide))
 obtain ⟨dg,cG,_⟩:=hF4.cm
 have hF5:=hF4.md bC bK (by decide) (bK.no (dt cG) (by decide))
 exact Kp rfl (by decide) rfl rfl (bA.aA b5 (fun h=>by omega)) b6 rfl (fun w' hm=>by
  unfold lK
  rw [vX hsm hX.symm cF]
  exact ⟨⟨E,I,b0,rfl,hF5.wk hm,⟨seen,aj⟩,hnx⟩,(hob4.wk.trans' bC (fun k hk h=>by omega)).trans hm⟩)
end Go.Hb.lF
end
section
set_option maxRecDepth 20000
set_option maxHeartbeats 1000000
namespace Go.Hb.kh
open Go.Hb.di
open Go.Proofs
open Go.Hb.eX Go.Hb.fH Go.Hb.fP Go.Hb.gY Go.Hb.g4
def ga (F:aI) (V:dW):List Value:= [.int .i64 (F.kind:Nat),str F.mC,str F.tr,aO (F.sp.getD 0 0),aO (F.sp.getD 1 0),aO (F.sp.getD 2 0),aO (F.sp.getD 3 0),aO (F.sp.getD 4 0),.int .i64 (F.least:Nat),V.v9,V.v10,V.v11,V.cC]
structure Cn (w:World) (B:Nat) (F:aI) (V:dW):Prop where
 o9:World.ownsRow w B 163 2 V.v9 F.bN.length (gW F.bN)
 dI:World.ownsRow w B 54 1 V.v10 F.aliases.length V.sa
 al:c4 w B 71 V.sa F.aliases
 dp:World.ownsRow w B 157 5 V.v11 F.a3.length (jv F.a3)
 cQ:World.ownsRow w B 155 7 V.cC F.rules.length (fZ (F.rules.zip V.rn))
 nx:c4 w B 71 V.rn (F.rules.map (·.next))
theorem r3 {w:World} {B e:Nat} {vs:List Value} {ls:List (List Nat)} (h:c4 w B e vs ls):vs.all Value.oneCell'=true :=by
 rw [List.all_eq_true]
 intro v hv
 obtain ⟨i,hi⟩:=List.getElem?_of_mem hv
 have h1:=(List.getElem?_eq_some_iff.1 hi).1
 obtain ⟨u,hu,hT⟩:=c4.get h (i:=i) (by rw [← h.1]; exact h1)
 rw [hi] at hu; cases hu
 obtain ⟨a,c,rfl⟩:=hT.slice; rfl
theorem KJ {w:World} {B e:Nat} {rs:List eK} {vs:List Value} {ls:List (List Nat)} (h:c4 w B e vs ls):(fZ (rs.zip vs)).all Value.oneCell'=true :=by
 rw [List.all_eq_true]
 intro v hv
 obtain ⟨q,hq,hv⟩:=List.mem_flatMap.1 hv
 have h1:=List.all_eq_true.1 (r3 h) q.2 (List.of_mem_zip hq).2
 simp only [iz,List.mem_cons,List.not_mem_nil,or_false] at hv
 rcases hv with rfl | rfl | rfl | rfl | rfl | rfl | rfl <;> first | rfl | exact h1
theorem KK {rs:List eK} {vs:List Value} {i:Nat} {v:Value} (hi:i < rs.length) (hv:i < vs.length):(fZ (rs.zip vs)).set (i*7 +6) v=fZ (rs.zip (vs.set i v)):=by
 obtain ⟨r,hr⟩:∃ r,rs[i]? =some r:=⟨_,List.getElem?_eq_getElem hi⟩
 obtain ⟨u,hu⟩:∃ u,vs[i]? =some u:=⟨_,List.getElem?_eq_getElem hv⟩
 have hz:(rs.zip vs)[i]? =some (r,u):=List.getElem?_zip_eq_some.2 ⟨hr,hu⟩
 have hz2:rs.zip (vs.set i v)=(rs.zip vs).set i (r,v):=by
  apply List.ext_getElem?
  intro j
  rw [List.getElem?_set]
  by_cases a:i=j
  · subst a
    rw [if_pos rfl,if_pos (List.getElem?_eq_some_iff.1 hz).1]
    exact List.getElem?_zip_eq_some.2 ⟨hr,by simp [hv]⟩
  · rw [if_neg a]
    cases h1:(rs.zip vs)[j]? with
    | none=>
      rw [List.getElem?_eq_none_iff,List.length_zip] at h1 ⊢
      rw [List.length_set]; exact h1
    | some q=>
      have h2:=List.getElem?_zip_eq_some.1 h1
      exact List.getElem?_zip_eq_some.2 ⟨h2.1,by rw [List.getElem?_set,if_neg a]; exact h2.2⟩
 have hl:(rs.zip vs).length=min rs.length vs.length:=List.length_zip
 have hc:(fZ (rs.zip vs)).length=(rs.zip vs).length*7:=kD (f:=iz) (m:=7) (fun _=>rfl) _
 rw [hz2,show fZ ((rs.zip vs).set i (r,v))=(fZ (rs.zip vs)).take (i*7)++iz (r,v)++(fZ (rs.zip vs)).drop (i*7 +7) from tk (f:=iz) (m:=7) (fun _=>rfl) _ (by omega)]
 apply List.ext_getElem?
 intro j
 have hf:=fun c hc=>qq (f:=iz) (m:=7) (fun _=>rfl) (c:=c) hz hc
 have hg:∀ c,c < 7→(fZ (rs.zip vs))[i*7 +c]? =(iz (r,u))[c]? :=fun c h=>hf c h
 have htl:((fZ (rs.zip vs)).take (i*7)).length=i*7:=by rw [List.length_take,hc]; omega
 rw [List.getElem?_set]
 by_cases h1:j < i*7
 · rw [if_neg (by omega),List.append_assoc,List.getElem?_append_left (by omega),List.getElem?_take,if_pos h1]
 · rw [List.append_assoc,List.getElem?_append_right (by omega),htl]
   by_cases h2:j < i*7 +7
   · rw [List.getElem?_append_left (by show _ < 7; omega)]
     obtain ⟨c,rfl⟩:∃ c,j=i*7 +c:=⟨j - i*7,by omega⟩
     have h3:c < 7:=by omega
     rw [hg c h3,show i*7 +c - i*7=c by omega]
     match c,h3 with
     | 0,_=>rw [if_neg (by omega)]; rfl
     | 1,_=>rw [if_neg (by omega)]; rfl
     | 2,_=>rw [if_neg (by omega)]; rfl
     | 3,_=>rw [if_neg (by omega)]; rfl
     | 4,_=>rw [if_neg (by omega)]; rfl
     | 5,_=>rw [if_neg (by omega)]; rfl
     | 6,_=>rw [if_pos rfl,if_pos (by omega)]; rfl
   · rw [if_neg (by omega),List.getElem?_append_right (by show 7≤_; omega),show (iz (r,v)).length=7 from rfl,List.getElem?_drop]
     congr 1; omega
theorem A5 {l:List (eK×Value)} {i:Nat} {q:eK×Value} (h:l[i]? =some q):fZ l≠[]:=fun h2=>by
 have h3:(fZ l).length=l.length*7:=kD (f:=iz) (m:=7) (fun _=>rfl) _
 have h4:=(List.getElem?_eq_some_iff.1 h).1
 rw [h2] at h3
 have h5:0=l.length*7:=h3
 omega
theorem wz {F:aI} {V:dW} (h9:V.v9.oneCell'=true) (a:V.v10.oneCell'=true) (i:V.v11.oneCell'=true) (j:V.cC.oneCell'=true):(ga F V).all Value.oneCell'=true :=by
 rw [List.all_eq_true]
 intro v hv
 simp only [ga,List.mem_cons,List.not_mem_nil,or_false] at hv
 rcases hv with rfl | rfl | rfl | rfl | rfl | rfl | rfl | rfl | rfl | rfl | rfl | rfl | rfl <;> first | rfl | assumption
theorem CV {w:World} {B fb mc:Nat} {F:aI} {V:dW} (h:cD w B fb mc F V):(ga F V).all Value.oneCell'=true :=wz (dU h.o9) (dU h.dI) (dU h.dp) (dU h.cQ)
theorem s0 {α:Type} {l m:List α} {i:Nat} (h:l.drop i=m.drop i):l[i]? =m[i]? :=by
 have h1:=congrArg (·[0]?) h
 simpa using h1
theorem uY {α:Type} {l:List α} {i:Nat} {x:α} (h:i < l.length):(l.set i x).take (i+1)=l.take i++ [x]:=by
 rw [List.take_add_one,List.take_set_of_le (Nat.le_refl i)]; simp [h]
theorem set_drop {α:Type} {l m:List α} {i:Nat} {x:α} (h:l.drop i=m.drop i):(l.set i x).drop (i+1)=m.drop (i+1):=by
 rw [List.drop_set_of_lt (Nat.lt_succ_self i),show i.succ=i+1 from rfl]
 simpa [List.drop_drop] using congrArg (List.drop 1) h
theorem wq {w:World} {B e i:Nat} {vs:List Value} {ls:List (List Nat)} {v:Value} (h:c4 w B e (vs.take i) (ls.take i)) (hi:i < ls.length) (hv:i < vs.length) (hT:Tg w B e (ls.getD i []).length v ((ls.getD i []).map aO)):c4 w B e ((vs.set i v).take (i+1)) (ls.take (i+1)):=by
 rw [uY hv,eh ls i [] hi]; exact h.snoc hT
theorem ET (a:Option Addr) (n c:Nat) (xs:List Value) (w:World) (hC:aw w.heap a xs) (hxl:xs.length=n*2) (ha:a=none→n=0) (h1:xs.all Value.oneCell'=true) (hn:n≤1048576):
 aU Tryz.prog 69 (List.toArray [.slice a n c]) w (fun v' w'=>World.ownsRow w' w.heap.size 163 2 v' n xs∧Wk w w'):=by
 refine enter Tryz.func69 rfl Tryz.ntmps69 rfl ?_
 refine U (fun _ s=>(aj (((s _ _ (sq (fun _ A=>U (fun _ C=> ?_))))))))
 refine ag (.slice a n c) (p (mF LX rfl rfl) (au ((C _ _ (cb rfl (fun q=> ?_) (fun q=> ?_))))))
 have I:a=none:=by simpa using q
 refine U (fun _ i=>(aj (((i _ _ (rt (tr (f1 rfl rfl ?_))))))))
 have hn0:=ha I
 subst hn0
 obtain rfl :=List.eq_nil_of_length_eq_zero (show xs.length=0 by omega)
 exact ⟨World.ownsRow_nil _ _ _ _,Md.refl _ _⟩
 refine az (tn (A _ _ (U (fun _ i=>(e (je rp fun O w5 hb5 j E=> ?_))))))
 have ho5:=E w.heap.size (by omega)
 refine ag (.slice a n c) (e (ap rp (ho5) rfl (by have :=j.size; omega) rfl (hC.wk j.md) (hxl) (h1) (by omega) (by omega) fun M w7 J G hz7 V=> ?_))
 have hE7:=Wk.own j.md ho5 G (Nat.le_refl _)
 refine aj (((i _ _ (rt (f1 rfl rfl ?_)))))
 have hz:World.ownsRow w7 w.heap.size 163 2 M n xs:=by simpa using J
 exact ⟨hz,hE7⟩
theorem ES (v:Value) (n:Nat) (xs:List Value) (w:World) (hv:Rd w.heap v n 2 xs) (h1:xs.all Value.oneCell'=true) (hn:n≤1048576):aU Tryz.prog 69 [v].toArray w (fun v w'=>World.ownsRow w' w.heap.size 163 2 v n xs∧Wk w w'):=by
 obtain ⟨a,c,rfl,hC,hxl,ha⟩:=hv
 exact ET a n c xs w hC hxl ha h1 hn
theorem EM (a:Option Addr) (n c:Nat) (xs:List Value) (w:World) (hC:aw w.heap a xs) (hxl:xs.length=n*5) (ha:a=none→n=0) (h1:xs.all Value.oneCell'=true) (hn:n≤1048576):
 aU Tryz.prog 70 (List.toArray [.slice a n c]) w (fun v' w'=>World.ownsRow w' w.heap.size 157 5 v' n xs∧Wk w w'):=by
 refine enter Tryz.func70 rfl Tryz.ntmps70 rfl ?_
 refine U (fun _ s=>(aj (((s _ _ (sq (fun _ A=>U (fun _ C=> ?_))))))))
 refine ag (.slice a n c) (p (mF BV rfl rfl) (au ((C _ _ (cb rfl (fun q=> ?_) (fun q=> ?_))))))
 have I:a=none:=by simpa using q
 refine U (fun _ i=>(aj (((i _ _ (rt (tr (f1 rfl rfl ?_))))))))
 have hn0:=ha I
 subst hn0
 obtain rfl :=List.eq_nil_of_length_eq_zero (show xs.length=0 by omega)
 exact ⟨World.ownsRow_nil _ _ _ _,Md.refl _ _⟩
 refine az (tn (A _ _ (U (fun _ i=>(e (je rr fun O w5 hb5 j E=> ?_))))))
 have ho5:=E w.heap.size (by omega)
 refine ag (.slice a n c) (e (ap rr (ho5) rfl (by have :=j.size; omega) rfl (hC.wk j.md) (hxl) (h1) (by omega) (by omega) fun M w7 J G hz7 V=> ?_))
 have hE7:=Wk.own j.md ho5 G (Nat.le_refl _)
 refine aj (((i _ _ (rt (f1 rfl rfl ?_)))))
 have hz:World.ownsRow w7 w.heap.size 157 5 M n xs:=by simpa using J
 exact ⟨hz,hE7⟩
theorem EL (v:Value) (n:Nat) (xs:List Value) (w:World) (hv:Rd w.heap v n 5 xs) (h1:xs.all Value.oneCell'=true) (hn:n≤1048576):aU Tryz.prog 70 [v].toArray w (fun v w'=>World.ownsRow w' w.heap.size 157 5 v n xs∧Wk w w'):=by
 obtain ⟨a,c,rfl,hC,hxl,ha⟩:=hv
 exact EM a n c xs w hC hxl ha h1 hn
theorem EX (a:Option Addr) (n c:Nat) (xs:List Value) (w:World) (hC:aw w.heap a xs) (hxl:xs.length=n*1) (ha:a=none→n=0) (h1:xs.all Value.oneCell'=true) (hn:n≤1048576):
 aU Tryz.prog 71 (List.toArray [.slice a n c]) w (fun v' w'=>World.ownsRow w' w.heap.size 54 1 v' n xs∧Wk w w'):=by
 refine enter Tryz.func71 rfl Tryz.ntmps71 rfl ?_
 refine U (fun _ s=>(aj (((s _ _ (sq (fun _ A=>U (fun _ C=> ?_))))))))
 refine ag (.slice a n c) (p (mF rG rfl rfl) (au ((C _ _ (cb rfl (fun q=> ?_) (fun q=> ?_))))))
 have I:a=none:=by simpa using q
 refine U (fun _ i=>(aj (((i _ _ (rt (tr (f1 rfl rfl ?_))))))))
 have hn0:=ha I
 subst hn0
 obtain rfl :=List.eq_nil_of_length_eq_zero (show xs.length=0 by omega)
 exact ⟨World.ownsRow_nil _ _ _ _,Md.refl _ _⟩
 refine az (tn (A _ _ (U (fun _ i=>(e (je rq fun O w5 hb5 j E=> ?_))))))
 have ho5:=E w.heap.size (by omega)
 refine ag (.slice a n c) (e (ap rq (ho5) rfl (by have :=j.size; omega) rfl (hC.wk j.md) (hxl) (h1) (by omega) (by omega) fun M w7 J G hz7 V=> ?_))
 have hE7:=Wk.own j.md ho5 G (Nat.le_refl _)
 refine aj (((i _ _ (rt (f1 rfl rfl ?_)))))
 have hz:World.ownsRow w7 w.heap.size 54 1 M n xs:=by simpa using J
 exact ⟨hz,hE7⟩
theorem EW (v:Value) (n:Nat) (xs:List Value) (w:World) (hv:Rd w.heap v n 1 xs) (h1:xs.all Value.oneCell'=true) (hn:n≤1048576):aU Tryz.prog 71 [v].toArray w (fun v w'=>World.ownsRow w' w.heap.size 54 1 v n xs∧Wk w w'):=by
 obtain ⟨a,c,rfl,hC,hxl,ha⟩:=hv
 exact EX a n c xs w hC hxl ha h1 hn
theorem EV (a:Option Addr) (n c:Nat) (xs:List Value) (w:World) (hC:aw w.heap a xs) (hxl:xs.length=n*7) (ha:a=none→n=0) (h1:xs.all Value.oneCell'=true) (hn:n≤1048576):
 aU Tryz.prog 72 (List.toArray [.slice a n c]) w (fun v' w'=>World.ownsRow w' w.heap.size 155 7 v' n xs∧Wk w w'):=by
 refine enter Tryz.func72 rfl Tryz.ntmps72 rfl ?_
 refine U (fun _ s=>(aj (((s _ _ (sq (fun _ A=>U (fun _ C=> ?_))))))))
 refine ag (.slice a n c) (p (mF rH rfl rfl) (au ((C _ _ (cb rfl (fun q=> ?_) (fun q=> ?_))))))
 have I:a=none:=by simpa using q
 refine U (fun _ i=>(aj (((i _ _ (rt (tr (f1 rfl rfl ?_))))))))
 have hn0:=ha I
 subst hn0
 obtain rfl :=List.eq_nil_of_length_eq_zero (show xs.length=0 by omega)
 exact ⟨World.ownsRow_nil _ _ _ _,Md.refl _ _⟩
 refine az (tn (A _ _ (U (fun _ i=>(e (je rv fun O w5 hb5 j E=> ?_))))))
 have ho5:=E w.heap.size (by omega)
 refine ag (.slice a n c) (e (ap rv (ho5) rfl (by have :=j.size; omega) rfl (hC.wk j.md) (hxl) (h1) (by omega) (by omega) fun M w7 J G hz7 V=> ?_))
 have hE7:=Wk.own j.md ho5 G (Nat.le_refl _)
 refine aj (((i _ _ (rt (f1 rfl rfl ?_)))))
 have hz:World.ownsRow w7 w.heap.size 155 7 M n xs:=by simpa using J
 exact ⟨hz,hE7⟩
theorem EU (v:Value) (n:Nat) (xs:List Value) (w:World) (hv:Rd w.heap v n 7 xs) (h1:xs.all Value.oneCell'=true) (hn:n≤1048576):aU Tryz.prog 72 [v].toArray w (fun v w'=>World.ownsRow w' w.heap.size 155 7 v n xs∧Wk w w'):=by
 obtain ⟨a,c,rfl,hC,hxl,ha⟩:=hv
 exact EV a n c xs w hC hxl ha h1 hn
theorem EO (a:Option Addr) (n c:Nat) (xs:List Value) (w:World) (hC:aw w.heap a xs) (hxl:xs.length=n*2) (ha:a=none→n=0) (h1:xs.all Value.oneCell'=true) (hn:n≤1048576):
 aU Tryz.prog 48 (List.toArray [.slice a n c]) w (fun v' w'=>World.ownsRow w' w.heap.size 56 2 v' n xs∧Wk w w'):=by
 refine enter Tryz.func48 rfl Tryz.ntmps48 rfl ?_
 refine U (fun _ s=>(aj (((s _ _ (sq (fun _ A=>U (fun _ C=> ?_))))))))
 refine ag (.slice a n c) (p (mF kb rfl rfl) (au ((C _ _ (cb rfl (fun q=> ?_) (fun q=> ?_))))))
 have I:a=none:=by simpa using q
 refine U (fun _ i=>(aj (((i _ _ (rt (tr (f1 rfl rfl ?_))))))))
 have hn0:=ha I
 subst hn0
 obtain rfl :=List.eq_nil_of_length_eq_zero (show xs.length=0 by omega)
 exact ⟨World.ownsRow_nil _ _ _ _,Md.refl _ _⟩
 refine az (tn (A _ _ (U (fun _ i=>(e (je rk fun O w5 hb5 j E=> ?_))))))
 have ho5:=E w.heap.size (by omega)
 refine ag (.slice a n c) (e (ap rk (ho5) rfl (by have :=j.size; omega) rfl (hC.wk j.md) (hxl) (h1) (by omega) (by omega) fun M w7 J G hz7 V=> ?_))
 have hE7:=Wk.own j.md ho5 G (Nat.le_refl _)
 refine aj (((i _ _ (rt (f1 rfl rfl ?_)))))
 have hz:World.ownsRow w7 w.heap.size 56 2 M n xs:=by simpa using J
 exact ⟨hz,hE7⟩
theorem EN (v:Value) (n:Nat) (xs:List Value) (w:World) (hv:Rd w.heap v n 2 xs) (h1:xs.all Value.oneCell'=true) (hn:n≤1048576):aU Tryz.prog 48 [v].toArray w (fun v w'=>World.ownsRow w' w.heap.size 56 2 v n xs∧Wk w w'):=by
 obtain ⟨a,c,rfl,hC,hxl,ha⟩:=hv
 exact EO a n c xs w hC hxl ha h1 hn
theorem ER (a:Option Addr) (n c:Nat) (xs:List Value) (w:World) (hC:aw w.heap a xs) (hxl:xs.length=n*1) (ha:a=none→n=0) (h1:xs.all Value.oneCell'=true) (hn:n≤1048576):
 aU Tryz.prog 51 (List.toArray [.slice a n c]) w (fun v' w'=>World.ownsRow w' w.heap.size 3 1 v' n xs∧Wk w w'):=by
 refine enter Tryz.func51 rfl Tryz.ntmps51 rfl ?_
 refine U (fun _ s=>(aj (((s _ _ (sq (fun _ A=>U (fun _ C=> ?_))))))))
 refine ag (.slice a n c) (p (mF u64 rfl rfl) (au ((C _ _ (cb rfl (fun q=> ?_) (fun q=> ?_))))))
 have I:a=none:=by simpa using q
 refine U (fun _ i=>(aj (((i _ _ (rt (tr (f1 rfl rfl ?_))))))))
 have hn0:=ha I
 subst hn0
 obtain rfl :=List.eq_nil_of_length_eq_zero (show xs.length=0 by omega)
 exact ⟨World.ownsRow_nil _ _ _ _,Md.refl _ _⟩
 refine az (tn (A _ _ (U (fun _ i=>(e (je jM fun O w5 hb5 j E=> ?_))))))
 have ho5:=E w.heap.size (by omega)
 refine ag (.slice a n c) (e (ap jM (ho5) rfl (by have :=j.size; omega) rfl (hC.wk j.md) (hxl) (h1) (by omega) (by omega) fun M w7 J G hz7 V=> ?_))
 have hE7:=Wk.own j.md ho5 G (Nat.le_refl _)
 refine aj (((i _ _ (rt (f1 rfl rfl ?_)))))
 have hz:World.ownsRow w7 w.heap.size 3 1 M n xs:=by simpa using J
 exact ⟨hz,hE7⟩
theorem EP (v:Value) (n:Nat) (xs:List Value) (w:World) (hv:Rd w.heap v n 1 xs) (h1:xs.all Value.oneCell'=true) (hn:n≤1048576):aU Tryz.prog 51 [v].toArray w (fun v w'=>World.ownsRow w' w.heap.size 3 1 v n xs∧Wk w w'):=by
 obtain ⟨a,c,rfl,hC,hxl,ha⟩:=hv
 exact ER a n c xs w hC hxl ha h1 hn
theorem CG (B fb mc:Nat) (F:aI) (V:dW) (w:World) (ax:cD w B fb mc F V) (hb:F.bN.length+F.aliases.length+F.a3.length+F.rules.length≤70000) (hnx:Nx F):
 aU Tryz.prog 38 (List.toArray [aH fb]) w (fun v w'=>(∃ bd,v= .agg (ga F bd).toArray∧Cn w' w.heap.size F bd)∧Wk w w'):=by
 refine enter Tryz.func38 rfl Tryz.ntmps38 rfl ?_
 refine U (fun _ bB=>(e (fT Cj fun aY O hb2 a1 hB2=> ?_)))
 have hz2:=a1.size
 have hF2:=ax.wk a1.md
 refine au ((bB _ _ (sq (fun _ bL=>U (fun _ bM=>(ag (aH fb) (p (g8 nO rfl rfl) (nl ?_))))))))
 refine tn (bM _ _ (cf (rfl) (az (tn (bL _ _ (U (fun _ bO=>(ag (aH fb) (p (nc rfl) ?_)))))))))
 refine p (fa eA rfl) (p (dB rY rfl (rfl) (show ∀ j,j < 13→Hb.aE O.heap fb (0 +j)=(ga F V)[j]? from fun j aK=>(aQ hF2.cells).trans (by match j,aK with | 0,_=>rfl | 1,_=>rfl | 2,_=>rfl | 3,_=>rfl | 4,_=>rfl | 5,_=>rfl | 6,_=>rfl | 7,_=>rfl | 8,_=>rfl | 9,_=>rfl | 10,_=>rfl | 11,_=>rfl | 12,_=>rfl))) (e (fT Cj fun M w3 cv bk bX=> ?_)))
 have hz3:=bk.size
 refine e (gj yg rfl rfl rfl (CV hF2) bX (by decide) fun w30 bj bY=> ?_)
 have bh:Wk O w30:=bk.md.trans' bj (fun q hq h=>by omega)
 have hz30:=bj.size
 have hF30:=hF2.wk bh
 have aD:w30.heap[M]? =some (.cells (ga F ⟨V.v9,V.v10,V.v11,V.cC,V.sa,V.rn⟩).toArray 87 (0,0)):=bY
 refine au ((bO _ _ (U (fun _ bP=>(p (fa qA rfl) (p (ld wc rfl ((aQ aD).trans rfl)) (e (cl pT (ES V.v9 F.bN.length (gW F.bN) w30 (Rd.fY hF30.o9) (y4 (fun _=>rfl) _) (by omega)) rfl fun J w16 hR16=> ?_))))))))
 obtain ⟨br,aZ⟩:=hR16
 have hz16:=aZ.size
 have ho16x:=gi br (show w3.heap.size≤w30.heap.size by omega)
 refine p (fa qA rfl) (e (cj yc rfl rfl (v:=J) (dU br) (aZ.aA aD) (by show _ < 13; omega) fun w4 a0 bZ=> ?_))
 have hE4:Wk O w4:=(bh.trans aZ).trans' a0 (fun q hq h=>by omega)
 have hz4:=a0.size
 have hF4:=hF2.wk hE4
 have ho16y:=bS ho16x a0 (fun q hq h=>by have :=(cG ho16x hq).1; omega)
 have bq:w4.heap[M]? =some (.cells (ga F ⟨J,V.v10,V.v11,V.cC,V.sa,V.rn⟩).toArray 87 (0,0)):=bZ
 refine au ((bP _ _ (U (fun _ bQ=>(p (fa ny rfl) (p (ld pG rfl ((aQ bq).trans rfl)) (e (cl Ei (EL V.v11 F.a3.length (jv F.a3) w4 (Rd.fY hF4.dp) (y4 (fun _=>rfl) _) (by omega)) rfl fun v20 w20 b4=> ?_))))))))
 obtain ⟨bt,am⟩:=b4
 have hz20:=am.size
 have ho20x:=gi bt (show w3.heap.size≤w4.heap.size by omega)
 refine p (fa ny rfl) (e (cj ye rfl rfl (v:=v20) (dU bt) (am.aA bq) (by show _ < 13; omega) fun w5 aB b0=> ?_))
 have hE5:Wk O w5:=(hE4.trans am).trans' aB (fun q hq h=>by omega)
 have hz5:=aB.size
 have hF5:=hF2.wk hE5
 have ho16z:=bS (aG ho16y am) aB (fun q hq h=>by have :=(cG (aG ho16y am) hq).1; omega)
 have ho20y:=bS ho20x aB (fun q hq h=>by have :=(cG ho20x hq).1; omega)
 have hc5:w5.heap[M]? =some (.cells (ga F ⟨J,V.v10,v20,V.cC,V.sa,V.rn⟩).toArray 87 (0,0)):=b0
 refine au ((bQ _ _ (U (fun _ bR=>(p (fa k9 rfl) (p (ld mu rfl ((aQ hc5).trans rfl)) (e (cl Ej (EW V.v10 F.aliases.length V.sa w5 (Rd.fY hF5.dI) (r3 hF5.al) (by omega)) rfl fun bz cz b5=> ?_))))))))
 obtain ⟨bu,hE24⟩:=b5
 have hz24:=hE24.size
 have ho24x:=gi bu (show w3.heap.size≤w5.heap.size by omega)
 refine p (fa k9 rfl) (e (cj yd rfl rfl (v:=bz) (dU bu) (hE24.aA hc5) (by show _ < 13; omega) fun w6 ao hB6=> ?_))
 have b3:Wk O w6:=(hE5.trans hE24).trans' ao (fun q hq h=>by omega)
 have hz6:=ao.size
 have ho9a:=bS (aG ho16z hE24) ao (fun q hq h=>by have :=(cG (aG ho16z hE24) hq).1; omega)
 have ho11a:=bS (aG ho20y hE24) ao (fun q hq h=>by have :=(cG (aG ho20y hE24) hq).1; omega)
 have ho10a:=bS ho24x ao (fun q hq h=>by have :=(cG ho24x hq).1; omega)
 have hc6:w6.heap[M]? =some (.cells (ga F ⟨J,bz,v20,V.cC,V.sa,V.rn⟩).toArray 87 (0,0)):=hB6
 obtain ⟨Y,gH,rfl⟩:=bW ho10a
 have hsl:=ax.al.1
 refine au ((bR _ _ (sq (fun _ bT=>U (fun _ bU=>(p (fa k9 rfl) (p (ld mu rfl ((aQ hc6).trans rfl)) (p (ba rG rfl rfl) ?_))))))))
 refine p mv (au ((bU _ _ (aA (lp (fun ak ah wI=> ∃ (i:Nat) (sa:List Value),(i≤F.aliases.length)∧(sa.length=F.aliases.length)∧(sa.drop i=V.sa.drop i)∧(c4 wI w3.heap.size 71 (sa.take i) (F.aliases.take i))∧(World.ownsRow wI w3.heap.size 54 1 (.slice Y F.aliases.length gH) F.aliases.length (sa))∧(World.ownsRow wI w3.heap.size 163 2 (J) F.bN.length (gW F.bN))∧(World.ownsRow wI w3.heap.size 157 5 (v20) F.a3.length (jv F.a3))∧(wI.heap[M]? =some (.cells (ga F ⟨J,.slice Y F.aliases.length gH,v20,V.cC,V.sa,V.rn⟩).toArray 87 (0,0)))∧(Wk O wI)∧(w3.heap.size≤wI.heap.size)∧(ah 2=aH aY)∧(ah 3=aH M)∧(ah 27= .slice Y F.aliases.length gH)∧(ah 28=ae (F.aliases.length))∧(ah 29=ae i)∧(F.aliases.length - i=ak)) _ ⟨0,V.sa,(by omega),hsl,rfl,(c4.nil _ _ _),ho10a,ho9a,ho11a,hc6,b3,((by omega)),rfl,rfl,rfl,rfl,rfl,rfl⟩ ?_)))))
 rintro ak ah wI ⟨i,sa,hi,aq,bx,hal,I,aS,aP,ap,av,cw,cc,ck,ce,cg,ch,rfl⟩
 refine fx 2 cc (fx 3 ck (fx 27 ce (fx 28 cg (fx 29 ch (U (fun _ bC=>(p (lt rfl rfl) (au ((bC _ _ (sq (fun _ bD=>cd rfl (fun aD=> ?_) (fun aD=> ?_)))))))))))))
 refine az (tn (bD _ _ (sq (fun _ aV=>aA (sq (fun _ aW=> ?_))))))
 obtain ⟨cy,cq,a5⟩:=c4.get (hF2.wk av).al (show i < F.aliases.length by omega)
 obtain ⟨bV,ci,rfl⟩:=a5.slice
 refine rg rfl (ag (ae i) (p (aJ s8 rfl rfl (by omega) (aw.ok ((aM I).2) (fun h=>by rw [h] at aq; simp at aq; omega))) (p (ld kW rfl (aw.gv (aM I).2 ((s0 bx).trans cq))) (p (bF (ae i) rfl) (aj (((aW _ _ ?_))))))))
 have Z:(fun w'=>Wk wI w') wI.drew:=(Md.refl _ _).drew
 refine dH (fun w'=>Wk wI w') 6 rfl wide Z (lq 0 rfl (by kernel_rfl) (fun _ _=>fa k9 rfl) Z (lq 1 rfl (by kernel_rfl) (fun w' ac=>ld mu rfl (Wk.aE ac ((aQ ap).trans rfl))) Z (lq 2 rfl (by kernel_rfl) (fun _ _=>aC (ae i) rfl) Z (lq 3 rfl (by kernel_rfl) (fun _ _=>mv) Z (fE 4 rfl (by kernel_rfl) (cl pR (pZ bV (F.aliases.getD i []).length ci ((F.aliases.getD i []).map aO) wI.drew (aw.wk a5.bH.2 Z) (by simp) (fun h=>Tg.qS a5 (by simp) h) (pJ _) (by have :=hnx.1 _ (c6 (d:= []) (show i < F.aliases.length by omega)); omega)) rfl fun ct w38 b6=> ?_))))))
 obtain ⟨a8,bi⟩:=b6
 have C:Wk wI w38:=Z.trans bi
 have hSI:=C
 have bl:(fun w'=>Wk wI w') w38:=Z.trans bi
 refine ⟨bl,?_⟩
 refine lq 5 rfl (by kernel_rfl) (fun _ _=>aJ s8 rfl rfl (by omega) (aw.ok ((aM I).2) (fun h=>by rw [h] at aq; simp at aq; omega))) bl (cE 6 rfl (by kernel_rfl) (by kernel_rfl) (ly (j:=i) (aG I C) p8 rfl rfl (dU a8) (by simp) (by omega) fun w10 aa ho10=> ?_))
 have b1:Wk O w10:=Wk.own (av.trans C) (aG I C) aa (by omega)
 have ho38x:=bS (gi a8 (show w3.heap.size≤wI.heap.size by omega)) aa (fun q hq=>gV a8 (aG I C) (by decide) hq)
 have hal10:=(hal.wk C).md aa (eT (aG I C) (by decide))
 have ho9J:=bS (aG aS C) aa (fun q hq=>gV (aG aS C) (aG I C) (by decide) hq)
 have ho11J:=bS (aG aP C) aa (fun q hq=>gV (aG aP C) (aG I C) (by decide) hq)
 have hcJ:=aa.aA (Wk.aA C ap) (fun h=>by have :=(cG (aG I C) h).1; omega)
 refine dG (by kernel_rfl) ?_
 exact bn (tn (aV _ _ (rg rfl (p (ad rfl rfl (bm (by omega))) (p mv (au ((⟨_,by omega,i+1,sa.set i ct,(by omega),((by rw [List.length_set]; exact aq)),(set_drop bx),(wq hal10 (by omega) (by omega) (Tg.fY ho38x)),ho10,ho9J,ho11J,hcJ,b1,((by have :=hSI.size; have :=aa.size; omega)),rfl,rfl,rfl,rfl,rfl,rfl⟩))))))))
 refine ext (te _ (te _ (be (tn (bT _ _ (U (fun _ aV=>(p (fa la rfl) ?_))))))))
 refine p (ld mx rfl ((aQ ap).trans rfl)) (e (cl Ek (EU V.cC F.rules.length (fZ (F.rules.zip V.rn)) wI (Rd.fY (hF2.wk av).cQ) (KJ ax.nx) (by omega)) rfl fun bA w43 b7=> ?_))
 obtain ⟨bv,hE43⟩:=b7
 have hz43:=hE43.size
 have ho43x:=gi bv (show w3.heap.size≤wI.heap.size by omega)
 rw [List.take_of_length_le (by omega),List.take_of_length_le (by omega)] at hal
 refine p (fa la rfl) (e (cj yf rfl rfl (v:=bA) (dU bv) (Wk.aA hE43 ap) (by show _ < 13; omega) fun w12 ab hB12=> ?_))
 have hE12:Wk O w12:=(av.trans hE43).trans' ab (fun q hq h=>by omega)
 have hz12:=ab.size
 have ho9b:=bS (aG aS hE43) ab (fun q hq h=>by have :=(cG (aG aS hE43) hq).1; omega)
 have ho10b:=bS (aG I hE43) ab (fun q hq h=>by have :=(cG (aG I hE43) hq).1; omega)
 have ho11b:=bS (aG aP hE43) ab (fun q hq h=>by have :=(cG (aG aP hE43) hq).1; omega)
 have ho12b:=bS ho43x ab (fun q hq h=>by have :=(cG ho43x hq).1; omega)
 have halb:=(hal.wk hE43).md ab (dM (Wk.aA hE43 ap) (by decide))
 have bp:w12.heap[M]? =some (.cells (ga F ⟨J,.slice Y F.aliases.length gH,v20,bA,V.sa,V.rn⟩).toArray 87 (0,0)):=hB12
 obtain ⟨ai,gx,rfl⟩:=bW ho12b
 have hrl:V.rn.length=F.rules.length:=by have :=ax.nx.1; rwa [List.length_map] at this
 refine au ((aV _ _ (sq (fun _ aW=>U (fun _ bE=>(p (fa la rfl) (p (ld mx rfl ((aQ bp).trans rfl)) (p (ba rH rfl rfl) ?_))))))))
 refine p mv (au ((bE _ _ (aA (lp (fun ak ar A=> ∃ (i:Nat) (rn:List Value),(i≤F.rules.length)∧(rn.length=F.rules.length)∧(rn.drop i=V.rn.drop i)∧(c4 A w3.heap.size 71 (rn.take i) ((F.rules.map (·.next)).take i))∧(World.ownsRow A w3.heap.size 155 7 (.slice ai F.rules.length gx) F.rules.length (fZ (F.rules.zip rn)))∧(World.ownsRow A w3.heap.size 163 2 (J) F.bN.length (gW F.bN))∧(World.ownsRow A w3.heap.size 54 1 (.slice Y F.aliases.length gH) F.aliases.length (sa))∧(c4 A w3.heap.size 71 sa F.aliases)∧(World.ownsRow A w3.heap.size 157 5 (v20) F.a3.length (jv F.a3))∧(A.heap[M]? =some (.cells (ga F ⟨J,.slice Y F.aliases.length gH,v20,.slice ai F.rules.length gx,V.sa,V.rn⟩).toArray 87 (0,0)))∧(Wk O A)∧(w3.heap.size≤A.heap.size)∧(ar 2=aH aY)∧(ar 3=aH M)∧(ar 47=ae (F.rules.length))∧(ar 48=ae i)∧(F.rules.length - i=ak)) _ ⟨0,V.rn,(by omega),hrl,rfl,(c4.nil _ _ _),ho12b,ho9b,ho10b,halb,ho11b,bp,hE12,((by omega)),rfl,rfl,rfl,rfl,rfl⟩ ?_)))))
 rintro ak ar A ⟨i,rn,hi,cb,bw,hnl,E,aT,aN,bo,aR,aF,an,cx,cm,cn,co,cp,rfl⟩
 refine fx 2 cm (fx 3 cn (fx 47 co (fx 48 cp (U (fun _ bI=>(p (lt rfl rfl) (au ((bI _ _ (sq (fun _ bJ=>cd rfl (fun b9=> ?_) (fun b9=> ?_))))))))))))
 refine az (tn (bJ _ _ (sq (fun _ aX=>aA (sq (fun _ bK=> ?_))))))
 obtain ⟨vn,cr,a7⟩:=c4.get (hF2.wk an).nx (show i < (F.rules.map (·.next)).length by rw [List.length_map]; omega)
 obtain ⟨bf,bg,rfl⟩:=a7.slice
 obtain ⟨q,bb⟩:∃ q,F.rules[i]? =some q:=⟨_,List.getElem?_eq_getElem (by omega)⟩
 have ca:(F.rules.map (·.next)).getD i []=q.next:=by rw [List.getD_eq_getElem?_getD,List.getElem?_map,bb]; rfl
 have hql:=hnx.2 q (List.mem_of_getElem? bb)
 rw [← ca] at hql
 have bc:(F.rules.zip rn)[i]? =some (q,.slice bf ((F.rules.map (·.next)).getD i []).length bg):=List.getElem?_zip_eq_some.2 ⟨bb,(s0 bw).trans cr⟩
 refine rg rfl (ag (ae i) (p (bF (ae i) rfl) (au ((bK _ _ ?_)))))
 have G:(fun w'=>Wk A w') A.drew:=(Md.refl _ _).drew
 refine dH (fun w'=>Wk A w') 12 rfl wide G (a6 0 rfl (fun _=>fa la rfl) (fun _=>G) (cT 1 rfl (fun w' ac=>ld mx rfl (Wk.aE ac ((aQ aF).trans rfl))) G (a4 2 rfl (ae i) G (a6 3 rfl (fun _=>fa la rfl) (fun _=>G) (cT 4 rfl (fun w' ac=>ld mx rfl (Wk.aE ac ((aQ aF).trans rfl))) G (a4 5 rfl (ae i) G (a6 6 rfl (fun _=>aJ s9 rfl rfl (by omega) (aw.ok ((aM E).2) (A5 bc))) (fun _=>G) ?_)))))))
 refine a6 7 rfl (fun _=>fa qy rfl) (fun _=>G) (cT 8 rfl (fun w' ac=>ld kW rfl (Wk.aE ac (eQ (f:=iz) (m:=7) (fun _=>rfl) (aM E).2 bc 6 (by decide)))) G (fE 9 rfl (by kernel_rfl) (cl pR (pZ bf ((F.rules.map (·.next)).getD i []).length bg (((F.rules.map (·.next)).getD i []).map aO) A.drew (aw.wk a7.bH.2 G) (by simp) (fun h=>Tg.qS a7 (by simp) h) (pJ _) (by omega)) rfl fun cu w60 b8=> ?_)))
 obtain ⟨a9,hE60⟩:=b8
 have a:Wk A w60:=G.trans hE60
 have hSK:=a
 have a2:(fun w'=>Wk A w') w60:=G.trans hE60
 refine ⟨a2,?_⟩
 refine a6 10 rfl (fun _=>aJ s9 rfl rfl (by omega) (aw.ok ((aM E).2) (A5 bc))) (fun _=>a2) (a6 11 rfl (fun _=>fa qy rfl) (fun _=>a2) (cE 12 rfl (by kernel_rfl) (by kernel_rfl) (ly (j:=i*7 +6) (aG E a) p8 rfl rfl (dU a9) (by rw [Int.toNat_natCast]; omega) (by omega) fun w16 hM16 bs=> ?_)))
 rw [KK (by omega) (by omega)] at bs
 have b2:Wk O w16:=Wk.own (an.trans a) (aG E a) hM16 (by omega)
 have ho60x:=bS (gi a9 (show w3.heap.size≤A.heap.size by omega)) hM16 (fun q hq=>gV a9 (aG E a) (by decide) hq)
 have hnl16:=(hnl.wk a).md hM16 (eT (aG E a) (by decide))
 have hal16:=(bo.wk a).md hM16 (eT (aG E a) (by decide))
 have ho9L:=bS (aG aT a) hM16 (fun q hq=>gV (aG aT a) (aG E a) (by decide) hq)
 have ho10L:=bS (aG aN a) hM16 (fun q hq=>gV (aG aN a) (aG E a) (by decide) hq)
 have ho11L:=bS (aG aR a) hM16 (fun q hq=>gV (aG aR a) (aG E a) (by decide) hq)
 have hcL:=hM16.aA (Wk.aA a aF) (fun h=>by have :=(cG (aG E a) h).1; omega)
 refine dG (by kernel_rfl) ?_
 exact bn (tn (aX _ _ (rg rfl (p (ad rfl rfl (bm (by omega))) (p mv (au ((⟨_,by omega,i+1,rn.set i cu,(by omega),((by rw [List.length_set]; exact cb)),(set_drop bw),(wq hnl16 (by rw [List.length_map]; omega) (by omega) (Tg.fY ho60x)),bs,ho9L,ho10L,hal16,ho11L,hcL,b2,((by have :=hSK.size; have :=hM16.size; omega)),rfl,rfl,rfl,rfl,rfl⟩))))))))
 refine ext (te _ (te _ (be (tn (aW _ _ (U (fun _ aX=>(p (dB rY rfl (rfl) (show ∀ j,j < 13→Hb.aE A.heap M (0 +j)=(ga F ⟨J,.slice Y F.aliases.length gH,v20,.slice ai F.rules.length gx,V.sa,V.rn⟩)[j]? from fun j aK=>(aQ aF).trans (by match j,aK with | 0,_=>rfl | 1,_=>rfl | 2,_=>rfl | 3,_=>rfl | 4,_=>rfl | 5,_=>rfl | 6,_=>rfl | 7,_=>rfl | 8,_=>rfl | 9,_=>rfl | 10,_=>rfl | 11,_=>rfl | 12,_=>rfl))) ?_))))))))
 refine e (gj yg rfl rfl rfl (wz (dU aT) (dU aN) (dU aR) (dU E)) (Wk.aA an hB2) (by decide) fun w18 ay hB18=>au ((aX _ _ (rt (ow rfl (c9 (cs:=ga F ⟨J,.slice Y F.aliases.length gH,v20,.slice ai F.rules.length gx,V.sa,V.rn⟩) rfl rY rfl (fun j aK=>(bG.c8 ⟨_,hB18⟩ j).trans rfl)) ?_)))))
 have aL:∀ {t s n:Nat} {v:Value} {xs:List Value},World.ownsRow A w3.heap.size t s v n xs→World.ownsRow w18 w.heap.size t s v n xs:=fun h=>gi (bS h ay (fun q hq h2=>by have :=(cG h hq).1; omega)) (by omega)
 rw [List.take_of_length_le (by omega),List.take_of_length_le (by rw [List.length_map]; omega)] at hnl
 have hfl:∀ k,k=aY→∀ cur z,A.heap[k]?≠some (.cells cur 71 z):=dM (Wk.aA an hB2) (by decide)
 exact ⟨⟨⟨J,.slice Y F.aliases.length gH,v20,.slice ai F.rules.length gx,sa,rn⟩,rfl,⟨aL aT,aL aN,(bo.md ay hfl).mono (by omega),aL aR,aL E,(hnl.md ay hfl).mono (by omega)⟩⟩,(a1.md.trans an).trans' ay (fun q hq h=>by omega)⟩
end Go.Hb.kh
end
section
set_option maxRecDepth 20000
set_option maxHeartbeats 1000000
namespace Go.Hb.lI
open Go.Hb.di
open Go.Proofs
open Go.Hb.eX Go.Hb.fH Go.Hb.fP Go.Hb.iG Go.Hb.jP Go.Hb.kQ Go.Hb.gY Go.Hb.lF Go.Hb.g4 Go.Hb.kh Go.Hb.ko Go.Hb.gF Go.Hb.pj Go.Hb.gr
noncomputable def hY (r:List Tx):Nat×Int:=if r.length≠1 then (0,111) else cJ (r.getD 0 []) 8192
def Cr (i w':World) (X:Except Nat cR) (v:Value):Prop :=(∃ x a,X= .ok x∧v= .tuple #[.agg [str x.1,a].toArray,.int .i64 (0:Nat)]∧World.ownsRow w' i.heap.size 71 1 a x.2.length (x.2.map aO))∨(∃ e,X= .error e∧e≠0∧v= .tuple #[.agg [str [],.slice none 0 0].toArray,.int .i64 (e:Nat)])
theorem AB {s:Tx} {i:Nat} (hi:i < s.length):(s.take (i+1)).drop i= [s.getD i 0]:=by
 rw [oX 0 (Nat.le_refl i) hi,List.drop_eq_nil_of_le (by rw [List.length_take]; omega),List.nil_append]
theorem B4 (b:UInt8):lD [b]=fq b:=by unfold lD; rw [Db]; cases fq b <;> rfl
theorem ym {F:aI} {x:Nat} (h:(dK F.a3 x).isSome=true∨x∈F.sp):dw F x=true :=by
 unfold dw; rcases h with h | h
 · rw [h,Bool.or_true]
 · rw [decide_eq_true h]; rfl
theorem FT {F:aI} {x:Nat} (h:(dK F.a3 x).isSome=false) (h1:x∉F.sp):dw F x=false :=by
 unfold dw; rw [h,decide_eq_false h1]; rfl
theorem Ll {F:aI} (h:F.sp.length=5):[F.sp.getD 0 0,F.sp.getD 1 0,F.sp.getD 2 0,F.sp.getD 3 0,F.sp.getD 4 0]=F.sp:=by
 match F.sp,h with
 | [a,b,c,d,e],_=>rfl
theorem Ig (a:Option Addr) (c:Nat) (l:List Nat) (x:Nat) (w:World) (hC:aw w.heap a (l.map aO)) (hl:l.length≤1048576):
 aU Tryz.prog 105 (List.toArray [.slice a l.length c,aO x]) w (fun v w'=>(∃ k:Int,v= .int .i64 k∧(0≤k↔x∈l)∧ -1≤k∧k≤1048576)∧Wk w w'):=by
 refine enter Tryz.func105 rfl Tryz.ntmps105 rfl ?_
 refine U (fun _ I=>(aj (((I _ _ (sq (fun _ J=>U (fun _ M=> ?_))))))))
 refine ag (.slice a l.length c) (p (ba js rfl rfl) (p mv (au ((M _ _ (aA (lp (fun A q wI=> ∃ (i:Nat),(i≤l.length)∧(∀ j,j < i→l.getD j 0≠x)∧(wI=w)∧(q 0= .slice a l.length c)∧(q 1=aO x)∧(q 7=ae (l.length))∧(q 8=ae i)∧(l.length - i=A)) _ ⟨0,(by omega),((fun j E=>by omega)),rfl,rfl,rfl,rfl,rfl,rfl⟩ ?_)))))))
 rintro A q wI ⟨i,hi,G,ab,ah,ai,al,am,rfl⟩
 refine fx 0 ah (fx 1 ai (fx 7 al (fx 8 am ?_)))
 subst ab
 refine U (fun _ O=>(p (lt rfl rfl) (au ((O _ _ (sq (fun _ V=>cd rfl (fun ac=> ?_) (fun ac=> ?_))))))))
 refine az (tn (V _ _ (sq (fun _ s=>aA (U (fun _ Y=>(ag (ae i) (p (bF (ae i) rfl) ?_))))))))
 refine au ((Y _ _ (U (fun _ Z=>(ag (aO x) (ag (.slice a l.length c) (ag (ae i) (p (aJ bl rfl rfl (by omega) (aw.ok (hC) (bp (by omega)))) ?_))))))))
 refine p (ld bL rfl (aw.gv hC (show (l.map aO)[i]? =some (aO (l.getD i 0)) by rw [List.getElem?_map,List.getD_eq_getElem?_getD,List.getElem?_eq_getElem (by omega :i < l.length)]; rfl))) ?_
 refine p (bf rfl rfl) (au ((Z _ _ (cd rfl (fun C=> ?_) (fun C=> ?_)))))
 refine U (fun _ aa=>(ag (ae i) (p (bF (ae i) rfl) (au ((aa _ _ (rt (br ?_))))))))
 exact tr (tr (br (tr (f1 rfl rfl (⟨⟨(i:Nat),rfl,⟨fun _=>by obtain rfl :x=l.getD i 0:=(by omega); exact c6 (by omega),fun _=>by omega⟩,by omega,by omega⟩,Md.refl _ _⟩)))))
 refine az (bn (tn (s _ _ (rg rfl (p (ad rfl rfl (bm (by omega))) (p mv (nl (tn ?_))))))))
 exact ⟨_,by omega,i+1,(by omega),((fun j E=>by rcases Nat.lt_or_ge j i with h | h <;> first | exact G j h | (rw [show j=i by omega]; exact fun h2=>C (by rw [h2])))),rfl,rfl,rfl,rfl,rfl,rfl⟩
 refine ext (te _ (te _ (be (tn (J _ _ (U (fun _ s=>(p ak ?_))))))))
 exact au ((s _ _ (rt (f1 rfl rfl (⟨⟨-1,rfl,⟨fun h=>absurd h (by omega),fun h=>by obtain ⟨j,E,e⟩:=lh 0 h; exact absurd e (G j (by omega))⟩,by omega,by omega⟩,Md.refl _ _⟩)))))
theorem Fi (a:Option Addr) (c:Nat) (l:List Nat) (x:Nat) (w:World) (hC:aw w.heap a (l.map aO)) (hl:l.length≤1048576):
 aU Tryz.prog 76 (List.toArray [.slice a l.length c,aO x]) w (fun v w'=>v= .bool (decide (x∈l))∧Wk w w'):=by
 refine enter Tryz.func76 rfl Tryz.ntmps76 rfl ?_
 refine U (fun _ i=>(aj (((i _ _ (U (fun _ j=>(ag (.slice a l.length c) ?_))))))))
 refine ag (aO x) (e (cl Dd (Ig a c l x w hC hl) rfl fun C w7 hR7=> ?_))
 obtain ⟨⟨s,rfl,q,A⟩,hE7⟩:=hR7
 exact p (ge rfl rfl) (aj (((j _ _ (rt (f1 rfl rfl (⟨by show Value.bool (decide (s≥0))=_; exact congrArg Value.bool (decide_eq_decide.2 q),hE7⟩)))))))
theorem mE (ln er:Int) (w:World):
 aU Tryz.prog 36 (List.toArray [.int .i64 ln,.int .i64 er]) w (fun v w'=>v= .agg [.int .i64 2,.int .i64 ln,.int .i64 er].toArray∧Wk w w'):=by
 refine enter Tryz.func36 rfl Tryz.ntmps36 rfl ?_
 refine U (fun _ a=>(e (al iU fun G w4 I E A=>au ((a _ _ (U (fun _ i=>(ag (.int .i64 ln) ?_))))))))
 exact ag (.int .i64 er) (p (bZ (ps:= [(0,.int .i64 2),(1,.int .i64 ln),(2,.int .i64 er)]) (L:= [.int .i64 2,.int .i64 ln,.int .i64 er]) nL rfl (rfl)) (e (bY fU rfl rfl rfl rfl (A) (by simp) fun M C s=>au ((i _ _ (rt (ow rfl (c9 (cs:= [.int .i64 2,.int .i64 ln,.int .i64 er]) rfl jd rfl (fun j J=>s.c8 j)) (⟨rfl,E.md.trans' C (fun q hq h=>by omega)⟩))))))))
theorem F4 (n:Nat) (r:List Tx) (B:Nat) (a:Option Addr) (c:Nat) (w:World) (hT:Tg w B 9 r.length (.slice a r.length c) (r.map str)) (hrl:∀ x∈r,x.length≤70000) (hr:r.length≤70000):
 aU Tryz.prog 37 (List.toArray [.agg [ae n,.slice a r.length c].toArray]) w (fun v w'=>v= .tuple #[ae ((hY r).1),.int .i64 (hY r).2]∧Wk w w'):=by
 refine enter Tryz.func37 rfl Tryz.ntmps37 rfl ?_
 refine U (fun _ s=>(e (jt rfl fun I w1 J q hB1=> ?_)))
 have hT1:=hT.wk q.md
 refine p ak (aj (((s _ _ (sq (fun _ A=>U (fun _ C=>(p (fa oz rfl) ?_))))))))
 refine p (ld gl rfl ((hB1.aE 1).trans rfl)) (p (ba dx rfl rfl) (p (bB rfl rfl) (au ((C _ _ (cd rfl (fun G=> ?_) (fun G=> ?_)))))))
 refine U (fun _ j=>(p ak (aj (((j _ _ (rt (tr ?_))))))))
 refine f2 rfl rfl rfl ?_
 have h1:r.length≠1:=by omega
 exact ⟨by unfold hY; rw [if_pos h1]; rfl,q.md⟩
 refine az (tn (A _ _ (U (fun _ j=>(p (fa oz rfl) (p (ld gl rfl ((hB1.aE 1).trans rfl)) (p (aJ bE rfl rfl (by omega) (aw.ok (hT1.bH.2) (bp (by omega)))) (p (ld bz rfl (bu.get (i:=0) hT1.bH.2 (by omega))) ?_))))))))
 refine e (cl pS (qV (r.getD 0 []) 8192 w1 (by have :=hrl _ (c6 (d:= []) (show 0 < r.length by omega)); omega) (by omega)) rfl fun cC w12 E=> ?_)
 obtain ⟨rfl,hE12⟩:=E
 refine p (xt rfl rfl) (p (xt rfl rfl) (p ak (aj (((j _ _ (rt (f2 rfl rfl rfl ?_))))))))
 have h1:¬r.length≠1:=by omega
 exact ⟨by unfold hY; rw [if_neg h1]; rfl,q.md.trans hE12⟩
theorem FZ (B fb mc:Nat) (F:aI) (V:dW) (n:Nat) (r:List Tx) (a6:Nat) (aX:Option Addr) (aZ:Nat) (w:World) (aK:cD w B fb mc F V) (bP:∃ seen,ik F [] seen) (b8:Tg w a6 9 r.length (.slice aX r.length aZ) (r.map str)) (hrl:∀ x∈r,x.length≤70000) (hr:r.length≤70000):
 aU Tryz.prog 39 (List.toArray [aH fb,.agg [aO (F.sp.getD 0 0),aO (F.sp.getD 1 0),aO (F.sp.getD 2 0),aO (F.sp.getD 3 0),aO (F.sp.getD 4 0)].toArray,.agg [ae n,.slice aX r.length aZ].toArray]) w (fun v w'=>Cr w w' (et F r) v∧Wk w w'):=by
 obtain ⟨seen,ao⟩:=bP
 have hbl:=ao.len
 have hwl:=mV (r.getD 0 [])
 refine enter Tryz.func39 rfl Tryz.ntmps39 rfl ?_
 refine U (fun _ a7=>(e (jt rfl fun aD w4 cK a3 bM=>e (jt rfl fun cF w5 hb5 aL bN=>e (al Ch fun aY w6 hb6 aq hB6=> ?_)))))
 have ap:Wk w w6:=a3.md.trans (aL.md.trans aq.md)
 have hq4:=aq.md.B (aL.md.B bM)
 have hq5:=aq.md.B bN
 have hT:=b8.wk ap
 have hF6:=aK.wk ap
 have hz4:=a3.size
 have hz5:=aL.size
 have hz6:=aq.size
 refine aj (((a7 _ _ (sq (fun _ bd=>U (fun _ bl=>(p (fa oz rfl) (p (ld gl rfl ((hq5.aE 1).trans rfl)) ?_))))))))
 refine p (ba dx rfl rfl) (p (bB rfl rfl) (au ((bl _ _ (cd rfl (fun b9=> ?_) (fun b9=> ?_))))))
 refine U (fun _ aB=>(p (bZ (ps:= []) (L:= [.string ⟨⟨[]⟩⟩,.slice none 0 0]) lu rfl (rfl)) (e (bY ku rfl rfl rfl rfl (hB6) (by simp) fun c0 b1 bJ=>aj (((aB _ _ (rt ?_))))))))
 exact tr (dP rfl (c9 (cs:= [str [],.slice none 0 0]) rfl kq rfl (fun j C=>bJ.c8 j)) dF (⟨.inr ⟨111,yC (by omega),by decide,rfl⟩,ap.trans' b1 (fun q hq h=>by omega)⟩))
 have hr1:r.length=1:=by omega
 have cL:(r.getD 0 []).length≤70000:=hrl _ (c6 (by omega))
 refine az (tn (bd _ _ (U (fun _ aB=>(p (fa oz rfl) (p (ld gl rfl ((hq5.aE 1).trans rfl)) (p (aJ bE rfl rfl (by omega) (aw.ok (hT.bH.2) (bp (by omega)))) (p (ld bz rfl (bu.get (i:=0) hT.bH.2 (by omega))) ?_))))))))
 refine e (cl sA (vE (r.getD 0 []) w6 (by omega)) rfl fun cM w28 b3=> ?_)
 obtain ⟨rfl,ac⟩:=b3
 have hE28x:=ap.trans ac
 have hb28:=ac.B hB6
 have hz28:=ac.size
 refine p mv (p (xt rfl rfl) (p (xt rfl rfl) (p (xt rfl rfl) (p (xt rfl rfl) (p ak (p ak (p ak ?_)))))))
 refine aj (((aB _ _ (sq (fun _ bo=>U (fun _ bq=>(p mv (p (bB rfl rfl) ?_))))))))
 refine au ((bq _ _ (cd rfl (fun ca=> ?_) (fun ca=> ?_))))
 refine U (fun _ aC=>(p (bZ (ps:= []) (L:= [.string ⟨⟨[]⟩⟩,.slice none 0 0]) lu rfl (rfl)) (p mv (e (bY ku rfl rfl rfl rfl (hb28) (by simp) fun c1 b2 bO=>aj (((aC _ _ ?_))))))))
 exact rt (tr (dP rfl (c9 (cs:= [str [],.slice none 0 0]) rfl kq rfl (fun j C=>bO.c8 j)) dF (⟨.inr ⟨_,qg hr1 (by omega),(by omega),rfl⟩,hE28x.trans' b2 (fun q hq h=>by omega)⟩)))
 have Y:(aW (r.getD 0 [])).2.2.2=0:=by omega
 refine az (tn (bo _ _ (sq (fun _ aC=>U (fun _ bs=>(p mv (p (bK u9 rfl rfl) (p mv ?_))))))))
 refine au ((bs _ _ (aA (lp (fun ab E wI=> ∃ (i:Nat),(i≤(aW (r.getD 0 [])).1.length)∧(∀ j,j < i→fq ((aW (r.getD 0 [])).1.getD j 0)=true)∧(Wk w28 wI)∧(E 0=aH fb)∧(E 4=aH aD)∧(E 6=aH aY)∧(E 8=str (aW (r.getD 0 [])).1)∧(E 9=str (aW (r.getD 0 [])).2.1)∧(E 10= .bool (aW (r.getD 0 [])).2.2.1)∧(E 38=ae ((aW (r.getD 0 [])).1.length))∧(E 39=ae i)∧((aW (r.getD 0 [])).1.length - i=ab)) _ ⟨0,(by omega),((fun j C=>by omega)),(Md.refl _ _),rfl,rfl,rfl,rfl,rfl,rfl,rfl,rfl,rfl⟩ ?_))))
 rintro ab E wI ⟨i,hi,a4,A,cj,co,cp,cq,cr,ck,cm,cn,rfl⟩
 refine fx 0 cj (fx 4 co (fx 6 cp (fx 8 cq (fx 9 cr (fx 10 ck (fx 38 cm (fx 39 cn (U (fun _ bt=>(p (lt rfl rfl) (au ((bt _ _ (sq (fun _ a8=>cd rfl (fun cc=> ?_) (fun cc=> ?_))))))))))))))))
 refine az (tn (a8 _ _ (sq (fun _ ar=>aA (U (fun _ av=>(ag (ae i) (p (bF (ae i) rfl) ?_))))))))
 refine au ((av _ _ (U (fun _ Z=>(ag (str (aW (r.getD 0 [])).1) (ag (ae i) (ag (ae i) (p (ad rfl rfl (bm (by omega))) ?_))))))))
 refine p (iS u9 rfl rfl rfl (by omega)) (e (cl xI (B5 (((aW (r.getD 0 [])).1.take (i+1)).drop i) wI (by rw [AB (by omega)]; simp)) rfl fun cN cQ b4=> ?_))
 obtain ⟨rfl,hE47⟩:=b4
 have hon:=AB (s:=(aW (r.getD 0 [])).1) (i:=i) (by omega)
 have hE47x:=A.trans hE47
 refine p (no rfl) (au ((Z _ _ (cb rfl (fun aP=> ?_) (fun aP=> ?_)))))
 have aS:fq ((aW (r.getD 0 [])).1.getD i 0)=false :=by rw [← B4,← hon]; simpa using aP
 refine U (fun _ aa=>(p (bZ (ps:= []) (L:= [.string ⟨⟨[]⟩⟩,.slice none 0 0]) lu rfl (rfl)) (e (bY ku rfl rfl rfl rfl (Wk.B hE47x hb28) (by simp) fun cS bQ bv=>aj (((aa _ _ (rt ?_))))))))
 exact br (tr (tr (br (tr (dP rfl (c9 (cs:= [str [],.slice none 0 0]) rfl kq rfl (fun j C=>bv.c8 j)) dF (⟨.inr ⟨21,qh hr1 Y (.inl (nf (by omega) aS)),by decide,rfl⟩,(hE28x.trans hE47x).trans' bQ (fun q hq h=>by omega)⟩))))))
 have aS:fq ((aW (r.getD 0 [])).1.getD i 0)=true :=by rw [← B4,← hon]; simpa using aP
 refine az (bn (tn (ar _ _ (rg rfl (p (ad rfl rfl (bm (by omega))) (p mv (nl (tn ?_))))))))
 exact ⟨_,by omega,i+1,(by omega),((fun j C=>by rcases Nat.lt_or_ge j i with h | h <;> first | exact a4 j h | (rw [show j=i by omega]; exact aS))),hE47x,rfl,rfl,rfl,rfl,rfl,rfl,rfl,rfl,rfl⟩
 refine ext (te _ (te _ (be (tn (aC _ _ (sq (fun _ ar=>aA (sq (fun _ av=> ?_)))))))))
 refine rg rfl (ag (str (aW (r.getD 0 [])).1) (p (cI rfl rfl) (aj (((av _ _ (cd rfl (fun O=> ?_) (fun O=> ?_))))))))
 refine U (fun _ Z=>(p (bZ (ps:= []) (L:= [.string ⟨⟨[]⟩⟩,.slice none 0 0]) lu rfl (rfl)) (e (bY ku rfl rfl rfl rfl (Wk.B A hb28) (by simp) fun cT bR bw=>aj (((Z _ _ (rt ?_))))))))
 exact br (tr (dP rfl (c9 (cs:= [str [],.slice none 0 0]) rfl kq rfl (fun j C=>bw.c8 j)) dF (⟨.inr ⟨21,qh hr1 Y (.inr O),by decide,rfl⟩,(hE28x.trans A).trans' bR (fun q hq h=>by omega)⟩)))
 have hby:=oe (w:=(aW (r.getD 0 [])).1) (fun j C=>a4 j (by omega))
 refine U (fun _ Z=>(ag (str (aW (r.getD 0 [])).1) (p (bK u9 rfl rfl) (p (gt rfl rfl) (aj (((Z _ _ ?_))))))))
 refine cd rfl (fun ce=> ?_) (fun ce=> ?_)
 refine U (fun _ aa=>(p (bZ (ps:= []) (L:= [.string ⟨⟨[]⟩⟩,.slice none 0 0]) lu rfl (rfl)) (e (bY ku rfl rfl rfl rfl (Wk.B A hb28) (by simp) fun cV bT bx=>aj (((aa _ _ (rt ?_))))))))
 exact br (tr (dP rfl (c9 (cs:= [str [],.slice none 0 0]) rfl kq rfl (fun j C=>bx.c8 j)) dF (⟨.inr ⟨22,yD hr1 Y hby O (by omega),by decide,rfl⟩,(hE28x.trans A).trans' bT (fun q hq h=>by omega)⟩)))
 refine U (fun _ aa=>(ag (.bool (aW (r.getD 0 [])).2.2.1) (p (no rfl) (aj (((aa _ _ (cb rfl (fun ah=> ?_) (fun ah=> ?_)))))))))
 refine U (fun _ ax=>(ag (str (aW (r.getD 0 [])).1) (p (bZ (ps:= [(0,str (aW (r.getD 0 [])).1)]) (L:= [str (aW (r.getD 0 [])).1,.slice none 0 0]) lu rfl (rfl)) (e (bY ku rfl rfl rfl rfl (Wk.B A hb28) (by simp) fun cW bU bC=>aj (((ax _ _ ?_))))))))
 exact rt (br (tr (dP rfl (c9 (cs:= [str (aW (r.getD 0 [])).1,.slice none 0 0]) rfl kq rfl (fun j C=>bC.c8 j)) dF (⟨.inl ⟨_,.slice none 0 0,s6 hr1 Y hby O (by omega) (by simpa using ah),rfl,World.ownsRow_nil _ _ _ _⟩,(hE28x.trans A).trans' bU (fun q hq h=>by omega)⟩))))
 refine az (bn (tn (ar _ _ (U (fun _ ax=>(ag (aH fb) (ag (str (aW (r.getD 0 [])).2.1) (e (cl xJ (yN B fb mc F V (aW (r.getD 0 [])).2.1 wI (hF6.wk (ac.trans A)) ao.kd ao.al (by omega) (by omega)) rfl fun cB w68 b5=> ?_)))))))))
 obtain ⟨ci,aF⟩:=b5
 have hE68x:=hE28x.trans (A.trans aF)
 have hb68:=Wk.B (A.trans aF) hb28
 obtain ⟨cC,cH,rfl,hcs⟩:∃ a,∃ e:Nat,cB= .tuple #[a,ae e]∧((e=0∧∃ l,ed F.kind F.aliases (aW (r.getD 0 [])).2.1= .ok l∧World.ownsRow w68 wI.heap.size 71 1 a l.length (l.map aO))∨(e≠0∧ed F.kind F.aliases (aW (r.getD 0 [])).2.1= .error e)):=by
  rcases ci with ⟨a,l,h1,h2,h3⟩ | ⟨a,e,h1,h2,h3⟩
  exact ⟨a,0,h1,.inl ⟨rfl,l,h2,h3⟩⟩
  exact ⟨a,e,h1,.inr ⟨h2,h3⟩⟩
 refine p mv (p (xt rfl rfl) (p (xt rfl rfl) (p ak (aj (((ax _ _ (sq (fun _ a9=> ?_)))))))))
 refine U (fun _ bb=>(p mv (p (bB rfl rfl) (au ((bb _ _ (cd rfl (fun cg=> ?_) (fun cg=> ?_))))))))
 obtain ⟨hne,ai⟩:=hcs.resolve_left (fun h=>by omega)
 refine U (fun _ ay=>(p (bZ (ps:= []) (L:= [.string ⟨⟨[]⟩⟩,.slice none 0 0]) lu rfl (rfl)) (p mv (e (bY ku rfl rfl rfl rfl (hb68) (by simp) fun cX bV bD=>aj (((ay _ _ ?_))))))))
 exact rt (tr (dP rfl (c9 (cs:= [str [],.slice none 0 0]) rfl kq rfl (fun j C=>bD.c8 j)) dF (⟨.inr ⟨_,yE hr1 Y hby O (by omega) (by simpa using ah) ai,hne,rfl⟩,hE68x.trans' bV (fun q hq h=>by omega)⟩)))
 obtain ⟨_,set,ai,am⟩:=hcs.resolve_right (fun h=>by omega)
 obtain ⟨J,M,rfl⟩:=bW am
 have hsl:=qo (fun l hl=>(ao.al l hl).1) ai
 refine az (tn (a9 _ _ (sq (fun _ ay=>U (fun _ bc=>(p mv (p (ba LV rfl rfl) (p mv ?_))))))))
 refine au ((bc _ _ (aA (lp (fun ab G aT=> ∃ (j:Nat),(j≤set.length)∧(∀ q,q < j→dw F (set.getD q 0)=true)∧(Wk w68 aT)∧(G 0=aH fb)∧(G 4=aH aD)∧(G 6=aH aY)∧(G 8=str (aW (r.getD 0 [])).1)∧(G 13= .slice J set.length M)∧(G 75= .slice J set.length M)∧(G 76=ae (set.length))∧(G 77=ae j)∧(set.length - j=ab)) _ ⟨0,(by omega),((fun q hq=>by omega)),(Md.refl _ _),rfl,rfl,rfl,rfl,rfl,rfl,rfl,rfl,rfl⟩ ?_))))
 rintro ab G aT ⟨j,C,aN,I,ct,cv,cw,cA,cu,cx,cy,cz,rfl⟩
 refine fx 0 ct (fx 4 cv (fx 6 cw (fx 8 cA (fx 13 cu (fx 75 cx (fx 76 cy (fx 77 cz (U (fun _ bf=>(p (lt rfl rfl) (au ((bf _ _ (sq (fun _ bh=>cd rfl (fun ch=> ?_) (fun ch=> ?_))))))))))))))))
 refine az (tn (bh _ _ (sq (fun _ an=>aA (U (fun _ bi=>(p (aJ Gz rfl rfl (by omega) (aw.ok ((aM (aG am I)).2) (bp (by omega)))) (p (ld bL rfl (aw.gv (aM (aG am I)).2 (show (set.map aO)[j]? =some (aO (set.getD j 0)) by rw [List.getElem?_map,List.getD_eq_getElem?_getD,List.getElem?_eq_getElem (by omega :j < set.length)]; rfl))) ?_))))))))
 refine aj (((bi _ _ (U (fun _ bj=>(ag (aH fb) (p mv (e (cl xH (yK B fb mc F V (set.getD j 0) aT (aK.wk (hE68x.trans I)) (by omega)) rfl fun cO w84 b6=> ?_)))))))))
 obtain ⟨rfl,a0⟩:=b6
 have hz84:=a0.size
 have hzJ:=I.size
 refine p mv (p (xt rfl rfl) (p (xt rfl rfl) (e (al pc fun cE w16 hb16 a2 bA=>e (bY ni rfl rfl rfl rfl (bA) (by simp) fun wt24_7 bX cJ=> ?_)))))
 have hz16:=a2.size
 have hE24:Wk w68 wt24_7:=(I.trans (a0.trans a2.md)).trans' bX (fun q hq h=>by omega)
 refine aj (((bj _ _ (U (fun _ aV=>(p mv (p (no rfl) (p mv ?_))))))))
 refine gb (t:=89) rfl (fun aR=> ?_) (fun aR=> ?_)
 refine pg rfl rfl rfl (CU r7 rfl) (pg rfl rfl rfl mv (eg rfl rfl rfl (cl El (Fi (some ⟨aD,0,none⟩) 5 [F.sp.getD 0 0,F.sp.getD 1 0,F.sp.getD 2 0,F.sp.getD 3 0,F.sp.getD 4 0] (set.getD j 0) wt24_7 (aw.cU (Wk.B ((ac.trans (A.trans aF)).trans hE24) hq4)) (by simp)) rfl fun cP cR b7=> ?_)))
 obtain ⟨rfl,hE92⟩:=b7
 rw [Ll aK.ef] at*
 refine pg rfl rfl rfl (no rfl) (p (bg rfl) (au ((aV _ _ (cb rfl (fun aQ=> ?_) (fun aQ=> ?_))))))
 refine U (fun _ bk=>(p (bZ (ps:= []) (L:= [.string ⟨⟨[]⟩⟩,.slice none 0 0]) lu rfl (rfl)) (e (bY ku rfl rfl rfl rfl (Wk.B (hE24.trans hE92) hb68) (by simp) fun cY b0 bG=>aj (((bk _ _ (rt ?_))))))))
 exact br (tr (tr (br (tr (dP rfl (c9 (cs:= [str [],.slice none 0 0]) rfl kq rfl (fun j C=>bG.c8 j)) dF (⟨.inr ⟨120,yF hr1 Y hby O (by omega) (by simpa using ah) ai (i:=j) (by omega) (FT (by simpa using aR) (by simpa using aQ)),by decide,rfl⟩,(hE68x.trans (hE24.trans hE92)).trans' b0 (fun q hq h=>by omega)⟩))))))
 refine az (bn (tn (an _ _ (rg rfl (p (ad rfl rfl (bm (by omega))) (p mv (nl (tn ?_))))))))
 exact ⟨_,by omega,j+1,(by omega),((fun q hq=>by rcases Nat.lt_or_ge q j with h | h <;> first | exact aN q h | (rw [show q=j by omega]; exact ym (.inr (by simpa using aQ))))),(hE24.trans hE92),rfl,rfl,rfl,rfl,rfl,rfl,rfl,rfl,rfl⟩
 refine sk rfl rfl rfl rfl (sk rfl rfl rfl rfl (sk rfl rfl rfl rfl (sk rfl rfl rfl rfl (p (a5 rfl) (au ((aV _ _ (cf rfl ?_))))))))
 refine az (bn (tn (an _ _ (rg rfl (p (ad rfl rfl (bm (by omega))) (p mv (nl (tn ?_))))))))
 exact ⟨_,by omega,j+1,(by omega),((fun q hq=>by rcases Nat.lt_or_ge q j with h | h <;> first | exact aN q h | (rw [show q=j by omega]; exact ym (.inl (by simpa using aR))))),hE24,rfl,rfl,rfl,rfl,rfl,rfl,rfl,rfl,rfl⟩
 refine ext (te _ (te _ (be (tn (ay _ _ (U (fun _ an=>(ag (str (aW (r.getD 0 [])).1) ?_))))))))
 refine ag (.slice J set.length M) (p (bZ (ps:= [(0,str (aW (r.getD 0 [])).1),(1,.slice J set.length M)]) (L:= [str (aW (r.getD 0 [])).1,.slice J set.length M]) lu rfl (rfl)) (e (bY ku rfl rfl rfl rfl (Wk.B I hb68) (by simp) fun cZ a1 bI=>aj (((an _ _ (rt (dP rfl (c9 (cs:= [str (aW (r.getD 0 [])).1,.slice J set.length M]) rfl kq rfl (fun j C=>bI.c8 j)) dF ?_))))))))
 exact ⟨.inl ⟨((aW (r.getD 0 [])).1,set),.slice J set.length M,s7 hr1 Y hby O (by omega) (by simpa using ah) ai (fun j C=>aN j (by omega)),rfl,gi (bS (aG am I) a1 (fun q hq h=>by have :=(cG am hq).1; have :=A.size; omega)) (by have :=A.size; omega)⟩,(hE68x.trans I).trans' a1 (fun q hq h=>by omega)⟩
end Go.Hb.lI
end
section
set_option maxRecDepth 20000
set_option maxHeartbeats 1000000
namespace Go.Hb.ml
open Go.Hb.di
open Go.Proofs
open Go.Hb.eX Go.Hb.fH Go.Hb.fP Go.Hb.iG Go.Hb.jP Go.Hb.kQ Go.Hb.kf Go.Hb.gY Go.Hb.lF Go.Hb.g4 Go.Hb.kh Go.Hb.lI Go.Hb.ko Go.Hb.gF Go.Hb.pj Go.Hb.pf Go.Hb.gr Go.Hb.fS
theorem He:tg Tryz.prog 87 3=some (81,3):=by kernel_rfl
def fW (q:cR×Value):List Value:= [str q.1.1,q.2]
def ej (l:List (cR×Value)):List Value:=l.flatMap fW
theorem yA (l:List (cR×Value)) (q:cR×Value):ej (l++ [q])=ej l++fW q:=by simp [ej]
theorem yB (l:List (cR×Value)):(ej l).length=l.length*2:=kD (f:=fW) (m:=2) (fun _=>rfl) l
theorem mP {w:World} {B e size n k:Nat} {v:Value} {xs:List Value} (h:World.ownsRow w B e size v n xs) (hk:v.ownBlock=some k) (i:∀ cur z,w.heap[k]?≠some (.cells cur e z)):False:=by
 rcases h.2 with ⟨rfl,rfl⟩ | ⟨g,cap,cur,rfl,_,hg,_⟩
 · cases hk
 · have a:g=k:=by simpa [Value.ownBlock] using hk
   subst a
   exact i _ _ hg
structure kn (w:World) (B:Nat) (f:Value→Option Value) (xs:List cR):Prop where
 own:∀ s:Tx,World.ownsRow w B 3 1 ((f (str s)).getD (Value.slice none 0 0)) (idxs s xs).length ((idxs s xs).map bq)
 nil:∀ s:Tx,idxs s xs= []→(f (str s)).getD (Value.slice none 0 0)=(Value.slice none 0 0)
theorem kn.md {G:Nat→Prop} {w w':World} {B:Nat} {f:Value→Option Value} {xs:List cR} (h:kn w B f xs) (hm:Md G w w') (a:∀ k,G k→∀ cur z,w.heap[k]?≠some (.cells cur 3 z)):kn w' B f xs:=by
 refine ⟨fun s=> ?_,h.nil⟩
 refine bS (h.own s) hm (fun k hk hg=> ?_)
 exact mP (h.own s) hk (fun cur z hc=>a k hg cur z hc)
theorem uD {w:World} {B p k n i:Nat} {v v':Value} {xs j:List Value} (h:World.ownsRow w B 3 1 v n xs) (C:World.ownsRow w p 3 1 v' i j) (hk:v.ownBlock=some k) (E:v'.ownBlock=some k) (hn:0 < n) (O:0 < i):xs[0]? =j[0]? :=by
 rcases h.2 with ⟨rfl,rfl⟩ | ⟨g,cap,cur,rfl,_,hg,_,_,_,G⟩
 · omega
 · rcases C.2 with ⟨rfl,rfl⟩ | ⟨A,J,M,rfl,_,a,_,_,_,I⟩
   · omega
   · have q:g=k:=by simpa [Value.ownBlock] using hk
     have s:A=k:=by simpa [Value.ownBlock] using E
     subst q s
     rw [hg] at a
     cases a
     rw [← G,← I,List.getElem?_take,List.getElem?_take,if_pos (by omega),if_pos (by omega)]
theorem kn.sep {w:World} {B k:Nat} {f:Value→Option Value} {xs:List cR} {s t:Tx} (h:kn w B f xs) (hne:s≠t) (hs:((f (str s)).getD (Value.slice none 0 0)).ownBlock=some k):((f (str t)).getD (Value.slice none 0 0)).ownBlock≠some k:=by
 intro a
 have q:idxs s xs≠[]:=fun e=>by rw [h.nil s e] at hs; cases hs
 have A:idxs t xs≠[]:=fun e=>by rw [h.nil t e] at a; cases a
 have he:=uD (h.own s) (h.own t) hs a (List.length_pos_iff.2 q) (List.length_pos_iff.2 A)
 cases h1:idxs s xs with
 | nil=>exact q h1
 | cons i l=>
   cases h2:idxs t xs with
   | nil=>exact A h2
   | cons j m=>
     rw [h1,h2] at he
     have C:i=j:=by have h:=he; simp only [List.map_cons,List.getElem?_cons_zero,Option.some.injEq,bq,Value.int.injEq,true_and] at h; omega
     subst C
     have m1:i∈idxs s xs:=by rw [h1]; simp
     have p:i∈idxs t xs:=by rw [h2]; simp
     unfold idxs at m1 p
     have q1:=of_decide_eq_true (List.mem_filter.1 m1).2
     have q2:=of_decide_eq_true (List.mem_filter.1 p).2
     exact hne (q1.symm.trans q2)
theorem kn.put {w w1 A:World} {B q:Nat} {f:Value→Option Value} {xs:List cR} {x:cR} {v:Value} (h:kn w B f xs) (hm:Md (fun k=>((f (str x.1)).getD (Value.slice none 0 0)).ownBlock=some k) w w1)
 (p:World.ownsRow w1 B 3 1 v (idxs x.1 xs++ [xs.length]).length ((idxs x.1 xs++ [xs.length]).map bq)) (j:∀ cur z,w1.heap[q]?≠some (.cells cur 3 z)) (i:Md (fun k=>k=q) w1 A):kn A B (bj f (str x.1) v) (xs++ [x]):=by
 refine ⟨fun s=> ?_,fun s hs=> ?_⟩
 · by_cases a:x.1=s
   · subst a
     rw [oR,qK,if_pos rfl]
     exact bS p i (fun k hk hg=>mP p hk (fun cur z hc=>j cur z (hg ▸ hc)))
   · rw [nH (fun e=>a (str_inj.1 e).symm),qK,if_neg a,List.append_nil]
     have h1:=bS (h.own s) hm (fun k hk hg=>h.sep a hg hk)
     exact bS h1 i (fun k hk hg=>mP h1 hk (fun cur z hc=>j cur z (hg ▸ hc)))
 · rw [qK] at hs
   by_cases a:x.1=s
   · rw [if_pos a] at hs; simp at hs
   · rw [if_neg a,List.append_nil] at hs
     rw [nH (fun e=>a (str_inj.1 e).symm)]; exact h.nil s hs
structure iW (w:World) (B wb mb:Nat) (va:Value) (vs:List Value) (xs:List cR):Prop where
 cells:w.heap[wb]? =some (.cells [va,.map (some mb)].toArray 108 (0,0))
 own:World.ownsRow w B 56 2 va xs.length (ej (xs.zip vs))
 fl:c4 w B 71 vs (xs.map (·.2))
 mp:∃ f,bP w.heap mb fM f∧kn w B f xs
theorem iW.md {G:Nat→Prop} {w w':World} {B p a:Nat} {j:Value} {vs:List Value} {xs:List cR} (h:iW w B p a j vs xs) (hm:Md G w w') {L:List Nat} (hT:TF w L G) (i:(L.contains 110 || L.contains 58 || L.contains 73 || L.contains 5)=false) (s:¬G a):iW w' B p a j vs xs:=by
 simp only [Bool.or_eq_false_iff] at i
 obtain ⟨⟨⟨h1,h2⟩,h3⟩,h4⟩:=i
 obtain ⟨f,hf,q⟩:=h.mp
 exact ⟨hm.gw hT h.cells h1,bI h.own hm hT h2,h.fl.md hm (fun k hk cur z hg=>hT.no (cV hg) h3 hk),⟨f,hf.md hm s,q.md hm (fun k hk cur z hg=>hT.no (cV hg) h4 hk)⟩⟩
theorem iW.wk {w w':World} {B j a:Nat} {i:Value} {vs:List Value} {xs:List cR} (h:iW w B j a i vs xs) (hm:Wk w w'):iW w' B j a i vs xs:=h.md (L:= []) hm (fun _ hk=>hk.elim) rfl id
theorem sU {F:aI} {t:Tx} {ln:Nat} {row:List Tx} {rows:List Rw} (h:¬65536 < t.length) (h1:bh t=(ln,row)::rows) (h2:(hY row).2≠0):∃ e:Nat,(hY row).2=(e:Int)∧eO F t= .error (ln,e):=by
 unfold hY at h2 ⊢
 by_cases hr:row.length≠1
 · rw [if_pos hr]; exact ⟨111,rfl,F7 h h1 hr⟩
 · rw [if_neg hr] at h2 ⊢
   have h3:=lk (s:=row.getD 0 []) (most:=8192) h2
   exact ⟨13,h3.2,F9 h h1 (Classical.not_not.1 hr) h3.1⟩
theorem yo {F:aI} {t:Tx} {ln:Nat} {row:List Tx} {rows:List Rw} (h:¬65536 < t.length) (h1:bh t=(ln,row)::rows) (h2:(hY row).2=0):∃ n:Nat,(hY row).1=n∧n≤8192∧eO F t=ek F ((a7 t).length+1) n rows:=by
 unfold hY at h2 ⊢
 by_cases hr:row.length≠1
 · rw [if_pos hr] at h2; cases h2
 · rw [if_neg hr] at h2 ⊢
   exact ⟨_,rfl,by have :=l7 (row.getD 0 []) 8192 h2; omega,yp h h1 (Classical.not_not.1 hr) (j9 h2)⟩
theorem rC {u:Tx} {a:Value} (h:a.oneCell'=true):[str u,a].all Value.oneCell'=true :=by rw [List.all_cons,List.all_cons,h]; rfl
def vJ (l e:Nat):Value:= .agg [.int .i64 2,.int .i64 (l:Nat),.int .i64 (e:Nat)].toArray
def Cp (w':World) (B0:Nat) (xs:List cR) (v:Value):Prop := ∃ B a i j vs,B0≤B∧v= .tuple #[.pointer (some ⟨a,0,none⟩),.agg [.int .i64 0,.int .i64 0,.int .i64 0].toArray]∧iW w' B a i j vs xs∧B0≤a∧B0≤i
def Co (e:Nat×Nat) (v:Value):Prop :=v= .tuple #[.pointer none,vJ e.1 e.2]
def iX (F:aI) (t:Tx) (w:World) (v:Value) (w':World):Prop :=(match eO F t with | .ok xs=>Cp w' w.heap.size xs v | .error e=>Co e v)∧Wk w w'
theorem iX.no {F:aI} {t:Tx} {w w':World} {l e:Nat} (h:eO F t= .error (l,e)) (hm:Wk w w'):iX F t w (.tuple #[.pointer none,.agg [.int .i64 2,.int .i64 (l:Nat),.int .i64 (e:Nat)].toArray]) w':=by
 unfold iX; rw [h]; exact ⟨rfl,hm⟩
theorem Gc (t:Tx) (w:World):
 aU Tryz.prog 11 (List.toArray [.pointer none,str t]) w (fun v w'=>v= .tuple #[.pointer none,vJ 0 1]∧Wk w w'):=by
 refine enter Tryz.func11 rfl Tryz.ntmps11 rfl ?_
 refine U (fun _ i=>(p ak (e (al iU fun O w5 hb5 I E=>au ((i _ _ (sq (fun _ M=>sq (fun _ s=> ?_)))))))))
 refine rg rfl (ag (.pointer none) (p (g8 nO rfl rfl) (au ((s _ _ (ct (rfl) (U (fun _ A=> ?_))))))))
 refine e (cl mA (mE 0 1 w5) rfl fun Y w19 J=> ?_)
 obtain ⟨rfl,a⟩:=J
 exact p ak (e (bY fU rfl rfl rfl rfl (a.B E) (by simp) fun Z G C=>au ((A _ _ (rt (tr (dP rfl dF (c9 (cs:= [.int .i64 2,.int .i64 0,.int .i64 1]) rfl jd rfl (fun j V=>C.c8 j)) (⟨rfl,(I.md.trans a).trans' G (fun q hq h=>by omega)⟩))))))))
theorem sZ (B fb mc:Nat) (F:aI) (V:dW) (t:Tx) (w:World) (bL:cD w B fb mc F V) (cZ:∃ seen,ik F [] seen) (hnx:Nx F) (hs:t.length≤1048576):
 aU Tryz.prog 11 (List.toArray [aH fb,str t]) w (iX F t w):=by
 refine enter Tryz.func11 rfl Tryz.ntmps11 rfl ?_
 refine U (fun _ cc=>(p ak (e (fT iU fun a2 w5 hb5 bN bH=> ?_))))
 have bE:bG w5.heap a2 [.int .i64 0,.int .i64 0,.int .i64 0]:=⟨_,bH⟩
 refine au ((cc _ _ (sq (fun _ co=>U (fun _ ct=>(ag (aH fb) (p (g8 nO rfl rfl) (nl ?_))))))))
 refine tn (ct _ _ (cf (rfl) (az (tn (co _ _ (U (fun _ cu=>(ag (str t) (e (cl xB (BA t _ hs) rfl fun ex bu dh=> ?_))))))))))
 obtain ⟨⟨ed,rfl,b1⟩,hE22⟩:=dh
 have hE22x:=bN.md.trans hE22
 have hz5:=bN.size
 refine p mv (p (xt rfl rfl) (p (xt rfl rfl) (p ak (aj (((cu _ _ (sq (fun _ cx=> ?_)))))))))
 refine U (fun _ cy=>(p mv (p (bB rfl rfl) (au ((cy _ _ (cd rfl (fun bp=> ?_) (fun bp=> ?_))))))))
 have bX:65536 < t.length:=Classical.byContradiction fun h=>bp (by rw [if_neg h])
 refine U (fun _ aZ=>(p mv (e (cl mA (mE 0 (if 65536 < t.length then 10 else 0) bu) rfl fun ey w28 di=> ?_))))
 obtain ⟨rfl,a5⟩:=di
 have hz28:=(hE22.trans a5).size
 refine p ak (e (bY fU rfl rfl rfl rfl (Wk.B (hE22.trans a5) bE) (by simp) fun eP db cW=>au ((aZ _ _ (rt (tr (dP rfl dF (c9 (cs:= [.int .i64 2,.int .i64 0,.int .i64 (if 65536 < t.length then 10 else 0)]) rfl jd rfl (fun j aa=>cW.c8 j)) ?_)))))))
 have h:=iX.no (F:=F) (yr bX) ((hE22x.trans a5).trans' db (fun q hq h=>by omega))
 show iX F t w (.tuple #[.pointer none,.agg [.int .i64 2,.int .i64 0,.int .i64 (if 65536 < t.length then 10 else 0)].toArray]) _
 rw [if_pos bX]
 exact h
 have hsm:¬65536 < t.length:=fun h=>bp (by rw [if_pos h]; decide)
 rw [if_neg hsm] at b1
 obtain ⟨ca,bx,rfl⟩:=bW b1
 have hll:=j6 t
 refine az (tn (cx _ _ (U (fun _ aZ=>(ag (str t) (e (cl xA (A3 t _ hs) rfl fun ez w31 dj=> ?_)))))))
 obtain ⟨⟨ef,rfl,hcs⟩,hE31⟩:=dj
 rw [if_neg hsm] at hcs
 obtain ⟨cb,aN,aP⟩:=hcs
 obtain ⟨bv,ax,rfl⟩:=bW aN
 have hE31x:=hE22x.trans hE31
 have hb5x:=Wk.B (hE22.trans hE31) bE
 have hz31:=(hE22.trans hE31).size
 have hrl:=q6 t
 refine p mv (p (xt rfl rfl) (p (xt rfl rfl) (p ak (aj (((aZ _ _ (sq (fun _ cz=> ?_)))))))))
 refine U (fun _ cA=>(p mv (p (ba rF rfl rfl) (p (bf rfl rfl) (au ((cA _ _ (cd rfl (fun bs=> ?_) (fun bs=> ?_)))))))))
 have hnil:bh t= []:=List.eq_nil_of_length_eq_zero (by omega)
 refine U (fun _ aS=>(p mv (p (ba dx rfl rfl) (p (bc (((a7 t).length+1:Nat):Int) rfl rfl (aR (by omega) (by omega))) (e (cl mA (mE ((a7 t).length+1:Nat) 116 w31) rfl fun eA w40 dk=> ?_))))))
 obtain ⟨rfl,a8⟩:=dk
 have hz40:=a8.size
 exact p ak (e (bY fU rfl rfl rfl rfl (Wk.B a8 hb5x) (by simp) fun eQ dc cX=>au ((aS _ _ (rt (tr (dP rfl dF (c9 (cs:= [.int .i64 2,ae ((a7 t).length+1),.int .i64 116]) rfl jd rfl (fun j aa=>cX.c8 j)) (iX.no (yt hsm hnil) ((hE31x.trans a8).trans' dc (fun q hq h=>by omega))))))))))
 obtain ⟨⟨ln0,am⟩,rest,hrw⟩:∃ q rest,bh t=q::rest:=by
  cases h:bh t with
  | nil=>rw [h] at bs; exact absurd rfl bs
  | cons q rest=>exact ⟨q,rest,rfl⟩
 have hvl:=aP.1
 rw [hrw] at aN aP hvl hrl
 obtain ⟨⟨q1,q2⟩,rvs',rfl⟩:∃ q vs',cb=q::vs':=by
  cases cb with
  | nil=>exact absurd hvl (by simp)
  | cons q vs'=>exact ⟨q,vs',rfl⟩
 obtain ⟨hq1,hq2⟩:=aP.2 0 (q1,q2) (ln0,am) rfl rfl
 obtain rfl :q1=ln0:=hq1
 obtain ⟨cB,c0,rfl⟩:=hq2.slice
 have hCr0:=(aM aN).2
 have hcr:=(aM aN).1
 have b3:∀ q∈(q1,am)::rest,q.2.length≤70000∧∀ x∈q.2,x.length≤70000:=fun q hq=>by
  have h:=q7 (show q∈bh t by rw [hrw]; exact hq)
  exact ⟨by omega,fun x d6=>by have :=(h.2.2.2.2 x d6).2; omega⟩
 have hm0:=b3 _ (List.mem_cons_self ..)
 simp only [List.length_cons] at hvl hrl hcr
 refine az (tn (cz _ _ (U (fun _ aS=>(p mv (p (aJ nm rfl rfl (by rw [hrw]; simp only [List.length_cons]; omega) (aw.ok (hCr0) (iD (by simp)))) (p (dB pC rfl (rfl) (iF (i:=0) hCr0 rfl)) (e (cl D1 (F4 q1 am bu.heap.size cB c0 w31 hq2 hm0.2 hm0.1) rfl fun eB w45 dl=> ?_)))))))))
 obtain ⟨rfl,hE45⟩:=dl
 have hz45:=hE45.size
 refine p mv (p (xt rfl rfl) (p (xt rfl rfl) (p ak (aj (((aS _ _ (sq (fun _ ce=> ?_)))))))))
 refine U (fun _ cg=>(p mv (p (bB rfl rfl) (au ((cg _ _ (cd rfl (fun b0=> ?_) (fun b0=> ?_))))))))
 obtain ⟨ek,dL,bo⟩:=sU (F:=F) hsm hrw b0
 refine U (fun _ aT=>(p mv (p (aJ nm rfl rfl (by rw [hrw]; simp only [List.length_cons]; omega) (aw.ok (hCr0.wk hE45) (iD (by simp)))) (p (fa qt rfl) (p (ld bT rfl (iF (i:=0) (hCr0.wk hE45) rfl 0 (by decide))) (p mv (e (cl mA (mE (q1:Nat) (hY am).2 w45) rfl fun eC w55 dm=> ?_))))))))
 obtain ⟨rfl,a9⟩:=dm
 have hz55:=a9.size
 refine p ak (e (bY fU rfl rfl rfl rfl (Wk.B (hE45.trans a9) hb5x) (by simp) fun eJ c5 cH=>au ((aT _ _ (rt (tr (dP rfl dF (c9 (cs:= [.int .i64 2,ae q1,.int .i64 (hY am).2]) rfl jd rfl (fun j aa=>cH.c8 j)) ?_)))))))
 have h:=iX.no bo ((hE31x.trans (hE45.trans a9)).trans' c5 (fun q hq h=>by omega))
 show iX F t w (.tuple #[.pointer none,.agg [.int .i64 2,ae q1,.int .i64 (hY am).2].toArray]) _
 rw [dL]
 exact h
 obtain ⟨n,hn0,es,bo⟩:=yo (F:=F) hsm hrw (show (hY am).2=0 by omega)
 have hFB:=bL.wk (hE31x.trans hE45)
 obtain ⟨seen,bI⟩:=cZ
 have hbl:=bI.len
 refine az (tn (ce _ _ (U (fun _ aT=>(e (oK fun I w56 en bk cQ=> ?_))))))
 have hz56:=bk.size
 refine p (bZ (ps:= [(1,.map (some I))]) (L:= [.slice none 0 0,.map (some I)]) Lr rfl (rfl)) (e (od rfl fun A w58 eo aL cS=> ?_))
 have hz58:=aL.size
 have hE58:=hE45.trans (bk.md.trans aL.md)
 refine aj (((aT _ _ (U (fun _ ch=>(ag (aH fb) (e (cl D2 (CG B fb mc F V w58 (hFB.wk (bk.md.trans aL.md)) (by omega) hnx) rfl fun eD w60 dn=> ?_))))))))
 obtain ⟨⟨eb,rfl,_⟩,hE60⟩:=dn
 have hz60:=hE60.size
 refine p (GU He wa rfl rfl) (e (al MC fun a0 w12 hb12 aF hB12=> ?_))
 have hz12:=aF.size
 refine e (bY FN rfl rfl rfl rfl (hB12) (by simp) fun wt13_4 aB cI=> ?_)
 have c2:Wk w31 wt13_4:=(hE58.trans (hE60.trans aF.md)).trans' aB (fun q hq h=>by omega)
 have hz13:=aB.size
 have dC:wt13_4.heap[A]? =some (.cells [.slice none 0 0,.map (some I)].toArray 108 (0,0)):=aB.aA (Wk.aA (hE60.trans aF.md) cS) (fun h=>by omega)
 have dO:bP wt13_4.heap I fM (fun _=>none):=bP.md (bP.wk (bP.nil cQ) (aL.md.trans (hE60.trans aF.md))) aB (fun h=>by omega)
 have dv:iW wt13_4 wt13_4.heap.size A I (.slice none 0 0) [] []:=⟨dC,World.ownsRow_nil _ _ _ _,c4.nil _ _ _,⟨_,dO,⟨fun s=>World.ownsRow_nil _ _ _ _,fun s _=>rfl⟩⟩⟩
 have dz:bG wt13_4.heap a0 [aO (F.sp.getD 0 0),aO (F.sp.getD 1 0),aO (F.sp.getD 2 0),aO (F.sp.getD 3 0),aO (F.sp.getD 4 0)]:=cI
 have bJ:aw w31.heap (ee bv ax 1 2) (gN rvs'):=by
  have h:=hCr0.drop (cap:=ax) (k:=1) (size:=2) (by rw [A9]; simp only [List.length_cons]; omega)
  exact h
 have dy:fk F ((a7 t).length+1) (eO F t) [] (n - 0) (rest.drop 0):=by rw [bo]; exact fk.start
 refine au ((ch _ _ (sq (fun _ ci=>U (fun _ ck=>(p mv (p (oZ nm rfl rfl (by rw [hrw]; simp only [List.length_cons]; omega)) (p (ba rF rfl rfl) ?_))))))))
 refine p mv (au ((ck _ _ (aA (lp (fun bC M wI=> ∃ (i:Nat) (xs:List cR) (vs:List Value) (ab:Value),(i≤rest.length∧i≤n)∧(xs.length=i)∧(fk F ((a7 t).length+1) (eO F t) xs (n - i) (rest.drop i))∧(iW wI wt13_4.heap.size A I ab vs xs)∧(Wk w31 wI)∧(bG wI.heap a0 [aO (F.sp.getD 0 0),aO (F.sp.getD 1 0),aO (F.sp.getD 2 0),aO (F.sp.getD 3 0),aO (F.sp.getD 4 0)])∧(wt13_4.heap.size≤wI.heap.size)∧(M 0=aH fb)∧(M 5=aH a2)∧(M 6= .slice ca (a7 t).length bx)∧(M 10=ae n)∧(M 11=aH A)∧(M 12=aH a0)∧(M 63= .slice (ee bv ax 1 2) rest.length (ax - 1))∧(M 64=ae (rest.length))∧(M 65=ae i)∧(rest.length - i=bC)) _ ⟨0,[],[],.slice none 0 0,(by omega),rfl,dy,dv,c2,dz,(Nat.le_refl _),rfl,rfl,rfl,(by first | rfl | (rw [← hn0]; rfl)),rfl,rfl,(by first | rfl | (rw [hrw]; rfl)),(by first | rfl | (rw [hrw]; rfl)),rfl,rfl⟩ ?_)))))
 rintro bC M wI ⟨i,xs,vs,ab,hi,hxl,O,ao,G,bU,eu,dX,d1,d2,dY,dZ,d0,d3,d4,d5,rfl⟩
 refine fx 0 dX (fx 5 d1 (fx 6 d2 (fx 10 dY (fx 11 dZ (fx 12 d0 (fx 63 d3 (fx 64 d4 (fx 65 d5 (U (fun _ cm=>(p (lt rfl rfl) (au ((cm _ _ (sq (fun _ cn=>cd rfl (fun dE=> ?_) (fun dE=> ?_)))))))))))))))))
 refine az (tn (cn _ _ (sq (fun _ aV=>aA (sq (fun _ aW=> ?_))))))
 obtain ⟨⟨ln,r⟩,hri⟩:∃ q,rest[i]? =some q:=⟨_,List.getElem?_eq_getElem (by omega)⟩
 have dK:rest.drop i=(ln,r)::rest.drop (i+1):=by rw [List.drop_eq_getElem_cons (by omega)]; rw [List.getElem?_eq_getElem (by omega)] at hri; rw [Option.some.inj hri]
 obtain ⟨p,b9⟩:∃ p,rvs'[i]? =some p:=⟨_,List.getElem?_eq_getElem (by omega)⟩
 obtain ⟨cC,bR⟩:=aP.2 (i+1) p (ln,r) b9 hri
 obtain ⟨ln0x,ev⟩:=p
 obtain rfl :ln=ln0x:=cC.symm
 obtain ⟨a,c,rfl⟩:=bR.slice
 have hmr:=b3 (ln,r) (List.mem_cons_of_mem _ (List.mem_of_getElem? hri))
 rw [dK] at O
 refine rg rfl (ag (ae i) (p (aJ nm rfl rfl (by omega) (aw.ok (bJ.wk G) (iD (by omega)))) (p (dB pC rfl (rfl) (iF (bJ.wk G) b9)) (e (al Ce fun bw w14 hb14 bj cJ=> ?_)))))
 have hz14:=bj.size
 refine p (bF (ae i) rfl) (e (bY x4 rfl rfl rfl rfl (cJ) (by simp) fun wt16_5 bi cK=> ?_))
 have ay:Wk w31 wt16_5:=(G.trans bj.md).trans' bi (fun q hq h=>by omega)
 have bK:Wk wI wt16_5:=bj.md.trans' bi (fun q hq h=>by omega)
 have hb14:bG wt16_5.heap bw [ae ln,.slice a r.length c]:=cK
 have hz16:=bi.size
 refine au ((aW _ _ (sq (fun _ aq=>U (fun _ cp=>(ag (ae i) (ag (ae n) (p (bf rfl rfl) ?_))))))))
 refine au ((cp _ _ (cd rfl (fun dI=> ?_) (fun dI=> ?_))))
 refine U (fun _ aX=>(p (fa qt rfl) (p (ld bT rfl ((hb14.aE 0).trans rfl)) (e (cl mA (mE (ln:Nat) 116 wt16_5) rfl fun eE eH dp=> ?_)))))
 obtain ⟨rfl,bb⟩:=dp
 have hz75:=bb.size
 refine p ak (e (bY fU rfl rfl rfl rfl (Wk.B (ay.trans bb) hb5x) (by simp) fun eK c6 cL=>au ((aX _ _ (rt (tr (br (tr ?_))))))))
 refine tr (br (tr (dP rfl dF (c9 (cs:= [.int .i64 2,ae ln,.int .i64 116]) rfl jd rfl (fun j aa=>cL.c8 j)) ?_)))
 rw [show n - i=0 by omega] at O
 exact iX.no O.more ((hE31x.trans (ay.trans bb)).trans' c6 (fun q hq h=>by omega))
 refine az (tn (aq _ _ (U (fun _ aX=>(ag (aH fb) (p (dB wa rfl (rfl) (fun j aa=>(Wk.B bK bU).c8 j)) (p (dB pC rfl (rfl) (fun j aa=>hb14.c8 j)) (e (cl D3 (FZ B fb mc F V ln r bu.heap.size a c wt16_5 (bL.wk (hE31x.trans ay)) ⟨seen,bI⟩ (bR.wk ay) hmr.2 hmr.1) rfl fun d8 d9 dq=> ?_)))))))))
 obtain ⟨c3,bd⟩:=dq
 obtain ⟨ea,ar,bA,rfl,b8,b2⟩:∃ (u:Tx) (a:Value) (e:Nat),d8= .tuple #[.agg [str u,a].toArray,ae e]∧a.oneCell'=true∧((e=0∧∃ l,et F r= .ok (u,l)∧World.ownsRow d9 wt16_5.heap.size 71 1 a l.length (l.map aO))∨(e≠0∧et F r= .error e)):=by
  rcases c3 with ⟨x,a,h1,h2,h3⟩ | ⟨e,h1,h2,h3⟩
  exact ⟨x.1,a,0,h2,dU h3,.inl ⟨rfl,x.2,h1,h3⟩⟩
  exact ⟨_,_,e,h3,rfl,.inr ⟨h2,h1⟩⟩
 have hz80:=bd.size
 refine p mv (p (xt rfl rfl) (p (xt rfl rfl) (e (fT Ch fun a1 w15 em aK bD=> ?_))))
 have hz15:=aK.size
 refine e (gj ku rfl rfl rfl (rC b8) bD (by decide) fun w19 aD cM=> ?_)
 have an:Wk wI w19:=(bK.trans (bd.trans aK.md)).trans' aD (fun q hq h=>by omega)
 have bV:w19.heap[a1]? =some (.cells [str ea,ar].toArray 56 (0,0)):=cM
 have hz19:=aD.size
 have dA:bG w19.heap bw [ae ln,.slice a r.length c]:=aD.B (Wk.B (bd.trans aK.md) hb14) (fun h=>by omega)
 refine aj (((aX _ _ (sq (fun _ cq=>U (fun _ cr=>(p mv (p (bB rfl rfl) ?_))))))))
 refine au ((cr _ _ (cd rfl (fun dJ=> ?_) (fun dJ=> ?_))))
 obtain ⟨hne,hex⟩:=b2.resolve_left (fun h=>by omega)
 refine U (fun _ aY=>(p (fa qt rfl) (p (ld bT rfl ((dA.aE 0).trans rfl)) (p mv (e (cl mA (mE (ln:Nat) (bA:Nat) w19) rfl fun eF eI dr=> ?_))))))
 obtain ⟨rfl,bg⟩:=dr
 have hz88:=bg.size
 refine p ak (e (bY fU rfl rfl rfl rfl (Wk.B (G.trans (an.trans bg)) hb5x) (by simp) fun eL c7 cN=>au ((aY _ _ (rt (tr (br (tr ?_))))))))
 exact tr (br (tr (dP rfl dF (c9 (cs:= [.int .i64 2,ae ln,ae bA]) rfl jd rfl (fun j aa=>cN.c8 j)) (iX.no (O.bad (by omega) hex) ((hE31x.trans (G.trans (an.trans bg))).trans' c7 (fun q hq h=>by omega))))))
 obtain ⟨_,ai,hex,dT⟩:=b2.resolve_right (fun h=>by omega)
 have hW19:=ao.wk an
 have dR:¬(ab.ownBlock=some A):=cw hW19.own hW19.cells (by decide)
 have dQ:¬(ab.ownBlock=some a1):=fun h=>by have :=(cG ao.own h).2; omega
 have hzw:=an.size
 refine az (tn (cq _ _ (sq (fun _ aY=> ?_))))
 have ah:(fun w'=>Md (fun q=>ab.ownBlock=some q) w19 w') w19.drew:=(Md.refl _ _).drew
 refine dH (fun w'=>Md (fun q=>ab.ownBlock=some q) w19 w') 10 rfl wide ah (a4 0 rfl (aH A) ah (a4 1 rfl (aH A) ah (a6 2 rfl (fun _=>nc rfl) (fun _=>ah) (a6 3 rfl (fun _=>fa oA rfl) (fun _=>ah) (cT 4 rfl (fun w' E=>ld pE rfl (Md.aE E ((aQ hW19.cells).trans rfl) dR)) ah (cT 5 rfl (fun w' E=>dB kq rfl (rfl) (fun j aa=>bG.c8 ⟨_,Md.aA E bV dQ⟩ j)) ah (fE 6 rfl (by kernel_rfl) (im rk rfl rfl rfl fun ei w95 ep de cY=> ?_))))))))
 have hE95:=ff de.md
 have hW95:=hW19.wk hE95
 have hz95:=hE95.size
 have bO:(fun w'=>Md (fun q=>ab.ownBlock=some q) w19 w') w95:=Md.mono hE95 (fun _ _ h=>h.elim)
 refine ⟨bO,?_⟩
 refine fE 7 rfl (by kernel_rfl) (ap rk (hW95.own) rfl (by omega) rfl (aw.cU cY) (rfl) (rC b8) (by omega) (by omega) fun av w96 b6 J hz96 er=> ?_)
 obtain ⟨f,hf,dN⟩:=hW95.mp
 have hc96:=J.aA hW95.cells (cw hW95.own hW95.cells (by decide))
 have b7:World.ownsRow w96 wt13_4.heap.size 56 2 av (xs++ [(ea,ai)]).length (ej ((xs++ [(ea,ai)]).zip (vs++ [ar]))):=by
  have hl:xs.length=vs.length:=by have :=hW95.fl.1; rw [List.length_map] at this; omega
  rw [List.zip_append hl,List.zip_cons_cons,List.zip_nil_right,yA,List.length_append]; exact b6
 have hz96:=J.size
 have hb12q:=J.B (Wk.B (an.trans hE95) bU) (fun h=>by have :=(cG hW95.own h).1; omega)
 have hb15q:=J.aA (Wk.aA hE95 bV) (fun h=>by have :=(cG ao.own h).2; omega)
 have hE96:Wk w31 w96:=(G.trans (an.trans hE95)).trans' J (fun q hq h=>by have :=(cG hW95.own h).1; omega)
 have bl:(fun w'=>Md (fun q=>ab.ownBlock=some q) w19 w') w96:=bO.trans' J (fun _ _ h=>h)
 refine ⟨bl,?_⟩
 refine a6 8 rfl (fun _=>nc rfl) (fun _=>bl) (a6 9 rfl (fun _=>fa oA rfl) (fun _=>bl) (cE 10 rfl (by kernel_rfl) (by kernel_rfl) (cj FM rfl rfl (v:=av) (dU b6) hc96 (by show _ < 2; omega) fun w10 Y hB10=> ?_)))
 have hc10:w10.heap[A]? =some (.cells [av,.map (some I)].toArray 108 (0,0)):=hB10
 have hz10:=Y.size
 have c1:Wk w31 w10:=hE96.trans' Y (fun q hq h=>by omega)
 have hb12r:=Y.B hb12q (fun h=>by omega)
 have hb15r:=Y.aA hb15q (fun h=>by omega)
 have ho10x:=bS b7 Y (fun q hq h=>cw b7 hc96 (by decide) (h ▸ hq))
 have dt:Tg w10 wt13_4.heap.size 71 ai.length ar (ai.map aO):=((((((Tg.fY dT).mono (by omega)).wk aK.md).md aD (dM bD (by decide))).wk hE95).md J (eT hW95.own (by decide))).md Y (dM hc96 (by decide))
 have hfl10:=(((hW95.fl.md J (eT hW95.own (by decide))).md Y (dM hc96 (by decide))).snoc dt)
 have hf10:=(hf.md J (fun h=>mP hW95.own h (fun cur z=>hf.lj))).md Y (fun h=>by omega)
 have hfm10:=(dN.md J (eT hW95.own (by decide))).md Y (dM hc96 (by decide))
 have bt:¬(((f (str ea)).getD (Value.slice none 0 0)).ownBlock=some A):=cw (hfm10.own ea) hc10 (by decide)
 have b4:¬(((f (str ea)).getD (Value.slice none 0 0)).ownBlock=some a1):=cw (hfm10.own ea) hb15r (by decide)
 have b5:¬(((f (str ea)).getD (Value.slice none 0 0)).ownBlock=some I):=fun h=>mP (hfm10.own ea) h (fun cur z=>hf10.lj)
 refine dG (by kernel_rfl) ?_
 refine tn (aY _ _ ?_)
 have C:(fun w'=>Md (fun q=>((f (str ea)).getD (Value.slice none 0 0)).ownBlock=some q) w10 w') w10.drew:=(Md.refl _ _).drew
 refine dH (fun w'=>Md (fun q=>((f (str ea)).getD (Value.slice none 0 0)).ownBlock=some q) w10 w') 16 rfl wide C (lq 0 rfl (by kernel_rfl) (fun _ _=>aC (aH A) rfl) C (lq 1 rfl (by kernel_rfl) (fun _ _=>nc rfl) C (lq 2 rfl (by kernel_rfl) (fun _ _=>fa tv rfl) C (lq 3 rfl (by kernel_rfl) (fun w' E=>ld rU rfl (Md.aE E ((aQ hc10).trans rfl) bt)) C (lq 4 rfl (by kernel_rfl) (fun _ _=>fa nu rfl) C (lq 5 rfl (by kernel_rfl) (fun w' E=>ld bz rfl (Md.aE E ((aQ hb15r).trans rfl) b4)) C (lq 6 rfl (by kernel_rfl) (fun _ _=>aC (aH A) rfl) C ?_)))))))
 refine lq 7 rfl (by kernel_rfl) (fun _ _=>nc rfl) C (lq 8 rfl (by kernel_rfl) (fun _ _=>fa tv rfl) C (lq 9 rfl (by kernel_rfl) (fun w' E=>ld rU rfl (Md.aE E ((aQ hc10).trans rfl) bt)) C (lq 10 rfl (by kernel_rfl) (fun _ _=>fa nu rfl) C (lq 11 rfl (by kernel_rfl) (fun w' E=>ld bz rfl (Md.aE E ((aQ hb15r).trans rfl) b4)) C (lq 12 rfl (by kernel_rfl) (fun w' E=>j7 vl Ck fw (bP.md (hf10) E b5) rfl rfl (⟨_,rfl⟩) (rfl)) C (lq 13 rfl (by kernel_rfl) (fun _ _=>aC (ae i) rfl) C (fE 14 rfl (by kernel_rfl) (ec jM rfl rfl fun eh w113 el dd cF=> ?_))))))))
 have hE113:=ff dd.md
 have hfm113:=hfm10.md hE113 (fun _ hk=>hk.elim)
 have hz113:=hE113.size
 have bQ:(fun w'=>Md (fun q=>((f (str ea)).getD (Value.slice none 0 0)).ownBlock=some q) w10 w') w113:=Md.mono hE113 (fun _ _ h=>h.elim)
 refine ⟨bQ,?_⟩
 refine fE 15 rfl (by kernel_rfl) (ap jM (hfm113.own ea) rfl (by omega) rfl (aw.cU cF) (rfl) (rfl) (by have :=mJ ea xs; omega) (by have :=mJ ea xs; omega) fun d7 w114 dS Z hz114 hf114=> ?_)
 have hz114:=Z.size
 have hf114:=(hf10.wk hE113).md Z b5
 have dV:World.ownsRow w114 wt13_4.heap.size 3 1 d7 (idxs ea xs++ [xs.length]).length ((idxs ea xs++ [xs.length]).map bq):=by
  rw [List.length_append,List.map_append,hxl]; exact dS
 have ds:(fun w'=>Md (fun q=>((f (str ea)).getD (Value.slice none 0 0)).ownBlock=some q) w10 w') w114:=bQ.trans' Z (fun _ _ h=>h)
 refine ⟨ds,?_⟩
 refine cE 16 rfl (by kernel_rfl) (by kernel_rfl) (nQ vl fw (hf114) rfl rfl rfl (⟨_,rfl⟩) fun wm23_16 ac df=> ?_)
 have hput:=kn.put (x:=(ea,ai)) hfm113 Z dV (fun cur z=>hf114.lj) ac
 have hc23:=ac.aA (Z.aA (Wk.aA hE113 hc10) bt) (fun h=>by omega)
 have ho114y:=bS (aG ho10x hE113) Z (fun q hq=>gV (aG ho10x hE113) (hfm113.own ea) (by decide) hq)
 have ho23:=bS ho114y ac (fun q hq h=>mP ho114y hq (fun cur z=>h ▸ hf114.lj))
 have hfl23:=((hfl10.wk hE113).md Z (eT (hfm113.own ea) (by decide))).md ac (fun k hk cur z h=>hf114.lj (hk ▸ h))
 have dw:iW wm23_16 wt13_4.heap.size A I av (vs++ [ar]) (xs++ [(ea,ai)]):=⟨hc23,ho23,by rw [List.map_append]; exact hfl23,⟨_,df,hput⟩⟩
 have hE23:Wk w31 wm23_16:=((c1.trans hE113).trans' Z (fun q hq h=>by have :=(cG (hfm113.own ea) h).1; omega)).trans' ac (fun q hq h=>by omega)
 have hb12s:=ac.B (Z.B (Wk.B hE113 hb12r) (fun h=>by have :=(cG (hfm113.own ea) h).1; omega)) (fun h=>by omega)
 have hz23:=ac.size
 refine dG (by kernel_rfl) ?_
 exact bn (tn (aV _ _ (rg rfl (p (ad rfl rfl (bm (by omega))) (p mv (au ((⟨_,by omega,i+1,xs++ [(ea,ai)],vs++ [ar],av,(by omega),((by rw [List.length_append,hxl]; rfl)),((by rw [show n - (i+1)=n - i - 1 by omega]; exact O.step (by omega) hex)),dw,hE23,hb12s,((by omega)),rfl,rfl,rfl,(by first | rfl | (rw [← hn0]; rfl)),rfl,rfl,(by first | rfl | (rw [hrw]; rfl)),(by first | rfl | (rw [hrw]; rfl)),rfl,rfl⟩))))))))
 refine ext (te _ (te _ (be (tn (ci _ _ (sq (fun _ aV=>sq (fun _ aW=> ?_))))))))
 obtain ⟨eg,cv,rfl⟩:=bW ao.own
 refine rg rfl (ag (aH A) (p (nc rfl) (p (fa oA rfl) (p (ld pE rfl ((aQ ao.cells).trans rfl)) (p (ba kb rfl rfl) (ag (ae n) (p (lt rfl rfl) ?_)))))))
 refine au ((aW _ _ (cd rfl (fun dD=> ?_) (fun dD=> ?_))))
 refine U (fun _ aq=>(ag (.slice ca (a7 t).length bx) (p (ba dx rfl rfl) (p (bc (((a7 t).length+1:Nat):Int) rfl rfl (aR (by omega) (by omega))) (e (cl mA (mE ((a7 t).length+1:Nat) 116 wI) rfl fun ew eG dg=> ?_))))))
 obtain ⟨rfl,a3⟩:=dg
 have hz126:=a3.size
 refine p ak (e (bY fU rfl rfl rfl rfl (Wk.B (G.trans a3) hb5x) (by simp) fun eM da cO=>au ((aq _ _ (rt (tr (dP rfl dF (c9 (cs:= [.int .i64 2,ae ((a7 t).length+1),.int .i64 116]) rfl jd rfl (fun j aa=>cO.c8 j)) ?_)))))))
 rw [List.drop_eq_nil_of_le (by omega)] at O
 exact iX.no (O.ends (by omega)) ((hE31x.trans (G.trans a3)).trans' da (fun q hq h=>by omega))
 refine az (tn (aV _ _ (U (fun _ aq=>(ag (aH A) (p (bZ (ps:= []) (L:= [.int .i64 0,.int .i64 0,.int .i64 0]) nL rfl (rfl)) (p (bF (aH A) rfl) (e (bY fU rfl rfl rfl rfl (Wk.B G hb5x) (by simp) fun eN bM cP=> ?_)))))))))
 refine au ((aq _ _ (rt (dP rfl dF (c9 (cs:= [.int .i64 0,.int .i64 0,.int .i64 0]) rfl jd rfl (fun j aa=>cP.c8 j)) ?_))))
 rw [List.drop_eq_nil_of_le (by omega),show n - i=0 by omega] at O
 have hX:=O.done
 have du:TF wI [27] (fun q=>q=a2):=TF.eq (cV (Wk.aA (hE22.trans (hE31.trans G)) bH)) (by decide)
 unfold iX
 rw [hX]
 exact ⟨⟨wt13_4.heap.size,A,I,_,vs,by omega,rfl,ao.md bM du (by decide) (fun h=>by omega),by omega,by omega⟩,(hE31x.trans G).trans' bM (fun q hq h=>by omega)⟩
end Go.Hb.ml
end
section
set_option maxRecDepth 20000
set_option maxHeartbeats 1000000
namespace Go.Hb.mZ
open Go.Hb.di
open Go.Proofs
open Go.Hb.eX Go.Hb.fH Go.Hb.fP Go.Hb.kf Go.Hb.gY Go.Hb.g4 Go.Hb.kh Go.Hb.lI Go.Hb.ml
theorem Mv {α:Type} {f:α×Value→List Value} {m c i:Nat} (hf:∀ q,(f q).length=m) (hc:c < m) (hs:∀ a u v,(f (a,u)).set c v=f (a,v)) {rs:List α} {vs:List Value} {v:Value} (hi:i < rs.length) (hv:i < vs.length):((rs.zip vs).flatMap f).set (i*m+c) v=(rs.zip (vs.set i v)).flatMap f:=by
 obtain ⟨r,hr⟩:∃ r,rs[i]? =some r:=⟨_,List.getElem?_eq_getElem hi⟩
 obtain ⟨u,hu⟩:∃ u,vs[i]? =some u:=⟨_,List.getElem?_eq_getElem hv⟩
 have hz:(rs.zip vs)[i]? =some (r,u):=List.getElem?_zip_eq_some.2 ⟨hr,hu⟩
 have hz2:rs.zip (vs.set i v)=(rs.zip vs).set i (r,v):=by
  apply List.ext_getElem?
  intro j
  rw [List.getElem?_set]
  by_cases p:i=j
  · subst p
    rw [if_pos rfl,if_pos (List.getElem?_eq_some_iff.1 hz).1]
    exact List.getElem?_zip_eq_some.2 ⟨hr,by simp [hv]⟩
  · rw [if_neg p]
    cases h1:(rs.zip vs)[j]? with
    | none=>
      rw [List.getElem?_eq_none_iff,List.length_zip] at h1 ⊢
      rw [List.length_set]; exact h1
    | some q=>
      have h2:=List.getElem?_zip_eq_some.1 h1
      exact List.getElem?_zip_eq_some.2 ⟨h2.1,by rw [List.getElem?_set,if_neg p]; exact h2.2⟩
 have hl:(rs.zip vs).length=min rs.length vs.length:=List.length_zip
 have hcl:((rs.zip vs).flatMap f).length=(rs.zip vs).length*m:=kD hf _
 have hle:i*m+m≤(rs.zip vs).length*m:=by rw [← Nat.succ_mul]; exact Nat.mul_le_mul_right _ (by omega)
 rw [hz2,tk hf _ (by omega)]
 apply List.ext_getElem?
 intro j
 have hg:=fun c hc=>qq hf (c:=c) hz hc
 have htl:(((rs.zip vs).flatMap f).take (i*m)).length=i*m:=by rw [List.length_take,hcl]; omega
 rw [List.getElem?_set]
 by_cases h1:j < i*m
 · rw [if_neg (by omega),List.append_assoc,List.getElem?_append_left (by omega),List.getElem?_take,if_pos h1]
 · rw [List.append_assoc,List.getElem?_append_right (by omega),htl]
   by_cases h2:j < i*m+m
   · rw [List.getElem?_append_left (by rw [hf]; omega)]
     obtain ⟨d,rfl⟩:∃ d,j=i*m+d:=⟨j - i*m,by omega⟩
     rw [hg d (by omega),show i*m+d - i*m=d by omega,← hs r u v,List.getElem?_set]
     by_cases h3:c=d
     · subst h3; rw [if_pos rfl,if_pos rfl,if_pos (by rw [hcl]; omega),if_pos (by rw [hf]; exact hc)]
     · rw [if_neg (by omega),if_neg h3]
   · rw [if_neg (by omega),List.getElem?_append_right (by rw [hf]; omega),hf,List.getElem?_drop]
     congr 1; omega
theorem Gh {xs:List cR} {vs:List Value} {i:Nat} {v:Value} (hi:i < xs.length) (hv:i < vs.length):(ej (xs.zip vs)).set (i*2 +1) v=ej (xs.zip (vs.set i v)):=Mv (f:=fW) (m:=2) (c:=1) (fun _=>rfl) (by decide) (fun _ _ _=>rfl) hi hv
theorem g7 {l:List (cR×Value)} {i:Nat} {q:cR×Value} (h:l[i]? =some q):ej l≠[]:=fun h2=>by
 have h3:=yB l
 have h4:=(List.getElem?_eq_some_iff.1 h).1
 rw [h2] at h3
 have h5:0=l.length*2:=h3
 omega
theorem CN (l:List Nat):(l.map bq).all Value.oneCell'=true :=by
 rw [List.all_eq_true]; intro v hv; obtain ⟨x,_,rfl⟩:=List.mem_map.1 hv; rfl
theorem Gg {w:World} {B e:Nat} {xs:List cR} {vs:List Value} {ls:List (List Nat)} (h:c4 w B e vs ls):(ej (xs.zip vs)).all Value.oneCell'=true :=by
 rw [List.all_eq_true]
 intro v hv
 obtain ⟨q,hq,hv⟩:=List.mem_flatMap.1 hv
 have h1:=List.all_eq_true.1 (r3 h) q.2 (List.of_mem_zip hq).2
 simp only [fW,List.mem_cons,List.not_mem_nil,or_false] at hv
 rcases hv with rfl | rfl
 · rfl
 · exact h1
def jQ (w:World) (B:Nat) (vs:List Value) (ls:List (List Nat)):Prop :=vs.length=ls.length∧∀ (i:Nat) v l,vs[i]? =some v→ls[i]? =some l→World.ownsRow w B 71 1 v l.length (l.map aO)
theorem jQ.t {w:World} {B:Nat} {vs:List Value} {ls:List (List Nat)} (h:jQ w B vs ls):c4 w B 71 vs ls:=⟨h.1,fun i v l h1 h2=>Tg.fY (h.2 i v l h1 h2)⟩
theorem wo {G:Nat→Prop} {w w':World} {B:Nat} {vs:List Value} {ls:List (List Nat)} (h:jQ w B vs ls) (hm:Md G w w') (a:∀ k,G k→∀ cur z,w.heap[k]?≠some (.cells cur 71 z)):jQ w' B vs ls:=⟨h.1,fun i v l h1 h2=>bS (h.2 i v l h1 h2) hm (fun k hk hg=>mP (h.2 i v l h1 h2) hk (a k hg))⟩
theorem CP (w:World) (B:Nat):jQ w B [] []:=⟨rfl,fun i v l hv=>by simp at hv⟩
theorem CO {w:World} {B i:Nat} {vs:List Value} {ls:List (List Nat)} {v:Value} (h:jQ w B (vs.take i) (ls.take i)) (hi:i < ls.length) (hv:i < vs.length) (q:World.ownsRow w B 71 1 v (ls.getD i []).length ((ls.getD i []).map aO)):jQ w B ((vs.set i v).take (i+1)) (ls.take (i+1)):=by
 refine ⟨by simp; have :=h.1; simp at this; omega,fun j u l h1 h2=> ?_⟩
 rw [List.getElem?_take] at h1 h2
 by_cases a:j < i+1
 · rw [if_pos a] at h1 h2
   rw [List.getElem?_set] at h1
   by_cases p:i=j
   · subst p
     rw [if_pos rfl,if_pos hv] at h1
     cases h1
     rw [show ls.getD i []=l by rw [List.getD_eq_getElem?_getD,h2]; rfl] at q
     exact q
   · rw [if_neg p] at h1
     exact h.2 j u l (by rw [List.getElem?_take,if_pos (by omega)]; exact h1) (by rw [List.getElem?_take,if_pos (by omega)]; exact h2)
 · rw [if_neg a] at h1; cases h1
theorem sX (w:World):
 aU Tryz.prog 17 (List.toArray [.pointer none]) w (fun v w'=>v=ae 0∧Wk w w'):=by
 refine enter Tryz.func17 rfl Tryz.ntmps17 rfl ?_
 refine U (fun _ a=>(aj (((a _ _ (sq (fun _ q=>U (fun _ i=> ?_))))))))
 refine ag (.pointer none) (p (g8 lz rfl rfl) (au ((i _ _ (ct (rfl) (U (fun _ j=>(p ak ?_))))))))
 exact au ((j _ _ (rt (tr (f1 rfl rfl (⟨rfl,Md.refl _ _⟩))))))
theorem Ga (B i E:Nat) (G:Value) (vs:List Value) (xs:List cR) (w:World) (j:iW w B i E G vs xs) (I:xs.length≤70000):
 aU Tryz.prog 17 (List.toArray [aH i]) w (fun v w'=>v=ae (xs.length)∧Wk w w'):=by
 obtain ⟨a,c,rfl⟩:=bW j.own
 refine enter Tryz.func17 rfl Tryz.ntmps17 rfl ?_
 refine U (fun _ q=>(aj (((q _ _ (sq (fun _ s=>U (fun _ A=> ?_))))))))
 refine ag (aH i) (p (g8 lz rfl rfl) (au ((A _ _ (cf (rfl) (az (tn (s _ _ (sq (fun _ C=> ?_))))))))))
 refine rg rfl (ag (aH i) (p (nc rfl) (p (fa oA rfl) (p (ld pE rfl ((aQ j.cells).trans rfl)) (p (ba kb rfl rfl) (p ak (nl ?_)))))))
 exact tn (C _ _ (rt (f1 rfl rfl (⟨rfl,Md.refl _ _⟩))))
theorem sT (s:Tx) (w:World):
 aU Tryz.prog 25 (List.toArray [.pointer none,str s]) w (fun v w'=>v= .slice none 0 0∧Wk w w'):=by
 refine enter Tryz.func25 rfl Tryz.ntmps25 rfl ?_
 refine U (fun _ a=>(aj (((a _ _ (sq (fun _ q=>U (fun _ i=> ?_))))))))
 refine ag (.pointer none) (p (g8 lz rfl rfl) (au ((i _ _ (ct (rfl) (U (fun _ j=>(p ak ?_))))))))
 exact au ((j _ _ (rt (tr (f1 rfl rfl (⟨rfl,Md.refl _ _⟩))))))
theorem yn (B a G:Nat) (I:Value) (vs:List Value) (xs:List cR) (w:World) (i:iW w B a G I vs xs) (J:xs.length≤70000) (s:Tx):
 aU Tryz.prog 25 (List.toArray [aH a,str s]) w (fun v w'=>World.ownsRow w' w.heap.size 3 1 v (idxs s xs).length ((idxs s xs).map bq)∧Wk w w'):=by
 obtain ⟨f,hf,E⟩:=i.mp
 refine enter Tryz.func25 rfl Tryz.ntmps25 rfl ?_
 refine U (fun _ j=>(aj (((j _ _ (sq (fun _ q=>U (fun _ A=> ?_))))))))
 refine ag (aH a) (p (g8 lz rfl rfl) (au ((A _ _ (cf (rfl) (az (tn (q _ _ (sq (fun _ C=> ?_))))))))))
 refine rg rfl (ag (aH a) (p (nc rfl) (p (fa tv rfl) (p (ld rU rfl ((aQ i.cells).trans rfl)) (ag (str s) (p (j7 vl Ck fw (hf) rfl rfl (⟨_,rfl⟩) (rfl)) (e (cl xD (EP _ (idxs s xs).length ((idxs s xs).map bq) w (Rd.fY (E.own s)) (CN _) (by have :=mJ s xs; omega)) rfl fun M w13 hR13=> ?_))))))))
 exact aj (((C _ _ (rt (f1 rfl rfl (hR13))))))
theorem sS (w:World):
 aU Tryz.prog 16 (List.toArray [.pointer none]) w (fun v w'=>v= .slice none 0 0∧Wk w w'):=by
 refine enter Tryz.func16 rfl Tryz.ntmps16 rfl ?_
 refine U (fun _ a=>(aj (((a _ _ (sq (fun _ q=>U (fun _ i=> ?_))))))))
 refine ag (.pointer none) (p (g8 lz rfl rfl) (au ((i _ _ (ct (rfl) (U (fun _ j=>(p ak ?_))))))))
 exact au ((j _ _ (rt (tr (f1 rfl rfl (⟨rfl,Md.refl _ _⟩))))))
theorem qa (B E aI:Nat) (ah:Value) (vs:List Value) (xs:List cR) (w:World) (A:iW w B E aI ah vs xs) (aL:xs.length≤70000) (hl:∀ x∈xs,x.2.length≤64):
 aU Tryz.prog 16 (List.toArray [aH E]) w (fun v w'=>(∃ vs,World.ownsRow w' w.heap.size 56 2 v xs.length (ej (xs.zip vs))∧c4 w' w.heap.size 71 vs (xs.map (·.2))∧jQ w' w.heap.size vs (xs.map (·.2)))∧Wk w w'):=by
 refine enter Tryz.func16 rfl Tryz.ntmps16 rfl ?_
 refine U (fun _ ai=>(aj (((ai _ _ (sq (fun _ al=>U (fun _ am=> ?_))))))))
 refine ag (aH E) (p (g8 lz rfl rfl) (au ((am _ _ (cf (rfl) (az (tn (al _ _ (sq (fun _ an=> ?_))))))))))
 refine rg rfl (ag (aH E) (p (nc rfl) (p (fa oA rfl) (p (ld pE rfl ((aQ A.cells).trans rfl)) (e (cl D8 (EN ah xs.length (ej (xs.zip vs)) w (Rd.fY A.own) (Gg A.fl) (by omega)) rfl fun v11 w11 hR11=> ?_))))))
 obtain ⟨ho11,av⟩:=hR11
 obtain ⟨s,gn,rfl⟩:=bW ho11
 have hsl:vs.length=xs.length:=by have :=A.fl.1; rwa [List.length_map] at this
 refine aj (((an _ _ (sq (fun _ ao=>U (fun _ ap=>(p mv (p (ba kb rfl rfl) ?_))))))))
 refine p mv (au ((ap _ _ (aA (lp (fun aa G wI=> ∃ (i:Nat) (sa:List Value),(i≤xs.length)∧(sa.length=xs.length)∧(sa.drop i=vs.drop i)∧(jQ wI w.heap.size (sa.take i) ((xs.map (·.2)).take i))∧(World.ownsRow wI w.heap.size 56 2 (.slice s xs.length gn) xs.length (ej (xs.zip sa)))∧(Wk w wI)∧(G 3= .slice s xs.length gn)∧(G 13=ae (xs.length))∧(G 14=ae i)∧(xs.length - i=aa)) _ ⟨0,vs,(by omega),hsl,rfl,(CP _ _),ho11,av,rfl,rfl,rfl,rfl⟩ ?_)))))
 rintro aa G wI ⟨i,sa,hi,aD,ac,hal,a,C,aC,ay,aB,rfl⟩
 refine fx 3 aC (fx 13 ay (fx 14 aB (U (fun _ aq=>(p (lt rfl rfl) (au ((aq _ _ (sq (fun _ ar=>cd rfl (fun hc15=> ?_) (fun hc15=> ?_)))))))))))
 refine az (tn (ar _ _ (sq (fun _ I=>aA (sq (fun _ ak=> ?_))))))
 obtain ⟨aN,aE,M⟩:=c4.get (A.wk C).fl (show i < (xs.map (·.2)).length by rw [List.length_map]; omega)
 obtain ⟨Z,ci,rfl⟩:=M.slice
 obtain ⟨x,Y⟩:∃ x,xs[i]? =some x:=⟨_,List.getElem?_eq_getElem (by omega)⟩
 have aF:(xs.map (·.2)).getD i []=x.2:=by rw [List.getD_eq_getElem?_getD,List.getElem?_map,Y]; rfl
 have hxl:=hl x (List.mem_of_getElem? Y)
 rw [← aF] at hxl
 have V:(xs.zip sa)[i]? =some (x,.slice Z ((xs.map (·.2)).getD i []).length ci):=List.getElem?_zip_eq_some.2 ⟨Y,(s0 ac).trans aE⟩
 refine rg rfl (ag (ae i) (p (bF (ae i) rfl) (au ((ak _ _ (rg rfl (ag (.slice s xs.length gn) (ag (ae i) ?_))))))))
 refine ag (.slice s xs.length gn) (ag (ae i) (p (aJ kz rfl rfl (by omega) (aw.ok ((aM a).2) (g7 V))) (p (fa nv rfl) (p (ld kW rfl (eQ (f:=fW) (m:=2) (fun _=>rfl) (aM a).2 V 1 (by decide))) (e (cl pR (pZ Z ((xs.map (·.2)).getD i []).length ci (((xs.map (·.2)).getD i []).map aO) wI M.bH.2 (by simp) (fun h=>Tg.qS M (by simp) h) (pJ _) (by omega)) rfl fun aK aP ax=> ?_))))))
 obtain ⟨O,hE24⟩:=ax
 have hz24:=hE24.size
 refine p (aJ kz rfl rfl (by omega) (aw.ok ((aM (aG a hE24)).2) (g7 V))) (p (fa nv rfl) (e (ly (j:=i*2 +1) (aG a hE24) p8 rfl rfl (dU O) (by rw [Int.toNat_natCast]; omega) (by omega) fun w7 J ab=> ?_)))
 rw [Gh (by omega) (by omega)] at ab
 have hE7:Wk w w7:=Wk.own (C.trans hE24) (aG a hE24) J (by omega)
 have ho24x:=bS (gi O (show w.heap.size≤wI.heap.size from C.size)) J (fun q hq=>gV O (aG a hE24) (by decide) hq)
 have hal7:=wo (wo hal hE24 (fun _ hk=>hk.elim)) J (eT (aG a hE24) (by decide))
 refine nl (bn (tn (I _ _ (rg rfl (p (ad rfl rfl (bm (by omega))) (p mv (nl (tn ?_))))))))
 exact ⟨_,by omega,i+1,sa.set i aK,(by omega),((by rw [List.length_set]; exact aD)),(kh.set_drop ac),(CO hal7 (by rw [List.length_map]; omega) (by omega) ho24x),ab,hE7,rfl,rfl,rfl,rfl⟩
 refine ext (te _ (te _ (be (tn (ao _ _ (U (fun _ I=>(ag (.slice s xs.length gn) ?_))))))))
 refine p (bF (.slice s xs.length gn) rfl) (au ((I _ _ (rt (f1 rfl rfl ?_)))))
 rw [List.take_of_length_le (by omega),List.take_of_length_le (by rw [List.length_map]; omega)] at hal
 exact ⟨⟨sa,a,hal.t,hal⟩,C⟩
end Go.Hb.mZ
end
section
set_option maxRecDepth 20000
set_option maxHeartbeats 1000000
namespace Go.Hb.km
open Go.Proofs
open Go.Hb.eX Go.Hb.fH Go.Hb.iV Go.Hb.fP Go.Hb.iG Go.Hb.jP Go.Hb.kQ
def jz (c:bX):List Value:= [bq c.flag,.int .i64 (c.kind:Nat),.bool c.dX,.int .i64 (c.first:Nat),.int .i64 (c.count:Nat)]
def lZ (l:List bX):List Value:=l.flatMap jz
def lf (q:eK×Value):List Value:= [.int .i64 (q.1.kind:Nat),bq q.1.flag,.bool q.1.dX,str q.1.strip,str q.1.add,str q.1.cond,q.2,.int .i64 (q.1.line:Nat)]
def jD (l:List (eK×Value)):List Value:=l.flatMap lf
def eY (w:World) (B e:Nat) (vs:List Value) (ls:List (List Nat)):Prop :=vs.length=ls.length∧∀ (i:Nat) v l,vs[i]? =some v→ls[i]? =some l→Tg w B e l.length v (l.map bq)
theorem eY.nil (w:World) (B e:Nat):eY w B e [] []:=⟨rfl,fun i v l hv=>by simp at hv⟩
theorem eY.md {F:Nat→Prop} {w w':World} {B e:Nat} {vs:List Value} {ls:List (List Nat)} (h:eY w B e vs ls) (hm:Md F w w') (hF:∀ k,F k→∀ cur z,w.heap[k]?≠some (.cells cur e z)):eY w' B e vs ls:=⟨h.1,fun i v l h1 h2=>(h.2 i v l h1 h2).md hm hF⟩
theorem eY.wk {w w':World} {B e:Nat} {vs:List Value} {ls:List (List Nat)} (h:eY w B e vs ls) (hm:Wk w w'):eY w' B e vs ls:=h.md hm fun _ hk=>hk.elim
theorem eY.snoc {w:World} {B e:Nat} {vs:List Value} {ls:List (List Nat)} {v:Value} {l:List Nat} (ha:eY w B e vs ls) (hq:Tg w B e l.length v (l.map bq)):eY w B e (vs++ [v]) (ls++ [l]):=by
 refine ⟨by rw [List.length_append,List.length_append,ha.1]; rfl,fun i a p h1 h2=> ?_⟩
 have hl:=ha.1
 by_cases hi:i < vs.length
 · rw [List.getElem?_append_left hi] at h1
   rw [List.getElem?_append_left (by omega)] at h2
   exact ha.2 i a p h1 h2
 · rw [List.getElem?_append_right (by omega)] at h1
   rw [List.getElem?_append_right (by omega),← hl] at h2
   cases hj:i - vs.length with
   | zero=>rw [hj] at h1 h2; cases h1; cases h2; exact hq
   | succ j=>rw [hj] at h1; simp at h1
theorem eY.get {w:World} {B e i:Nat} {vs:List Value} {ls:List (List Nat)} (h:eY w B e vs ls) (hi:i < ls.length):∃ v,vs[i]? =some v∧Tg w B e (ls.getD i []).length v ((ls.getD i []).map bq):=by
 have h1:i < vs.length:=by rw [h.1]; exact hi
 refine ⟨vs[i],List.getElem?_eq_getElem h1,h.2 i _ _ (List.getElem?_eq_getElem h1) ?_⟩
 rw [List.getD_eq_getElem?_getD,List.getElem?_eq_getElem hi]; rfl
structure eb where
 rb:Nat
 fb:Nat
 eof:Nat
 vr:Value
 vs:List (Nat×Value)
 rows:List Rw
structure fp where
 v9:Value
 v10:Value
 v11:Value
 cC:Value
 sa:List Value
 rn:List Value
def j0 (F:aI) (V:fp):List Value:= [.int .i64 (F.kind:Nat),str F.mC,str F.tr,bq (F.sp.getD 0 0),bq (F.sp.getD 1 0),bq (F.sp.getD 2 0),bq (F.sp.getD 3 0),bq (F.sp.getD 4 0),.int .i64 (F.least:Nat),V.v9,V.v10,V.v11,V.cC]
def zy (H:eb) (k:Nat) (vh:Value) (ln:Nat):List Value:= [.pointer (some ⟨H.fb,0,none⟩),H.vr,.int .i64 (k:Nat),.int .i64 (H.eof:Nat),vh,.int .i64 (ln:Nat)]
structure dz (w:World) (B B0 fb:Nat) (F:aI) (V:fp):Prop where
 cells:w.heap[fb]? =some (.cells (j0 F V).toArray 120 (0,0))
 o9:World.ownsRow w B 219 2 V.v9 F.bN.length (gW F.bN)
 dI:World.ownsRow w B 64 1 V.v10 F.aliases.length V.sa
 al:eY w B0 3 V.sa F.aliases
 dp:World.ownsRow w B 129 5 V.v11 F.a3.length (lZ F.a3)
 cQ:World.ownsRow w B 127 8 V.cC F.rules.length (jD (F.rules.zip V.rn))
 nx:eY w B0 3 V.rn (F.rules.map (·.next))
 lo:B≤fb
 ef:F.sp.length=5
theorem dz.md {G:Nat→Prop} {w w':World} {B B0 fb:Nat} {F:aI} {V:fp} (h:dz w B B0 fb F V) (hm:Md G w w') {L:List Nat} (hT:TF w L G) (a:(L.contains 122 || L.contains 221 || L.contains 66 || L.contains 5 || L.contains 131 || L.contains 129)=false):dz w' B B0 fb F V:=by
 simp only [Bool.or_eq_false_iff] at a
 obtain ⟨⟨⟨⟨⟨h1,h2⟩,h3⟩,h4⟩,h5⟩,h6⟩:=a
 have hfl:∀ k,G k→∀ cur z,w.heap[k]?≠some (.cells cur 3 z):=fun k hk cur z hg=>hT.no (cV hg) h4 hk
 exact ⟨hm.gw hT h.cells h1,bI h.o9 hm hT h2,bI h.dI hm hT h3,h.al.md hm hfl,bI h.dp hm hT h5,bI h.cQ hm hT h6,h.nx.md hm hfl,h.lo,h.ef⟩
theorem dz.wk {w w':World} {B B0 fb:Nat} {F:aI} {V:fp} (h:dz w B B0 fb F V) (hm:Wk w w'):dz w' B B0 fb F V:=h.md (L:= []) hm (fun _ hk=>hk.elim) rfl
structure jR (w:World) (B B0 fb:Nat) (F:aI) (V:fp):Prop where
 cells:w.heap[fb]? =some (.cells (j0 F V).toArray 120 (0,0))
 dI:World.ownsRow w B 64 1 V.v10 F.aliases.length V.sa
 al:eY w B0 3 V.sa F.aliases
theorem dz.r {w:World} {B B0 fb:Nat} {F:aI} {V:fp} (h:dz w B B0 fb F V):jR w B B0 fb F V:=⟨h.cells,h.dI,h.al⟩
theorem jR.md {G:Nat→Prop} {w w':World} {B B0 fb:Nat} {F:aI} {V:fp} (h:jR w B B0 fb F V) (hm:Md G w w') {L:List Nat} (hT:TF w L G) (a:(L.contains 122 || L.contains 66 || L.contains 5)=false):jR w' B B0 fb F V:=by
 simp only [Bool.or_eq_false_iff] at a
 obtain ⟨⟨h1,h3⟩,h4⟩:=a
 exact ⟨hm.gw hT h.cells h1,bI h.dI hm hT h3,h.al.md hm (fun k hk cur z hg=>hT.no (cV hg) h4 hk)⟩
theorem jR.wk {w w':World} {B B0 fb:Nat} {F:aI} {V:fp} (h:jR w B B0 fb F V) (hm:Wk w w'):jR w' B B0 fb F V:=h.md (L:= []) hm (fun _ hk=>hk.elim) rfl
theorem dz.put {w w':World} {B B0 fb:Nat} {F F':aI} {V:fp} (h:dz w B B0 fb F V) (hm:Md (fun k=>k=fb) w w') (hc:w'.heap[fb]? =some (.cells (j0 F' V).toArray 120 (0,0))) (h1:F'.bN=F.bN) (h2:F'.aliases=F.aliases) (h3:F'.a3=F.a3) (h4:F'.rules=F.rules) (h5:F'.sp.length=5):dz w' B B0 fb F' V:=by
 have hT:TF w [122] (fun k=>k=fb):=TF.eq (cV h.cells) (by decide)
 have hfl:∀ k,k=fb→∀ cur z,w.heap[k]?≠some (.cells cur 3 z):=dM h.cells (by decide)
 exact ⟨hc,h1 ▸ bI h.o9 hm hT (by decide),h2 ▸ bI h.dI hm hT (by decide),h2 ▸ h.al.md hm hfl,h3 ▸ bI h.dp hm hT (by decide),h4 ▸ bI h.cQ hm hT (by decide),h4 ▸ h.nx.md hm hfl,h.lo,h5⟩
theorem dz.r6 {w w1 i:World} {B B0 fb:Nat} {F:aI} {V:fp} {v:Value} {x:Tx×Tx} (h:dz w B B0 fb F V) (hm:Md (fun k=>V.v9.ownBlock=some k) w w1) (p:World.ownsRow w1 B 219 2 v (F.bN++ [x]).length (gW (F.bN++ [x]))) (a:Md (fun k=>k=fb) w1 i) (hc:i.heap[fb]? =some (.cells (j0 {F with bN:=F.bN++ [x]} {V with v9:=v}).toArray 120 (0,0))):dz i B B0 fb {F with bN:=F.bN++ [x]} {V with v9:=v} :=by
 have hT:TF w [221] (fun k=>V.v9.ownBlock=some k):=TF.own h.o9 (by decide)
 have hcl:=hm.gw hT h.cells (by decide)
 have hT2:TF w1 [122] (fun k=>k=fb):=TF.eq (cV hcl) (by decide)
 have hfl:∀ k,V.v9.ownBlock=some k→∀ cur z,w.heap[k]?≠some (.cells cur 3 z):=eT h.o9 (by decide)
 have j:∀ k,k=fb→∀ cur z,w1.heap[k]?≠some (.cells cur 3 z):=dM hcl (by decide)
 exact ⟨hc,bS p a (fun k hk hf=>cw p hcl (by decide) (hf ▸ hk)),bI (bI h.dI hm hT (by decide)) a hT2 (by decide),(h.al.md hm hfl).md a j,bI (bI h.dp hm hT (by decide)) a hT2 (by decide),bI (bI h.cQ hm hT (by decide)) a hT2 (by decide),(h.nx.md hm hfl).md a j,h.lo,h.ef⟩
theorem dz.r4 {w w1 j:World} {B B0 fb:Nat} {F:aI} {V:fp} {v:Value} {x:List Nat} {vx:Value} (h:dz w B B0 fb F V) (q:Tg w B0 3 x.length vx (x.map bq)) (hm:Md (fun k=>V.v10.ownBlock=some k) w w1) (p:World.ownsRow w1 B 64 1 v (F.aliases++ [x]).length ((V.sa++ [vx]))) (a:Md (fun k=>k=fb) w1 j) (hc:j.heap[fb]? =some (.cells (j0 {F with aliases:=F.aliases++ [x]} {V with v10:=v,sa:=V.sa++ [vx]}).toArray 120 (0,0))):dz j B B0 fb {F with aliases:=F.aliases++ [x]} {V with v10:=v,sa:=V.sa++ [vx]} :=by
 have hT:TF w [66] (fun k=>V.v10.ownBlock=some k):=TF.own h.dI (by decide)
 have hcl:=hm.gw hT h.cells (by decide)
 have hT2:TF w1 [122] (fun k=>k=fb):=TF.eq (cV hcl) (by decide)
 have hfl:∀ k,V.v10.ownBlock=some k→∀ cur z,w.heap[k]?≠some (.cells cur 3 z):=eT h.dI (by decide)
 have i:∀ k,k=fb→∀ cur z,w1.heap[k]?≠some (.cells cur 3 z):=dM hcl (by decide)
 exact ⟨hc,bI (bI h.o9 hm hT (by decide)) a hT2 (by decide),bS p a (fun k hk hf=>cw p hcl (by decide) (hf ▸ hk)),((h.al.md hm hfl).md a i).snoc ((q.md hm hfl).md a i),bI (bI h.dp hm hT (by decide)) a hT2 (by decide),bI (bI h.cQ hm hT (by decide)) a hT2 (by decide),(h.nx.md hm hfl).md a i,h.lo,h.ef⟩
theorem dz.r5 {w w1 i:World} {B B0 fb:Nat} {F:aI} {V:fp} {v:Value} {x:bX} (h:dz w B B0 fb F V) (hm:Md (fun k=>V.v11.ownBlock=some k) w w1) (p:World.ownsRow w1 B 129 5 v (F.a3++ [x]).length (lZ (F.a3++ [x]))) (a:Md (fun k=>k=fb) w1 i) (hc:i.heap[fb]? =some (.cells (j0 {F with a3:=F.a3++ [x]} {V with v11:=v}).toArray 120 (0,0))):dz i B B0 fb {F with a3:=F.a3++ [x]} {V with v11:=v} :=by
 have hT:TF w [131] (fun k=>V.v11.ownBlock=some k):=TF.own h.dp (by decide)
 have hcl:=hm.gw hT h.cells (by decide)
 have hT2:TF w1 [122] (fun k=>k=fb):=TF.eq (cV hcl) (by decide)
 have hfl:∀ k,V.v11.ownBlock=some k→∀ cur z,w.heap[k]?≠some (.cells cur 3 z):=eT h.dp (by decide)
 have j:∀ k,k=fb→∀ cur z,w1.heap[k]?≠some (.cells cur 3 z):=dM hcl (by decide)
 exact ⟨hc,bI (bI h.o9 hm hT (by decide)) a hT2 (by decide),bI (bI h.dI hm hT (by decide)) a hT2 (by decide),(h.al.md hm hfl).md a j,bS p a (fun k hk hf=>cw p hcl (by decide) (hf ▸ hk)),bI (bI h.cQ hm hT (by decide)) a hT2 (by decide),(h.nx.md hm hfl).md a j,h.lo,h.ef⟩
theorem dz.pK {w w1 j:World} {B B0 fb:Nat} {F:aI} {V:fp} {v:Value} {x:eK} {vx:Value} (h:dz w B B0 fb F V) (q:Tg w B0 3 x.next.length vx (x.next.map bq)) (hm:Md (fun k=>V.cC.ownBlock=some k) w w1) (p:World.ownsRow w1 B 127 8 v (F.rules++ [x]).length (jD ((F.rules++ [x]).zip (V.rn++ [vx])))) (a:Md (fun k=>k=fb) w1 j) (hc:j.heap[fb]? =some (.cells (j0 {F with rules:=F.rules++ [x]} {V with cC:=v,rn:=V.rn++ [vx]}).toArray 120 (0,0))):dz j B B0 fb {F with rules:=F.rules++ [x]} {V with cC:=v,rn:=V.rn++ [vx]} :=by
 have hT:TF w [129] (fun k=>V.cC.ownBlock=some k):=TF.own h.cQ (by decide)
 have hcl:=hm.gw hT h.cells (by decide)
 have hT2:TF w1 [122] (fun k=>k=fb):=TF.eq (cV hcl) (by decide)
 have hfl:∀ k,V.cC.ownBlock=some k→∀ cur z,w.heap[k]?≠some (.cells cur 3 z):=eT h.cQ (by decide)
 have i:∀ k,k=fb→∀ cur z,w1.heap[k]?≠some (.cells cur 3 z):=dM hcl (by decide)
 exact ⟨hc,bI (bI h.o9 hm hT (by decide)) a hT2 (by decide),bI (bI h.dI hm hT (by decide)) a hT2 (by decide),(h.al.md hm hfl).md a i,bI (bI h.dp hm hT (by decide)) a hT2 (by decide),bS p a (fun k hk hf=>cw p hcl (by decide) (hf ▸ hk)),(by rw [List.map_append]; exact ((h.nx.md hm hfl).md a i).snoc ((q.md hm hfl).md a i)),h.lo,h.ef⟩
structure eJ (w:World) (B:Nat) (H:eb) (k ln:Nat) (seen:List Tx) (vh:Value):Prop where
 cells:w.heap[H.rb]? =some (.cells (zy H k vh ln).toArray 122 (0,0))
 hd:World.ownsRow w B 9 1 vh seen.length (seen.map str)
 lo:B≤H.rb
section
variable {w w':World} {B k ln:Nat} {H:eb} {seen:List Tx} {vh:Value}
theorem eJ.md {G:Nat→Prop} (h:eJ w B H k ln seen vh) (hm:Md G w w') {L:List Nat} (hT:TF w L G) (a:(L.contains 124 || L.contains 11)=false):eJ w' B H k ln seen vh:=by
 simp only [Bool.or_eq_false_iff] at a
 exact ⟨hm.gw hT h.cells a.1,bI h.hd hm hT a.2,h.lo⟩
theorem eJ.wk (h:eJ w B H k ln seen vh) (hm:Wk w w'):eJ w' B H k ln seen vh:=h.md (L:= []) hm (fun _ hk=>hk.elim) rfl
theorem eJ.fb {B0:Nat} {a:aI} {V:fp} (h:eJ w B H k ln seen vh) (hF:dz w B B0 H.fb a V) (hm:Md (fun k=>k=H.fb) w w'):eJ w' B H k ln seen vh:=h.md hm (TF.eq (L:= [122]) (cV hF.cells) (by decide)) (by decide)
theorem eJ.own {a e s n:Nat} {v:Value} {xs:List Value} (h:eJ w B H k ln seen vh) (j:World.ownsRow w a e s v n xs) (hm:Md (fun k=>v.ownBlock=some k) w w') (i:([e+2].contains 124 || [e+2].contains 11)=false):eJ w' B H k ln seen vh:=h.md hm (TF.own (L:= [e+2]) j (by simp)) i
theorem eJ.kA {cs:Array Value} {z:Nat×Nat} (h:eJ w B H k ln seen vh) (hc:w.heap[H.fb]? =some (.cells cs 120 z)) (hm:Md (fun k=>k=H.fb) w w'):eJ w' B H k ln seen vh:=h.md hm (TF.eq (L:= [122]) (cV hc) (by decide)) (by decide)
theorem eJ.cW {k' ln':Nat} (h:eJ w B H k ln seen vh) (hm:Md (fun k=>k=H.rb) w w') (hc:w'.heap[H.rb]? =some (.cells (zy H k' vh ln').toArray 122 (0,0))):eJ w' B H k' ln' seen vh:=⟨hc,bI h.hd hm (TF.eq (L:= [124]) (cV h.cells) (by decide)) (by decide),h.lo⟩
theorem dz.rb {B0:Nat} {a:aI} {V:fp} (h:dz w B B0 H.fb a V) (i:eJ w B H k ln seen vh) (hm:Md (fun k=>k=H.rb) w w'):dz w' B B0 H.fb a V:=h.md hm (TF.eq (L:= [124]) (cV i.cells) (by decide)) (by decide)
end
structure kg (F:aI) (rows:List Rw) (seen:List Tx):Prop where
 len:F.bN.length+F.aliases.length+F.a3.length+F.rules.length+rows.length≤70000
 sl:seen.length+rows.length≤70000
 row:∀ q∈rows,q.2≠[]∧q.2.length≤70000∧∀ x∈q.2,x.length≤70000
 kd:F.kind=1∨F.kind=2∨F.kind=3
def GS (w1:World) (H:eb):Prop := ∃ B0,Tg w1 B0 50 H.rows.length H.vr (gN H.vs)∧eL w1 B0 9 H.vs H.rows∧H.rows.length≤70000
def iY (w1 w:World) (H:eb) (F:aI) (k ln:Nat) (seen:List Tx):Prop := ∃ V vh,dz w w1.heap.size 0 H.fb F V∧eJ w w1.heap.size H k ln seen vh∧kg F (H.rows.drop k) seen∧Wk w1 w∧k≤H.rows.length
def Cs (w':World) (H:eb) (X:Except (Nat×Nat) (aI×List Rw)) (v:Value):Prop := ∃ l e:Nat,X= .error (l,e)∧e≠0∧v= .int .i64 (e:Nat)∧Hb.aE w'.heap H.rb 5=some (.int .i64 (l:Nat))
def dS (w1:World) (H:eb) (seen:List Tx) (X:Except (Nat×Nat) (aI×List Rw)) (v:Value) (w':World):Prop :=((∃ F' k' ln',X= .ok (F',H.rows.drop k')∧v= .int .i64 (0:Nat)∧iY w1 w' H F' k' ln' seen)∨Cs w' H X v)∧Wk w1 w'
theorem kg.k4 {F:aI} {q:Rw} {rest:List Rw} {seen:List Tx} (h:kg F (q::rest) seen):kg F rest seen:=⟨by have :=h.len; simp only [List.length_cons] at this; omega,by have :=h.sl; simp only [List.length_cons] at this; omega,fun q2 h2=>h.row q2 (List.mem_cons_of_mem _ h2),h.kd⟩
theorem eJ.bM {w:World} {B:Nat} {H:eb} {k ln:Nat} {seen:List Tx} {vh:Value} (h:eJ w B H k ln seen vh):Hb.aE w.heap H.rb 5=some (.int .i64 (ln:Nat)):=(aQ h.cells).trans rfl
theorem GS.get {w1 w:World} {H:eb} {k:Nat} (h:GS w1 H) (hm:Wk w1 w) (hk:k < H.rows.length):∃ n r i j a c,H.rows.drop k=(n,r)::H.rows.drop (k+1)∧H.vr= .slice a H.rows.length c∧aw w.heap a (gN H.vs)∧H.vs[k]? =some (n,.slice i r.length j)∧(∃ B0,Tg w1 B0 9 r.length (.slice i r.length j) (r.map str))∧H.vs.length=H.rows.length:=by
 obtain ⟨B0,h1,h2,_⟩:=h
 obtain ⟨a,c,hv⟩:=h1.slice
 have hvl:=h2.1
 obtain ⟨q,hq⟩:∃ q,H.rows[k]? =some q:=⟨_,List.getElem?_eq_getElem hk⟩
 obtain ⟨n,r⟩:=q
 obtain ⟨p,hp⟩:∃ p,H.vs[k]? =some p:=⟨_,List.getElem?_eq_getElem (by omega)⟩
 obtain ⟨A,s⟩:=h2.2 k p (n,r) hp hq
 obtain ⟨pn,C⟩:=p
 simp only at A s
 subst A
 obtain ⟨i,j,rfl⟩:=s.slice
 rw [hv] at h1
 refine ⟨pn,r,i,j,a,c,?_,hv,(h1.wk hm).bH.2,hp,⟨B0,s⟩,hvl⟩
 rw [List.drop_eq_getElem_cons hk]
 rw [List.getElem?_eq_getElem hk] at hq
 rw [Option.some.inj hq]
end Go.Hb.km
end
section
set_option maxRecDepth 20000
set_option maxHeartbeats 1000000
namespace Go.Hb.m5
open Go.Hb.di
open Go.Proofs
open Go.Hb.ko
theorem Jh {l:List UInt8} {j:Nat} {b:UInt8} (h:j < l.length):b∈l.take (j+1)↔b∈l.take j∨l.getD j 0=b:=by
 rw [eh l j 0 h,List.mem_append,List.mem_singleton,eq_comm (a:=b)]
theorem oT (s:List UInt8) (w:World) (hs:s.length≤1048576):
 aU Tryz.prog 52 (List.toArray [str s]) w (fun v w'=>v= .bool (ei s)∧Wk w w'):=by
 refine enter Tryz.func52 rfl Tryz.ntmps52 rfl ?_
 refine U (fun _ J=>(aj (((J _ _ (sq (fun _ M=>U (fun _ O=> ?_))))))))
 refine aj (((O _ _ (aA (lp (fun G C wI=> ∃ (i:Nat),(i≤s.length)∧(∀ j,j < i→fq (s.getD j 0)=true)∧(Wk w wI)∧(C 0=str s)∧(C 3= .int .i64 i)∧(s.length - i=G)) _ ⟨0,(by omega),((fun j I=>by omega)),(Md.refl _ _),rfl,rfl,rfl⟩ ?_)))))
 rintro G C wI ⟨i,hi,hp,a,ac,ae,rfl⟩
 refine fx 0 ac (fx 3 ae (sq (fun _ V=>U (fun _ Y=>(ag (.int .i64 i) (ag (str s) (p (bK u9 rfl rfl) (p (lt rfl rfl) ?_))))))))
 refine au ((Y _ _ (cd rfl (fun aa=> ?_) (fun aa=> ?_))))
 refine az (tn (V _ _ (sq (fun _ q=>aA (U (fun _ E=>(ag (str s) (ag (.int .i64 i) ?_))))))))
 refine p (dA u9 rfl rfl (by omega)) (p (lt rfl rfl) (p mv (gs (t:=14) rfl (fun ab=> ?_) (fun ab=> ?_))))
 refine sk rfl rfl rfl rfl (sk rfl rfl rfl rfl (sk rfl rfl rfl rfl (sk rfl rfl rfl rfl (p (bg rfl) (au ((E _ _ (ct rfl ?_))))))))
 refine U (fun _ A=>(aj (((A _ _ (rt (br (tr ?_))))))))
 exact tr (br (tr (f1 rfl rfl (⟨by show Value.bool false =_; rw [nf (i:=i) (by omega) (th (by omega))],a⟩))))
 refine pg rfl rfl rfl (aC (str s) rfl) (pg rfl rfl rfl (aC (.int .i64 i) rfl) (pg rfl rfl rfl (dA u9 rfl rfl (by omega)) (pg rfl rfl rfl (bf rfl rfl) (p (a5 rfl) (au ((E _ _ (cd rfl (fun Z=> ?_) (fun Z=> ?_)))))))))
 refine U (fun _ A=>(aj (((A _ _ (rt (br (tr ?_))))))))
 exact tr (br (tr (f1 rfl rfl (⟨by show Value.bool false =_; rw [nf (i:=i) (by omega) (th (by omega))],a⟩))))
 have ah:fq (s.getD i 0)=true :=GO (by omega) (by omega)
 refine az (bn (tn (q _ _ (rg rfl (ag (.int .i64 i) (p (ad rfl rfl (bm (by omega))) (p ak (nl ?_))))))))
 exact tn (⟨_,by omega,i+1,(by omega),((fun j I=>by rcases Nat.lt_or_ge j i with h | h <;> first | exact hp j h | (rw [show j=i by omega]; exact ah))),a,rfl,rfl,rfl⟩)
 refine ext (te _ (te _ (be (tn (M _ _ (U (fun _ q=>(p ak ?_))))))))
 exact au ((q _ _ (rt (f1 rfl rfl (⟨by show Value.bool true =_; rw [oe (fun j I=>hp j (by omega))],a⟩)))))
theorem ra (s:List UInt8) (w:World) (hs:s.length≤1048576):
 aU Tryz.prog 84 (List.toArray [str s]) w (fun v w'=>v=AS (aW s)∧Wk w w'):=by
 refine enter Tryz.func84 rfl Tryz.ntmps84 rfl ?_
 refine U (fun _ ac=>(p ak (p ak (p ak (aj (((ac _ _ ?_))))))))
 refine U (fun _ am=>(e (je eV fun b8 w8 hb8 aF ay=> ?_)))
 have aV:World.ownsRow w8 w.heap.size 5 1 (.slice (some ⟨b8,0,none⟩) 0 0) (([]:List UInt8)).length (U8 (([]:List UInt8))):=ay _ (by omega)
 refine aj (((am _ _ (U (fun _ an=>(aj (((an _ _ ?_)))))))))
 refine sq (fun _ ao=>aA (lp (fun Z J wI=> ∃ (i:Nat) (acc:List UInt8) (Y:Value),(i≤s.length∧acc.length≤i)∧(World.ownsRow wI w.heap.size 5 1 (Y) (acc).length (U8 (acc)))∧(Wk w wI)∧(fO acc (s.drop i)=aW s)∧(J 0=str s)∧(J 6=Y)∧(J 7= .int .i64 i)∧(s.length - i=Z)) _ ⟨0,[],.slice (some ⟨b8,0,none⟩) 0 0,(by simp),aV,aF.md,rfl,rfl,rfl,rfl,rfl⟩ ?_))
 rintro Z J wI ⟨i,acc,Y,hi,q,j,hd,aX,aY,aZ,rfl⟩
 refine fx 0 aX (fx 6 aY (fx 7 aZ ?_))
 obtain ⟨E,G,rfl⟩:=bW q
 refine sq (fun _ aq=>U (fun _ ar=>(ag (.int .i64 i) (ag (str s) (p (bK u9 rfl rfl) (p (lt rfl rfl) (nl ?_)))))))
 refine tn (ar _ _ (cd rfl (fun aJ=> ?_) (fun aJ=> ?_)))
 refine az (tn (aq _ _ (aA (sq (fun _ O=>U (fun _ av=>(ag (str s) (ag (.int .i64 i) ?_))))))))
 refine p (dA u9 rfl rfl (by omega)) (p (bf rfl rfl) (au ((av _ _ (cd rfl (fun aK=> ?_) (fun aK=> ?_))))))
 have aI:(s.getD i 0).toNat=47:=by omega
 refine sq (fun _ C=> ?_)
 have a:(fun w'=>Wk wI w') wI.drew:=(Md.refl _ _).drew
 refine bD (fun w'=>Wk wI w') rfl wide a (bd 0 rfl (.slice E acc.length G) a (bd 2 rfl (str s) a (bd 3 rfl (.int .i64 i) a (aB 4 rfl (fun _ _=>bc ((i+1:Nat):Int) rfl rfl (aR (by omega) (by omega))) a (aB 5 rfl (fun _ _=>kJ u9 rfl rfl (by omega)) a (aB 1 rfl (fun w' aH=>jw ju rfl ((aM (aG q aH)).2) (rfl)) a (aB 6 rfl (fun _ _=>ak) a ?_)))))))
 refine aB 7 rfl (fun _ _=>ak) a (aB 8 rfl (fun _ _=>ak) a (aB 9 rfl (fun _ _=>ak) a (hn (by kernel_rfl) (tn (C _ _ (rt (tr (br ?_))))))))
 refine tr (br (tr (f4 rfl rfl rfl rfl rfl ?_)))
 exact ⟨by rw [← hd,drop_cons 0 (by omega :i < s.length),vD aI]; rfl,Md.trans j (Md.refl _ _).drew⟩
 refine az (tn (O _ _ ?_))
 refine c7 (fun M wC=> ∃ (k:Nat),(k < s.length∧i≤k∧k≤i+1)∧(Wk w wC)∧(World.ownsRow wC w.heap.size 5 1 (.slice E acc.length G) (acc).length (U8 (acc)))∧(fO (acc++ [s.getD k 0]) (s.drop (k+1))=aW s)∧(M 0=str s)∧(M 6= .slice E acc.length G)∧(M 7= .int .i64 k)) ?_ ?_
 refine U (fun _ C=>(ag (str s) (ag (.int .i64 i) (p (dA u9 rfl rfl (by omega)) (p (bf rfl rfl) (au ((C _ _ ?_))))))))
 refine cd rfl (fun aL=> ?_) (fun aL=> ?_)
 have I:(s.getD i 0).toNat=92:=by omega
 refine U (fun _ ae=>(ag (.int .i64 i) (p (bc ((i+1:Nat):Int) rfl rfl (aR (by omega) (by omega))) (aj (((ae _ _ (sq (fun _ ah=> ?_)))))))))
 refine U (fun _ ai=>(p mv (ag (str s) (p (bK u9 rfl rfl) (p (ge rfl rfl) (au ((ai _ _ ?_))))))))
 refine cd rfl (fun aN=> ?_) (fun aN=> ?_)
 refine U (fun _ A=>(p ak (p ak (p ak (aj (((A _ _ ?_))))))))
 refine rt (tr (tr (br (tr (br (tr (f4 rfl rfl rfl rfl rfl ?_)))))))
 exact ⟨by rw [← hd,drop_cons 0 (by omega :i < s.length),List.drop_eq_nil_of_le (by omega),vA I]; rfl,j⟩
 refine az (tn (ah _ _ (U (fun _ A=>(ag (str s) (p mv (p (dA u9 rfl rfl (by omega)) (p (bB rfl rfl) ?_))))))))
 refine p mv (gs (t:=37) rfl (fun aQ=> ?_) (fun aQ=> ?_))
 refine pg rfl rfl rfl (aC (str s) rfl) (pg rfl rfl rfl mv (pg rfl rfl rfl (dA u9 rfl rfl (by omega)) (pg rfl rfl rfl (bB rfl rfl) (p (bg rfl) (p mv (gs (t:=43) rfl (fun aS=> ?_) (fun aS=> ?_)))))))
 refine pg rfl rfl rfl (aC (str s) rfl) (pg rfl rfl rfl mv (pg rfl rfl rfl (dA u9 rfl rfl (by omega)) (pg rfl rfl rfl (bB rfl rfl) (p (bg rfl) (au ((A _ _ (cd rfl (fun aO=> ?_) (fun aO=> ?_)))))))))
 refine U (fun _ al=>(p ak (p ak (p ak (aj (((al _ _ ?_))))))))
 refine rt (tr (br (tr (br (tr (f4 rfl rfl rfl rfl rfl ?_))))))
 exact ⟨by rw [← hd,drop_cons 0 (by omega :i < s.length),drop_cons 0 (by omega :i+1 < s.length),vB I (by rw [g9]; exact decide_eq_false (by omega))]; rfl,j⟩
 exact az (tn (⟨i+1,(by omega),j,q,((by rw [← hd,drop_cons 0 (by omega :i < s.length),drop_cons 0 (by omega :i+1 < s.length),o8 I (by rw [g9]; exact decide_eq_true (by omega))])),rfl,rfl,rfl⟩))
 refine sk rfl rfl rfl rfl (sk rfl rfl rfl rfl (sk rfl rfl rfl rfl (sk rfl rfl rfl rfl (p (a5 rfl) (au ((A _ _ (cf rfl ?_))))))))
 exact az (tn (⟨i+1,(by omega),j,q,((by rw [← hd,drop_cons 0 (by omega :i < s.length),drop_cons 0 (by omega :i+1 < s.length),o8 I (by rw [g9]; exact decide_eq_true (by omega))])),rfl,rfl,rfl⟩))
 refine sk rfl rfl rfl rfl (sk rfl rfl rfl rfl (sk rfl rfl rfl rfl (sk rfl rfl rfl rfl (p (a5 rfl) (p mv (sk rfl rfl rfl rfl (sk rfl rfl rfl rfl ?_)))))))
 refine sk rfl rfl rfl rfl (sk rfl rfl rfl rfl (p (a5 rfl) (au ((A _ _ (cf rfl (az (tn ?_))))))))
 exact ⟨i+1,(by omega),j,q,((by rw [← hd,drop_cons 0 (by omega :i < s.length),drop_cons 0 (by omega :i+1 < s.length),o8 I (by rw [g9]; exact decide_eq_true (by omega))])),rfl,rfl,rfl⟩
 exact az (tn (⟨i,(by omega),j,q,((by rw [← hd,drop_cons 0 (by omega :i < s.length),vC (by omega) (by omega)])),rfl,rfl,rfl⟩))
 rintro M wC ⟨k,hk,aD,ab,aP,a0,a1,a2⟩
 refine fx 0 a0 (fx 6 a1 (fx 7 a2 (U (fun _ C=>(ag (.slice E acc.length G) (ag (str s) (ag (.int .i64 k) (p (dA u9 rfl rfl (by omega)) (e (ec eV rfl rfl fun a4 w53 a6 V ax=> ?_))))))))))
 have aa:Wk w w53:=Md.trans aD V.md
 refine e (ap eV (aG ab V.md) rfl (by have :=aa.size; omega) rfl (aw.cU ax) (rfl) (rfl) (by omega) (by omega) fun a3 a9 aT aE a8 a7=> ?_)
 have hE54:=Wk.own aa (aG ab V.md) aE (Nat.le_refl _)
 have ho54x:=l9 aT
 refine aj (((C _ _ (rg rfl (ag (.int .i64 k) (p (bc ((k+1:Nat):Int) rfl rfl (aR (by omega) (by omega))) (p ak (nl ?_))))))))
 exact bn (tn (⟨_,by omega,k+1,acc++ [s.getD k 0],a3,(by rw [List.length_append,List.length_singleton]; omega),ho54x,hE54,aP,rfl,rfl,rfl,rfl⟩))
 refine ext (te _ (te _ (be (tn (ao _ _ (U (fun _ O=>(ag (.slice E acc.length G) ?_))))))))
 refine p (jw ju rfl ((aM q).2) (rfl)) (p ak (p ak (p ak (aj (((O _ _ (rt ?_))))))))
 refine f4 rfl rfl rfl rfl rfl ?_
 exact ⟨by rw [← hd,List.drop_eq_nil_of_le (by omega),rN]; rfl,j⟩
theorem KB (s:List UInt8) (w:World) (hs:s.length≤1048576):
 aU Tryz.prog 81 (List.toArray [str s]) w (fun v w'=>v= .tuple #[str (letE s).1,.int .i64 (letE s).2]∧Wk w w'):=by
 refine enter Tryz.func81 rfl Tryz.ntmps81 rfl ?_
 refine U (fun _ aK=>(p ak (aj (((aK _ _ (U (fun _ aP=> ?_))))))))
 refine ag (str s) (e (cl om (oT s _ hs) rfl fun v10 w10 hR10=> ?_))
 obtain ⟨rfl,ah⟩:=hR10
 refine aj (((aP _ _ (sq (fun _ aQ=>U (fun _ aH=>(ag (str s) (p (bK u9 rfl rfl) ?_))))))))
 refine p (bf rfl rfl) (p mv (gs (t:=14) rfl (fun ar=> ?_) (fun ar=> ?_)))
 refine sk rfl rfl rfl rfl (sk rfl rfl rfl rfl (p (bg rfl) (au ((aH _ _ (ct rfl (U (fun _ Y=> ?_))))))))
 exact p ak (aj (((Y _ _ (rt (tr (f2 rfl rfl rfl (⟨by show Value.tuple #[str [],.int .i64 21]=_; unfold letE; rw [if_pos (.inl (List.length_eq_zero_iff.1 (by omega)))]; rfl,ah⟩))))))))
 refine pg rfl rfl rfl mv (pg rfl rfl rfl (no rfl) (p (a5 rfl) (au ((aH _ _ (cb rfl (fun ai=> ?_) (fun ai=> ?_)))))))
 refine U (fun _ Y=>(p ak (aj (((Y _ _ (rt (tr ?_))))))))
 exact f2 rfl rfl rfl (⟨by show Value.tuple #[str [],.int .i64 21]=_; unfold letE; rw [if_pos (.inr (by simpa using ai))]; rfl,ah⟩)
 refine az (tn (aQ _ _ (U (fun _ Y=>(e (je eV fun aI w18 bl aY hB18=> ?_))))))
 have a4:World.ownsRow w18 w.heap.size 5 1 (.slice (some ⟨aI,0,none⟩) 0 0) (([]:List UInt8)).length (U8 (([]:List UInt8))):=hB18 _ (by have :=ah.size; omega)
 have aX:Wk w w18:=Md.trans ah aY.md
 refine aj (((Y _ _ (sq (fun _ aR=>U (fun _ aS=>(p ak (nl ?_))))))))
 refine tn (aS _ _ (aA (lp (fun Z am wI=> ∃ (i:Nat) (ax:Value),(i≤s.length)∧(World.ownsRow wI w.heap.size 5 1 (ax) ((lets (s.take i))).length (U8 ((lets (s.take i)))))∧(Wk w wI)∧(am 0=str s)∧(am 5=ax)∧(am 6= .int .i64 i)∧(s.length - i=Z)) _ ⟨0,.slice (some ⟨aI,0,none⟩) 0 0,(by omega),a4,aX,rfl,rfl,rfl,rfl⟩ ?_)))
 rintro Z am wI ⟨i,ax,hi,A,aa,a6,a7,a8,rfl⟩
 refine fx 0 a6 (fx 5 a7 (fx 6 a8 ?_))
 obtain ⟨C,E,rfl⟩:=bW A
 have hll:=uc (s.take i)
 rw [List.length_take] at hll
 refine sq (fun _ aT=>U (fun _ aV=>(ag (.int .i64 i) (ag (str s) (p (bK u9 rfl rfl) (p (lt rfl rfl) (nl ?_)))))))
 refine tn (aV _ _ (cd rfl (fun a1=> ?_) (fun a1=> ?_)))
 refine az (tn (aT _ _ (sq (fun _ M=>aA (U (fun _ aL=>(p ak (nl ?_))))))))
 refine tn (aL _ _ (sq (fun _ aD=>U (fun _ aN=>(aj (((aN _ _ (aA ?_)))))))))
 refine lp (fun Z O ae=> ∃ (j:Nat) (ob:Bool),(j≤(lets (s.take i)).length)∧(ob=decide (s.getD i 0∈(lets (s.take i)).take j))∧(Wk wI ae)∧(O 0=str s)∧(O 5= .slice C (lets (s.take i)).length E)∧(O 6= .int .i64 i)∧(O 7= .bool ob)∧(O 8= .int .i64 j)∧((lets (s.take i)).length - j=Z)) _ ⟨0,false,(by omega),rfl,(Md.refl _ _),rfl,rfl,rfl,rfl,rfl,rfl⟩ ?_
 rintro Z O ae ⟨j,ob,bo,al,a,a9,bb,bc,bh,bi,rfl⟩
 refine fx 0 a9 (fx 5 bb (fx 6 bc (fx 7 bh (fx 8 bi (sq (fun _ aO=>U (fun _ aF=>(ag (.int .i64 j) (ag (.slice C (lets (s.take i)).length E) (p (ba jr rfl rfl) (p (lt rfl rfl) ?_)))))))))))
 refine p mv (gs (t:=29) rfl (fun hlt=> ?_) (fun hlt=> ?_))
 refine pg rfl rfl rfl (aC (.bool ob) rfl) (pg rfl rfl rfl (no rfl) (p (bg rfl) (au ((aF _ _ (cb rfl (fun aq=> ?_) (fun aq=> ?_)))))))
 have a3:¬s.getD i 0∈(lets (s.take i)).take j:=of_decide_eq_false (by rw [← al]; simpa using aq)
 refine az (tn (aO _ _ (sq (fun _ V=>aA ?_))))
 have q:(fun w'=>Wk ae w') ae.drew:=(Md.refl _ _).drew
 refine bD (fun w'=>Wk ae w') rfl wide q (bd 0 rfl (.slice C (lets (s.take i)).length E) q (bd 1 rfl (.int .i64 j) q (aB 2 rfl (fun _ _=>aJ iO rfl rfl (by omega) (aw.ok ((aM (aG A a)).2) (lB (by omega)))) q (aB 3 rfl (fun w' aZ=>ld kV rfl (Wk.aE aZ (lA (i:=j) (aM (aG A a)).2 (by omega)))) q (bd 4 rfl (str s) q (bd 5 rfl (.int .i64 i) q (aB 6 rfl (fun _ _=>dA u9 rfl rfl (by omega)) q ?_)))))))
 refine aB 7 rfl (fun _ _=>bf rfl rfl) q (aB 8 rfl (fun _ _=>ak) q (hn (by kernel_rfl) (bn (tn (V _ _ (rg rfl (ag (.int .i64 j) (p (ad rfl rfl (bm (by omega))) ?_))))))))
 exact aj (((⟨_,by omega,j+1,decide (((lets (s.take i)).getD j 0).toNat=((s.getD i 0).toNat:Int)),(by omega),((decide_eq_decide.2 (by rw [Jh (by omega)]; constructor <;> intro h <;> first | exact .inr (UInt8.toNat_inj.1 (by omega)) | (rcases h with h | h <;> first | exact absurd h a3 | (rw [h]))))),(Md.trans a (Md.refl _ _).drew),rfl,rfl,rfl,rfl,rfl,rfl⟩)))
 have ac:ob=decide (s.getD i 0∈lets (s.take i)):=by
  have h1:ob=true :=by simpa using aq
  rw [h1] at al
  rw [h1]; exact (decide_eq_true (List.mem_of_mem_take (of_decide_eq_true al.symm))).symm
 refine ext (te _ (te _ (be (tn (aD _ _ (U (fun _ V=>(ag (.bool ob) ?_))))))))
 refine p (no rfl) (au ((V _ _ (cb rfl (fun I=> ?_) (fun I=> ?_)))))
 have J:¬s.getD i 0∈lets (s.take i):=of_decide_eq_false (by rw [← ac]; simpa using I)
 refine rg rfl (ag (.slice C (lets (s.take i)).length E) (ag (str s) (ag (.int .i64 i) (p (dA u9 rfl rfl (by omega)) (e (ec eV rfl rfl fun aW w49 a0 G an=> ?_))))))
 have ab:Wk w w49:=Md.trans (Md.trans aa a) G.md
 refine e (ap eV (aG (aG A a) G.md) rfl (by have :=ab.size; omega) rfl (aw.cU an) (rfl) (rfl) (by omega) (by omega) fun ay bk av ao bj a2=> ?_)
 have hE50:=Wk.own ab (aG (aG A a) G.md) ao (Nat.le_refl _)
 have ho50x:=l9 av
 refine p ak (nl (bn (tn (M _ _ (rg rfl (ag (.int .i64 i) (p (ad rfl rfl (bm (by omega))) (p ak ?_))))))))
 exact au ((⟨_,by omega,i+1,ay,(by omega),((by rw [l5 (by omega),if_neg J]; exact ho50x)),hE50,rfl,rfl,rfl,rfl⟩))
 have J:s.getD i 0∈lets (s.take i):=of_decide_eq_true (by rw [← ac]; simpa using I)
 refine az (bn (tn (M _ _ (rg rfl (ag (.int .i64 i) (p (ad rfl rfl (bm (by omega))) (p ak (nl ?_))))))))
 exact tn (⟨_,by omega,i+1,.slice C (lets (s.take i)).length E,(by omega),((by rw [l5 (by omega),if_pos J]; exact aG A a)),(Md.trans aa a),rfl,rfl,rfl,rfl⟩)
 have ac:ob=decide (s.getD i 0∈lets (s.take i)):=by rw [al,List.take_of_length_le (by omega)]
 refine sk rfl rfl rfl rfl (sk rfl rfl rfl rfl (p (a5 rfl) (au ((aF _ _ (cf rfl (ext (te _ ?_))))))))
 refine te _ (be (tn (aD _ _ (U (fun _ V=>(ag (.bool ob) (p (no rfl) (nl ?_))))))))
 refine tn (V _ _ (cb rfl (fun I=> ?_) (fun I=> ?_)))
 have J:¬s.getD i 0∈lets (s.take i):=of_decide_eq_false (by rw [← ac]; simpa using I)
 refine rg rfl (ag (.slice C (lets (s.take i)).length E) (ag (str s) (ag (.int .i64 i) (p (dA u9 rfl rfl (by omega)) (e (ec eV rfl rfl fun aW w49 a0 G an=> ?_))))))
 have ab:Wk w w49:=Md.trans (Md.trans aa a) G.md
 refine e (ap eV (aG (aG A a) G.md) rfl (by have :=ab.size; omega) rfl (aw.cU an) (rfl) (rfl) (by omega) (by omega) fun ay bk av ao bj a2=> ?_)
 have hE50:=Wk.own ab (aG (aG A a) G.md) ao (Nat.le_refl _)
 have ho50x:=l9 av
 refine p ak (nl (bn (tn (M _ _ (rg rfl (ag (.int .i64 i) (p (ad rfl rfl (bm (by omega))) (p ak ?_))))))))
 exact au ((⟨_,by omega,i+1,ay,(by omega),((by rw [l5 (by omega),if_neg J]; exact ho50x)),hE50,rfl,rfl,rfl,rfl⟩))
 have J:s.getD i 0∈lets (s.take i):=of_decide_eq_true (by rw [← ac]; simpa using I)
 refine az (bn (tn (M _ _ (rg rfl (ag (.int .i64 i) (p (ad rfl rfl (bm (by omega))) (p ak (nl ?_))))))))
 exact tn (⟨_,by omega,i+1,.slice C (lets (s.take i)).length E,(by omega),((by rw [l5 (by omega),if_pos J]; exact aG A a)),(Md.trans aa a),rfl,rfl,rfl,rfl⟩)
 refine ext (te _ (te _ (be (tn (aR _ _ (U (fun _ M=>(ag (.slice C (lets (s.take i)).length E) ?_))))))))
 exact p (jw ju rfl ((aM A).2) (rfl)) (p ak (aj (((M _ _ (rt (f2 rfl rfl rfl (⟨by show Value.tuple #[str (lets (s.take i)),.int .i64 0]=_; unfold letE; rw [if_neg (fun h=>h.elim (fun h=>by rw [h] at ar; exact ar rfl) (fun h=>by rw [h] at ai; cases ai)),show s.take i=s from List.take_of_length_le (by omega)]; rfl,aa⟩))))))))
end Go.Hb.m5
end
