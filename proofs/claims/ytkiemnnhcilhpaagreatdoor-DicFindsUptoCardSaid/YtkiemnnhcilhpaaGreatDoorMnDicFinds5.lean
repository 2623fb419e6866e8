/-
  Walks and plain laws that the law rests on, laid together. No conditions but those that each theorem names.
-/
import Derived.Test.YtkiemnnhcilhpaaGreatDoorMnDicFinds4
set_option linter.unusedVariables false
section
set_option maxRecDepth 20000
set_option maxHeartbeats 1000000
namespace Go.Hb.vC
open Go.Hb.di
open Go.Proofs
open Go.Hb.eS Go.Hb.fE Go.Hb.iQ Go.Hb.fN Go.Hb.iw Go.Hb.jN Go.Hb.j7 Go.Hb.gU
theorem HD (B:Nat) (H:bM) (F:aH) (rows:List Rw) (ln:Nat) (seen:List Tx) (r:List Tx) (j:Nat) (a:Option Addr) (i:Nat) (w:World) (p:St w B H F rows ln seen) (hT:Tg w j 9 r.length (.slice a r.length i) (r.map str)) (hrl:∀ x∈r,x.length≤70000) (hw:r.length=width (r.getD 0 [])) (A:gB F seen) (s:width (r.getD 0 [])=2→r.getD 0 []∉seen) (q:F.bL.length+F.aliases.length+F.aX.length+F.rules.length+rows.length < 70000) (hk:r.getD 0 []=eM):dN Tryz.prog 58 (List.toArray [.pointer (some ⟨H.rb,0,none⟩),.slice a r.length i]) w (fP B H seen (bz H.eof F seen rows ln r) w) (fO B H (bz H.eof F seen rows ln r) w):=by
 have h:=Iz B H F rows ln seen r j a i w p hT (by rw [hw,hk]; decide) hrl
 rw [show bz H.eof F seen rows ln r=gQ F seen rows ln r from by unfold bz; rw [hk]; rfl]
 exact h
theorem HL (B:Nat) (H:bM) (F:aH) (rows:List Rw) (ln:Nat) (seen:List Tx) (r:List Tx) (j:Nat) (a:Option Addr) (i:Nat) (w:World) (p:St w B H F rows ln seen) (hT:Tg w j 9 r.length (.slice a r.length i) (r.map str)) (hrl:∀ x∈r,x.length≤70000) (hw:r.length=width (r.getD 0 [])) (A:gB F seen) (s:width (r.getD 0 [])=2→r.getD 0 []∉seen) (q:F.bL.length+F.aliases.length+F.aX.length+F.rules.length+rows.length < 70000) (hk:r.getD 0 []=eZ):dN Tryz.prog 59 (List.toArray [.pointer (some ⟨H.rb,0,none⟩),.slice a r.length i]) w (fP B H seen (bz H.eof F seen rows ln r) w) (fO B H (bz H.eof F seen rows ln r) w):=by
 have h:=Eu B H F rows ln seen r j a i w p hT (by rw [hw,hk]; decide) hrl
 rw [show bz H.eof F seen rows ln r=jH F rows ln r from by unfold bz; rw [hk]; rfl]
 exact h
theorem HN (B:Nat) (H:bM) (F:aH) (rows:List Rw) (ln:Nat) (seen:List Tx) (r:List Tx) (j:Nat) (a:Option Addr) (i:Nat) (w:World) (p:St w B H F rows ln seen) (hT:Tg w j 9 r.length (.slice a r.length i) (r.map str)) (hrl:∀ x∈r,x.length≤70000) (hw:r.length=width (r.getD 0 [])) (A:gB F seen) (s:width (r.getD 0 [])=2→r.getD 0 []∉seen) (q:F.bL.length+F.aliases.length+F.aX.length+F.rules.length+rows.length < 70000) (hk:r.getD 0 []=fk):dN Tryz.prog 60 (List.toArray [.pointer (some ⟨H.rb,0,none⟩),.slice a r.length i]) w (fP B H seen (bz H.eof F seen rows ln r) w) (fO B H (bz H.eof F seen rows ln r) w):=by
 have h:=LJ B H F rows ln seen r j a i w p hT (by rw [hw,hk]; decide) hrl
 rw [show bz H.eof F seen rows ln r=jM F rows ln r from by unfold bz; rw [hk]; rfl]
 exact h
theorem HH (B:Nat) (H:bM) (F:aH) (rows:List Rw) (ln:Nat) (seen:List Tx) (r:List Tx) (j:Nat) (a:Option Addr) (i:Nat) (w:World) (p:St w B H F rows ln seen) (hT:Tg w j 9 r.length (.slice a r.length i) (r.map str)) (hrl:∀ x∈r,x.length≤70000) (hw:r.length=width (r.getD 0 [])) (s:gB F seen) (q:width (r.getD 0 [])=2→r.getD 0 []∉seen) (A:F.bL.length+F.aliases.length+F.aX.length+F.rules.length+rows.length < 70000) (hk:r.getD 0 []=gv):dN Tryz.prog 61 (List.toArray [.pointer (some ⟨H.rb,0,none⟩),.slice a r.length i]) w (fP B H seen (bz H.eof F seen rows ln r) w) (fO B H (bz H.eof F seen rows ln r) w):=by
 have h:=oP B H F rows ln seen r j a i w p hT (by rw [hw,hk]; decide) hrl (by rw [hk]; decide) (s _ (by rw [hk]; decide) (q (by rw [hk]; decide)))
 rw [show bz H.eof F seen rows ln r=gK F rows ln r from by unfold bz; rw [hk]; rfl]
 exact h
theorem HE (B:Nat) (H:bM) (F:aH) (rows:List Rw) (ln:Nat) (seen:List Tx) (r:List Tx) (j:Nat) (a:Option Addr) (i:Nat) (w:World) (p:St w B H F rows ln seen) (hT:Tg w j 9 r.length (.slice a r.length i) (r.map str)) (hrl:∀ x∈r,x.length≤70000) (hw:r.length=width (r.getD 0 [])) (s:gB F seen) (q:width (r.getD 0 [])=2→r.getD 0 []∉seen) (A:F.bL.length+F.aliases.length+F.aX.length+F.rules.length+rows.length < 70000) (hk:r.getD 0 []=gF):dN Tryz.prog 61 (List.toArray [.pointer (some ⟨H.rb,0,none⟩),.slice a r.length i]) w (fP B H seen (bz H.eof F seen rows ln r) w) (fO B H (bz H.eof F seen rows ln r) w):=by
 have h:=oP B H F rows ln seen r j a i w p hT (by rw [hw,hk]; decide) hrl (by rw [hk]; decide) (s _ (by rw [hk]; decide) (q (by rw [hk]; decide)))
 rw [show bz H.eof F seen rows ln r=gK F rows ln r from by unfold bz; rw [hk]; rfl]
 exact h
theorem HF (B:Nat) (H:bM) (F:aH) (rows:List Rw) (ln:Nat) (seen:List Tx) (r:List Tx) (j:Nat) (a:Option Addr) (i:Nat) (w:World) (p:St w B H F rows ln seen) (hT:Tg w j 9 r.length (.slice a r.length i) (r.map str)) (hrl:∀ x∈r,x.length≤70000) (hw:r.length=width (r.getD 0 [])) (s:gB F seen) (q:width (r.getD 0 [])=2→r.getD 0 []∉seen) (A:F.bL.length+F.aliases.length+F.aX.length+F.rules.length+rows.length < 70000) (hk:r.getD 0 []=gP):dN Tryz.prog 61 (List.toArray [.pointer (some ⟨H.rb,0,none⟩),.slice a r.length i]) w (fP B H seen (bz H.eof F seen rows ln r) w) (fO B H (bz H.eof F seen rows ln r) w):=by
 have h:=oP B H F rows ln seen r j a i w p hT (by rw [hw,hk]; decide) hrl (by rw [hk]; decide) (s _ (by rw [hk]; decide) (q (by rw [hk]; decide)))
 rw [show bz H.eof F seen rows ln r=gK F rows ln r from by unfold bz; rw [hk]; rfl]
 exact h
theorem HC (B:Nat) (H:bM) (F:aH) (rows:List Rw) (ln:Nat) (seen:List Tx) (r:List Tx) (j:Nat) (a:Option Addr) (i:Nat) (w:World) (p:St w B H F rows ln seen) (hT:Tg w j 9 r.length (.slice a r.length i) (r.map str)) (hrl:∀ x∈r,x.length≤70000) (hw:r.length=width (r.getD 0 [])) (s:gB F seen) (q:width (r.getD 0 [])=2→r.getD 0 []∉seen) (A:F.bL.length+F.aliases.length+F.aX.length+F.rules.length+rows.length < 70000) (hk:r.getD 0 []=g6):dN Tryz.prog 61 (List.toArray [.pointer (some ⟨H.rb,0,none⟩),.slice a r.length i]) w (fP B H seen (bz H.eof F seen rows ln r) w) (fO B H (bz H.eof F seen rows ln r) w):=by
 have h:=oP B H F rows ln seen r j a i w p hT (by rw [hw,hk]; decide) hrl (by rw [hk]; decide) (s _ (by rw [hk]; decide) (q (by rw [hk]; decide)))
 rw [show bz H.eof F seen rows ln r=gK F rows ln r from by unfold bz; rw [hk]; rfl]
 exact h
theorem HI (B:Nat) (H:bM) (F:aH) (rows:List Rw) (ln:Nat) (seen:List Tx) (r:List Tx) (j:Nat) (a:Option Addr) (i:Nat) (w:World) (p:St w B H F rows ln seen) (hT:Tg w j 9 r.length (.slice a r.length i) (r.map str)) (hrl:∀ x∈r,x.length≤70000) (hw:r.length=width (r.getD 0 [])) (s:gB F seen) (q:width (r.getD 0 [])=2→r.getD 0 []∉seen) (A:F.bL.length+F.aliases.length+F.aX.length+F.rules.length+rows.length < 70000) (hk:r.getD 0 []=im):dN Tryz.prog 61 (List.toArray [.pointer (some ⟨H.rb,0,none⟩),.slice a r.length i]) w (fP B H seen (bz H.eof F seen rows ln r) w) (fO B H (bz H.eof F seen rows ln r) w):=by
 have h:=oP B H F rows ln seen r j a i w p hT (by rw [hw,hk]; decide) hrl (by rw [hk]; decide) (s _ (by rw [hk]; decide) (q (by rw [hk]; decide)))
 rw [show bz H.eof F seen rows ln r=gK F rows ln r from by unfold bz; rw [hk]; rfl]
 exact h
theorem HG (B:Nat) (H:bM) (F:aH) (rows:List Rw) (ln:Nat) (seen:List Tx) (r:List Tx) (j:Nat) (a:Option Addr) (i:Nat) (w:World) (p:St w B H F rows ln seen) (hT:Tg w j 9 r.length (.slice a r.length i) (r.map str)) (hrl:∀ x∈r,x.length≤70000) (hw:r.length=width (r.getD 0 [])) (A:gB F seen) (s:width (r.getD 0 [])=2→r.getD 0 []∉seen) (q:F.bL.length+F.aliases.length+F.aX.length+F.rules.length+rows.length < 70000) (hk:r.getD 0 []=gu):dN Tryz.prog 62 (List.toArray [.pointer (some ⟨H.rb,0,none⟩),.slice a r.length i]) w (fP B H seen (bz H.eof F seen rows ln r) w) (fO B H (bz H.eof F seen rows ln r) w):=by
 have h:=ID B H F rows ln seen r j a i w p hT (by rw [hw,hk]; decide) hrl
 rw [show bz H.eof F seen rows ln r=g8 F rows ln r from by unfold bz; rw [hk]; rfl]
 exact h
theorem HK (B:Nat) (H:bM) (F:aH) (rows:List Rw) (ln:Nat) (seen:List Tx) (r:List Tx) (j:Nat) (a:Option Addr) (i:Nat) (w:World) (p:St w B H F rows ln seen) (hT:Tg w j 9 r.length (.slice a r.length i) (r.map str)) (hrl:∀ x∈r,x.length≤70000) (hw:r.length=width (r.getD 0 [])) (A:gB F seen) (s:width (r.getD 0 [])=2→r.getD 0 []∉seen) (q:F.bL.length+F.aliases.length+F.aX.length+F.rules.length+rows.length < 70000) (hk:r.getD 0 []=dD):dN Tryz.prog 63 (List.toArray [.pointer (some ⟨H.rb,0,none⟩),.slice a r.length i]) w (fP B H seen (bz H.eof F seen rows ln r) w) (fO B H (bz H.eof F seen rows ln r) w):=by
 have h:=Kj B H F rows ln seen r j a i w p hT (by rw [hw,hk]; decide) hrl
 rw [show bz H.eof F seen rows ln r=gI H.eof F rows ln r from by unfold bz; rw [hk]; rfl]
 exact h
theorem HB (B:Nat) (H:bM) (F:aH) (rows:List Rw) (ln:Nat) (seen:List Tx) (r:List Tx) (j:Nat) (a:Option Addr) (i:Nat) (w:World) (p:St w B H F rows ln seen) (hT:Tg w j 9 r.length (.slice a r.length i) (r.map str)) (hrl:∀ x∈r,x.length≤70000) (hw:r.length=width (r.getD 0 [])) (A:gB F seen) (s:width (r.getD 0 [])=2→r.getD 0 []∉seen) (q:F.bL.length+F.aliases.length+F.aX.length+F.rules.length+rows.length < 70000) (hk:r.getD 0 []=db):dN Tryz.prog 64 (List.toArray [.pointer (some ⟨H.rb,0,none⟩),.slice a r.length i]) w (fP B H seen (bz H.eof F seen rows ln r) w) (fO B H (bz H.eof F seen rows ln r) w):=by
 have h:=CF B H F rows ln seen r j a i w p hT (by rw [hw,hk]; decide) hrl
 rw [show bz H.eof F seen rows ln r=gn H.eof F seen rows ln r from by unfold bz; rw [hk]; rfl]
 exact h
theorem HJ (B:Nat) (H:bM) (F:aH) (rows:List Rw) (ln:Nat) (seen:List Tx) (r:List Tx) (j:Nat) (a:Option Addr) (i:Nat) (w:World) (p:St w B H F rows ln seen) (hT:Tg w j 9 r.length (.slice a r.length i) (r.map str)) (hrl:∀ x∈r,x.length≤70000) (hw:r.length=width (r.getD 0 [])) (A:gB F seen) (s:width (r.getD 0 [])=2→r.getD 0 []∉seen) (q:F.bL.length+F.aliases.length+F.aX.length+F.rules.length+rows.length < 70000) (hk:r.getD 0 []=dP):dN Tryz.prog 65 (List.toArray [.pointer (some ⟨H.rb,0,none⟩),.slice a r.length i]) w (fP B H seen (bz H.eof F seen rows ln r) w) (fO B H (bz H.eof F seen rows ln r) w):=by
 have h:=xO B H F rows ln seen r j a i w p hT (by rw [hw,hk]; decide) hrl q
 rw [show bz H.eof F seen rows ln r=eK H.eof F rows ln r from by unfold bz; rw [hk]; rfl]
 exact h
theorem HM (B:Nat) (H:bM) (F:aH) (rows:List Rw) (ln:Nat) (seen:List Tx) (r:List Tx) (j:Nat) (a:Option Addr) (i:Nat) (w:World) (p:St w B H F rows ln seen) (hT:Tg w j 9 r.length (.slice a r.length i) (r.map str)) (hrl:∀ x∈r,x.length≤70000) (hw:r.length=width (r.getD 0 [])) (A:gB F seen) (s:width (r.getD 0 [])=2→r.getD 0 []∉seen) (q:F.bL.length+F.aliases.length+F.aX.length+F.rules.length+rows.length < 70000) (hk:r.getD 0 []=bO):dN Tryz.prog 65 (List.toArray [.pointer (some ⟨H.rb,0,none⟩),.slice a r.length i]) w (fP B H seen (bz H.eof F seen rows ln r) w) (fO B H (bz H.eof F seen rows ln r) w):=by
 have h:=xO B H F rows ln seen r j a i w p hT (by rw [hw,hk]; decide) hrl q
 rw [show bz H.eof F seen rows ln r=eK H.eof F rows ln r from by unfold bz; rw [hk]; rfl]
 exact h
theorem zO (B:Nat) (H:bM) (F:aH) (rows:List Rw) (ln:Nat) (seen:List Tx) (r:List Tx) (j:Nat) (a:Option Addr) (i:Nat) (w:World) (p:St w B H F rows ln seen) (hT:Tg w j 9 r.length (.slice a r.length i) (r.map str)) (hrl:∀ x∈r,x.length≤70000) (hw:r.length=width (r.getD 0 [])) (A:gB F seen) (s:width (r.getD 0 [])=2→r.getD 0 []∉seen) (q:F.bL.length+F.aliases.length+F.aX.length+F.rules.length+rows.length < 70000) {v:Value} (hv:eY (r.getD 0 [])=some v):∃ f:Nat,v= .agg [.int .i64 (width (r.getD 0 []):Nat),.func (.func f) #[] #[]].toArray∧aT Tryz.prog f∧dN Tryz.prog f (List.toArray [.pointer (some ⟨H.rb,0,none⟩),.slice a r.length i]) w (fP B H seen (bz H.eof F seen rows ln r) w) (fO B H (bz H.eof F seen rows ln r) w):=by
 unfold eY at hv
 by_cases hk:r.getD 0 []=bO
 · rw [if_pos hk] at hv; cases hv; exact ⟨_,by rw [hk]; rfl,xC,HM B H F rows ln seen r j a i w p hT hrl hw A s q hk⟩
 · rw [if_neg hk] at hv; clear hk
   by_cases hk:r.getD 0 []=dP
   · rw [if_pos hk] at hv; cases hv; exact ⟨_,by rw [hk]; rfl,xC,HJ B H F rows ln seen r j a i w p hT hrl hw A s q hk⟩
   · rw [if_neg hk] at hv; clear hk
     by_cases hk:r.getD 0 []=db
     · rw [if_pos hk] at hv; cases hv; exact ⟨_,by rw [hk]; rfl,Ec,HB B H F rows ln seen r j a i w p hT hrl hw A s q hk⟩
     · rw [if_neg hk] at hv; clear hk
       by_cases hk:r.getD 0 []=dD
       · rw [if_pos hk] at hv; cases hv; exact ⟨_,by rw [hk]; rfl,sw,HK B H F rows ln seen r j a i w p hT hrl hw A s q hk⟩
       · rw [if_neg hk] at hv; clear hk
         by_cases hk:r.getD 0 []=gu
         · rw [if_pos hk] at hv; cases hv; exact ⟨_,by rw [hk]; rfl,Eb,HG B H F rows ln seen r j a i w p hT hrl hw A s q hk⟩
         · rw [if_neg hk] at hv; clear hk
           by_cases hk:r.getD 0 []=im
           · rw [if_pos hk] at hv; cases hv; exact ⟨_,by rw [hk]; rfl,n7,HI B H F rows ln seen r j a i w p hT hrl hw A s q hk⟩
           · rw [if_neg hk] at hv; clear hk
             by_cases hk:r.getD 0 []=g6
             · rw [if_pos hk] at hv; cases hv; exact ⟨_,by rw [hk]; rfl,n7,HC B H F rows ln seen r j a i w p hT hrl hw A s q hk⟩
             · rw [if_neg hk] at hv; clear hk
               by_cases hk:r.getD 0 []=gP
               · rw [if_pos hk] at hv; cases hv; exact ⟨_,by rw [hk]; rfl,n7,HF B H F rows ln seen r j a i w p hT hrl hw A s q hk⟩
               · rw [if_neg hk] at hv; clear hk
                 by_cases hk:r.getD 0 []=gF
                 · rw [if_pos hk] at hv; cases hv; exact ⟨_,by rw [hk]; rfl,n7,HE B H F rows ln seen r j a i w p hT hrl hw A s q hk⟩
                 · rw [if_neg hk] at hv; clear hk
                   by_cases hk:r.getD 0 []=gv
                   · rw [if_pos hk] at hv; cases hv; exact ⟨_,by rw [hk]; rfl,n7,HH B H F rows ln seen r j a i w p hT hrl hw A s q hk⟩
                   · rw [if_neg hk] at hv; clear hk
                     by_cases hk:r.getD 0 []=fk
                     · rw [if_pos hk] at hv; cases hv; exact ⟨_,by rw [hk]; rfl,Ea,HN B H F rows ln seen r j a i w p hT hrl hw A s q hk⟩
                     · rw [if_neg hk] at hv; clear hk
                       by_cases hk:r.getD 0 []=eZ
                       · rw [if_pos hk] at hv; cases hv; exact ⟨_,by rw [hk]; rfl,D9,HL B H F rows ln seen r j a i w p hT hrl hw A s q hk⟩
                       · rw [if_neg hk] at hv; clear hk
                         by_cases hk:r.getD 0 []=eM
                         · rw [if_pos hk] at hv; cases hv; exact ⟨_,by rw [hk]; rfl,D8,HD B H F rows ln seen r j a i w p hT hrl hw A s q hk⟩
                         · rw [if_neg hk] at hv; clear hk
                           cases hv
theorem zM {s:Tx} (hv:eY s=none):width s=0:=by
 unfold eY at hv
 by_cases M:s=bO
 · rw [if_pos M] at hv; cases hv
 · rw [if_neg M] at hv
   by_cases G:s=dP
   · rw [if_pos G] at hv; cases hv
   · rw [if_neg G] at hv
     by_cases a:s=db
     · rw [if_pos a] at hv; cases hv
     · rw [if_neg a] at hv
       by_cases I:s=dD
       · rw [if_pos I] at hv; cases hv
       · rw [if_neg I] at hv
         by_cases A:s=gu
         · rw [if_pos A] at hv; cases hv
         · rw [if_neg A] at hv
           by_cases E:s=im
           · rw [if_pos E] at hv; cases hv
           · rw [if_neg E] at hv
             by_cases i:s=g6
             · rw [if_pos i] at hv; cases hv
             · rw [if_neg i] at hv
               by_cases q:s=gP
               · rw [if_pos q] at hv; cases hv
               · rw [if_neg q] at hv
                 by_cases p:s=gF
                 · rw [if_pos p] at hv; cases hv
                 · rw [if_neg p] at hv
                   by_cases C:s=gv
                   · rw [if_pos C] at hv; cases hv
                   · rw [if_neg C] at hv
                     by_cases O:s=fk
                     · rw [if_pos O] at hv; cases hv
                     · rw [if_neg O] at hv
                       by_cases J:s=eZ
                       · rw [if_pos J] at hv; cases hv
                       · rw [if_neg J] at hv
                         by_cases j:s=eM
                         · rw [if_pos j] at hv; cases hv
                         · rw [if_neg j] at hv
                           unfold width cJ; simp [j,J,O,C,p,q,i,E,A,I,a,G,M]
theorem tQ (s:Tx):eY s=none∨∃ (wd f:Nat),eY s=some (Value.agg #[.int .i64 (wd:Nat),.func (.func f) #[] #[]])∧width s=wd∧wd≠0:=by
 by_cases a:s=bO
 · exact .inr ⟨4,65,by unfold eY; rw [if_pos a],by rw [a]; decide,by decide⟩
 by_cases i:s=dP
 · exact .inr ⟨4,65,by unfold eY; rw [if_neg a,if_pos i],by rw [i]; decide,by decide⟩
 by_cases j:s=db
 · exact .inr ⟨2,64,by unfold eY; rw [if_neg a,if_neg i,if_pos j],by rw [j]; decide,by decide⟩
 by_cases p:s=dD
 · exact .inr ⟨2,63,by unfold eY; rw [if_neg a,if_neg i,if_neg j,if_pos p],by rw [p]; decide,by decide⟩
 by_cases q:s=gu
 · exact .inr ⟨2,62,by unfold eY; rw [if_neg a,if_neg i,if_neg j,if_neg p,if_pos q],by rw [q]; decide,by decide⟩
 by_cases A:s=im
 · exact .inr ⟨2,61,by unfold eY; rw [if_neg a,if_neg i,if_neg j,if_neg p,if_neg q,if_pos A],by rw [A]; decide,by decide⟩
 by_cases C:s=g6
 · exact .inr ⟨2,61,by unfold eY; rw [if_neg a,if_neg i,if_neg j,if_neg p,if_neg q,if_neg A,if_pos C],by rw [C]; decide,by decide⟩
 by_cases E:s=gP
 · exact .inr ⟨2,61,by unfold eY; rw [if_neg a,if_neg i,if_neg j,if_neg p,if_neg q,if_neg A,if_neg C,if_pos E],by rw [E]; decide,by decide⟩
 by_cases G:s=gF
 · exact .inr ⟨2,61,by unfold eY; rw [if_neg a,if_neg i,if_neg j,if_neg p,if_neg q,if_neg A,if_neg C,if_neg E,if_pos G],by rw [G]; decide,by decide⟩
 by_cases I:s=gv
 · exact .inr ⟨2,61,by unfold eY; rw [if_neg a,if_neg i,if_neg j,if_neg p,if_neg q,if_neg A,if_neg C,if_neg E,if_neg G,if_pos I],by rw [I]; decide,by decide⟩
 by_cases J:s=fk
 · exact .inr ⟨2,60,by unfold eY; rw [if_neg a,if_neg i,if_neg j,if_neg p,if_neg q,if_neg A,if_neg C,if_neg E,if_neg G,if_neg I,if_pos J],by rw [J]; decide,by decide⟩
 by_cases M:s=eZ
 · exact .inr ⟨2,59,by unfold eY; rw [if_neg a,if_neg i,if_neg j,if_neg p,if_neg q,if_neg A,if_neg C,if_neg E,if_neg G,if_neg I,if_neg J,if_pos M],by rw [M]; decide,by decide⟩
 by_cases O:s=eM
 · exact .inr ⟨2,58,by unfold eY; rw [if_neg a,if_neg i,if_neg j,if_neg p,if_neg q,if_neg A,if_neg C,if_neg E,if_neg G,if_neg I,if_neg J,if_neg M,if_pos O],by rw [O]; decide,by decide⟩
 refine .inl ?_
 unfold eY
 rw [if_neg a,if_neg i,if_neg j,if_neg p,if_neg q,if_neg A,if_neg C,if_neg E,if_neg G,if_neg I,if_neg J,if_neg M,if_neg O]
end Go.Hb.vC
end
section
set_option maxRecDepth 20000
set_option maxHeartbeats 1000000
namespace Go.Hb.oZ
open Go.Hb.di
open Go.Proofs
open Go.Hb.gl Go.Hb.fQ
theorem Hg {α:Type} {l:List α} {i:Nat} {d:α} (h:i < l.length):l.getD i d∈l:=by
 rw [List.getD_eq_getElem?_getD,List.getElem?_eq_getElem h]; exact List.getElem_mem h
def gk (n:Nat) (ls:List (List UInt8)):List (Nat×List UInt8):=(ls.zipIdx n).map fun q=>(q.2,q.1)
theorem Jo (n:Nat) (l:List UInt8) (ls:List (List UInt8)):gk n (l::ls)=(n,l)::gk (n+1) ls:=by simp [gk,List.zipIdx_cons]
theorem Jp (n:Nat):gk n []= []:=rfl
theorem uj (n:Nat) (ls:List (List UInt8)):(gk n ls).map Prod.snd=ls:=by
 unfold gk; rw [List.map_map]; exact List.zipIdx_map_fst n ls
theorem Ar (n:Nat) (ls:List (List UInt8)):(gk n ls).length=ls.length:=by simp [gk]
def p9 (x:Nat×List UInt8):Array Value:= #[.int .i64 x.1,str x.2]
theorem ui {ls:List (List UInt8)} {n:Nat} {pre:List (Nat×List UInt8)} {x:Nat×List UInt8} {rest:List (Nat×List UInt8)} (h:gk n ls=pre++x::rest):pre.length < ls.length∧x.1=n+pre.length∧ls=pre.map Prod.snd++x.2::rest.map Prod.snd:=by
 have h1:=congrArg List.length h
 rw [Ar,List.length_append,List.length_cons] at h1
 have h2:=congrArg (List.map Prod.snd) h
 rw [uj,List.map_append,List.map_cons] at h2
 refine ⟨by omega,?_,h2⟩
 have h3:=congrArg (fun l=>l[pre.length]?) h
 simp only [gk,List.getElem?_map,List.getElem?_zipIdx,List.getElem?_append_right (Nat.le_refl _),Nat.sub_self,List.getElem?_cons_zero] at h3
 cases h4:ls[pre.length]? with
 | none=>rw [h4] at h3; cases h3
 | some q=>rw [h4] at h3; cases h3; rfl
theorem yt (s:List UInt8) (w:World):
 aU Tryz.prog 56 (List.toArray [str s]) w (fun v w'=> ∃ b,v= .func (.func 88) #[] #[aG b]∧w.heap.size≤b∧w'.heap[b]? =some (.cells [str s].toArray 9 (0,0))∧Wk w w'):=by
 refine enter Tryz.func56 rfl Tryz.ntmps56 rfl ?_
 refine U (fun _ a=>(e (C2 rfl rfl fun j w1 A q hB1=>ae (((a _ _ (U (fun _ i=> ?_))))))))
 exact p I9 (ae (((i _ _ (rt (f1 rfl rfl (⟨j,rfl,by omega,hB1,q.md⟩)))))))
theorem F8 (s:List UInt8) (b:Nat) (hs:s.length≤65536) (l:Nat) (a:List (Nat×List UInt8)→World→Prop) (w:World) (h0:a [] w) (ap:∀ pre W,a pre W→W.heap[b]? =some (.cells [str s].toArray 9 (0,0))) (bC:∀ pre W1 A,a pre W1→Wk W1 A→a pre A) (hy:∀ pre x rest W1,(gk 1 (a6 s))=pre++x::rest→a pre W1→YieldAt Fence.wide 0 Tryz.prog l (p9 x) W1 fun e W'=>e= .returned (.bool true)∧a (pre++ [x]) W'):
 aU Tryz.prog 88 (List.toArray [.func (.yield l) #[] #[],aG b]) w (fun v w'=>a (gk 1 (a6 s)) w'):=by
 have hb0:=ap _ _ h0
 refine enter Tryz.func88 rfl Tryz.ntmps88 rfl ?_
 refine sq (fun _ I=>U (fun _ M=>(p (ld bw rfl ((aO hb0).trans rfl)) (p (bI u9 rfl rfl) (p (gt rfl rfl) (ag ((M _ _ ?_))))))))
 refine cd rfl (fun h=>absurd h (by omega)) (fun hc10=> ?_)
 refine au (tn (I _ _ (U (fun _ O=>(p (ld bw rfl ((aO hb0).trans rfl)) (e (cl El (LG s lX _ (by omega) (by decide)) rfl fun cB w12 al=> ?_)))))))
 obtain ⟨rfl,hE12⟩:=al
 refine ae (((O _ _ (U (fun _ V=>(ae (((V _ _ ?_)))))))))
 refine az (lp (fun C j wI=> ∃ (r:List UInt8) (pre:List (Nat×List UInt8)),(r.length≤s.length)∧((gk 1 (a6 s))=pre++gk (pre.length+1) (dX [] r))∧(a pre wI)∧(pre.length≤s.length)∧(j 0= .func (.yield l) #[] #[])∧(j 3=str r)∧(j 4=aa (pre.length+1))∧(r.length=C)) _ ⟨gT s,[],(rG s),rfl,(bC _ _ _ h0 hE12),(Nat.zero_le _),rfl,rfl,(iv (by first | rfl | (rw [List.length_append]; rfl))),rfl⟩ ?_)
 rintro C j wI ⟨r,pre,ax,G,E,hpl,ar,av,aw,rfl⟩
 refine fx 0 ar (fx 3 av (fx 4 aw (sq (fun _ Y=>U (fun _ Z=>(ab (str r) (p (ky rfl rfl) (ag ((Z _ _ ?_))))))))))
 refine cd rfl (fun i=> ?_) (fun i=> ?_)
 have q:(gk 1 (a6 s))=pre++(pre.length+1,fX (jb 10 r))::gk (pre.length+2) (dX [] (jT 10 r)):=by rw [G,IU i,Jo]
 have hrl:=Fy (c:=10) i
 have hal:=Ft 10 r
 refine au (tn (Y _ _ (sq (fun _ ac=>az (U (fun _ ah=>(ab (str r) (e (cl Em (Fz r 10 _ (by omega)) rfl fun ay w19 am=> ?_)))))))))
 obtain ⟨rfl,ak⟩:=am
 refine p mv (p (xt rfl rfl) (p (xt rfl rfl) (p (xt rfl rfl) (p aj (p aj (p aj (nl ?_)))))))
 refine tn (ah _ _ (U (fun _ ai=>(p mv (ae (((ai _ _ (sq (fun _ J=> ?_))))))))))
 refine Kp ?_
 refine py rfl (aB (.func (.yield l) #[] #[]) rfl) ?_
 refine py rfl (aB (aa (pre.length+1)) rfl) ?_
 refine py rfl mv ?_
 refine ey rfl (cl En (LI (jb 10 r) _ (by omega)) rfl fun aA aC an=> ?_)
 obtain ⟨rfl,hE27⟩:=an
 have hJ27:=bC _ _ _ E (Md.trans ak hE27)
 refine Mj rfl rfl (hy pre (pre.length+1,fX (jb 10 r)) _ _ q hJ27) (fun w28 ao=> ?_)
 refine py rfl (no rfl) ?_
 refine Jj ?_
 refine tn (J _ _ (cf (rfl) (au (bn (tn (ac _ _ (rg rfl (ab (aa (pre.length+1)) (p (a9 ((pre.length+2:Nat):Int) rfl rfl (aQ (by omega) (by omega))) ?_)))))))))
 exact ae (((⟨_,by omega,jT 10 r,pre++ [(pre.length+1,fX (jb 10 r))],(by omega),((by rw [q,List.append_assoc,List.length_append]; rfl)),ao,((by have h1:=ui q; have h2:=jZ s; rw [List.length_append,List.length_singleton]; omega)),rfl,rfl,(iv (by first | rfl | (rw [List.length_append]; rfl))),rfl⟩)))
 refine ext (te _ (te _ (be (f0 rfl ?_))))
 show a (gk 1 (a6 s)) wI
 have aq:r= []:=Decidable.of_not_not i
 rw [G,aq,uc,Jp,List.append_nil]
 exact E
theorem yr (s:List UInt8) (b:Nat) (hs:s.length≤65536):vE Tryz.prog 88 #[.pointer (some ⟨b,0,none⟩)] p9 (gk 1 (a6 s)) (fun W=>W.heap[b]? =some (.cells [str s].toArray 9 (0,0))):=
 fun l a W h0 i bC hy=>Calls.mono (F8 s b hs l a W h0 i bC hy) fun e w' ⟨v,he,hj⟩=>⟨⟨v,he⟩,hj⟩
theorem Bx (s:List UInt8) (w:World) (hs:s.length≤1048576):
 aU Tryz.prog 30 (List.toArray [str s]) w (fun v w'=>(∃ a,v= .tuple #[a,.int .i64 (if 65536 < s.length then 10 else 0)]∧(if 65536 < s.length then a= .slice none 0 0 else World.ownsRow w' w.heap.size 9 1 (a) ((a6 s)).length (((a6 s)).map str)))∧Wk w w'):=by
 refine yC [] Tryz.func30 rfl Tryz.ntmps30 rfl ?_
 refine e5 ?_
 refine fL ?_
 refine rg rfl (p aj (p aj (nl (fq ?_))))
 refine e5 ?_
 refine e5 ?_
 refine fL ?_
 refine rg rfl (p (aB (str s) rfl) (p (bI u9 rfl rfl) (p (gt rfl rfl) (nl (fq ?_)))))
 refine fL ?_
 refine cd rfl (fun an=> ?_) (fun an=> ?_)
 refine sq (fun ar al=>rg rfl (p aj (p aj (nl (tn (al _ _ (rt (uG ?_))))))))
 refine yF rfl rfl rfl ?_
 have hl:65536 < s.length:=by omega
 exact ⟨⟨.slice none 0 0,by show Value.tuple #[.slice none 0 0,.int .i64 10]=_; rw [if_pos hl],by rw [if_pos hl]⟩,Md.refl _ _⟩
 refine au (fq ?_)
 refine e5 ?_
 refine fL ?_
 refine rg rfl (e (fH Mo fun aa w4 ax am ac=>nl (fq ?_)))
 refine e5 ?_
 refine e5 ?_
 refine fL ?_
 refine rg rfl (p (aB (str s) rfl) (e (cl xB (yt s _) rfl fun v11 w11 hR11=> ?_)))
 obtain ⟨O,rfl,hb11,ab,ae⟩:=hR11
 have E:Wk w w11:=Md.trans am.md ae
 have hb4x:=ae.az ac
 have hb11l:=(Array.getElem?_eq_some_iff.1 ab).1
 have aA:aa < w4.heap.size:=(Array.getElem?_eq_some_iff.1 ac).1
 have hl:s.length≤65536:=by omega
 refine nl (fq ?_)
 apply A0 (p9) ((gk 1 (a6 s))) (fun W=>W.heap[O]? =some (.cells [str s].toArray 9 (0,0))) (fun pre q=> ∃ v,q.heap[aa]? =some (.cells [v].toArray 48 (0,0))∧World.ownsRow q w11.heap.size 9 1 v pre.length ((pre.map Prod.snd).map str)∧q.heap[O]? =some (.cells [str s].toArray 9 (0,0))∧w11.heap.size≤q.heap.size∧Wk w q) rfl xI (fun _=>rfl) (yr s O hl) (⟨.slice none 0 0,hb4x,World.ownsRow_nil _ _ _ _,ab,Nat.le_refl _,E⟩) (fun _ _ ⟨_,_,_,h,_⟩=>h) (fun pre A C F ⟨v,h1,h2,h3,h5,h4⟩ hm hF=>⟨v,rr h1 hm hF,BC h2 hm hF,rr h3 hm hF,Nat.le_trans h5 hm.size,BD h4 hm E.size hF⟩)
 intro l x q K G
 exact rg rfl (p (bG (str x.2) rfl) (nl (tn (G))))
 intro l pre x rest q ao V
 obtain ⟨v,M,j,Y,hsz,U⟩:=V
 obtain ⟨hpl,hx1,aC⟩:=ui ao
 have hll:=jZ s
 have hsR:=(Array.getElem?_eq_some_iff.1 Y).1
 refine az (rg rfl (p (ld gd rfl ((aO M).trans rfl)) (p mv (e (ea dU rfl rfl fun av w16 hb16 i ag=> ?_)))))
 have ah:Wk w w16:=Md.trans U i.md
 have hb16:=i.md.az M
 refine e (ap dU (aE j i.md) rfl (Nat.le_trans hsz i.md.size) rfl (ak.cQ ag) (rfl) (rfl) (by omega) (by omega) fun aq w17 Z I aD ay=> ?_)
 have hE17:=Wk.own ah (aE j i.md) I E.size
 have hbt17:=I.az (i.md.az Y) (fun h=>by have :=c7 (aE j i.md) h; omega)
 have hb17:=I.az hb16 (fun h=>cg (aE j i.md) hb16 (by decide) h)
 refine e (ca x4 rfl rfl (dT Z) hb17 (by simp) fun w6 J hB6=> ?_)
 have ai:Wk w w6:=Md.trans' hE17 J (fun k hk h=>by omega)
 exact nl (bn (⟨(gz.wk i.md).trans ((gz.md I (oD (aE j i.md))).trans (gz.md J (fun k hk=>⟨_,_,_,hk ▸ hb17⟩))),aq,hB6,bW (by rw [List.map_append,List.map_append,List.length_append]; exact Z) J (fun k hk h=>cg Z hb17 (by decide) (h ▸ hk)),J.az hbt17 (fun h=>by omega),Nat.le_trans hsz (Nat.le_trans i.md.size (Nat.le_trans I.size J.size)),ai⟩))
 intro D q aw V G
 obtain ⟨v,M,j,Y,hsz,U⟩:=V
 have hlt:=(Array.getElem?_eq_some_iff.1 G).1
 refine fq ?_
 refine e5 ?_
 refine fL ?_
 refine rg rfl (p (ld gd rfl ((aO M).trans rfl)) (p aj (p aj (nl (fq ?_)))))
 refine uP ?_
 refine yG rfl rfl rfl G ?_
 have hl:¬65536 < s.length:=by omega
 rw [uj,Ar] at j
 exact ⟨⟨v,by show Value.tuple #[v,.int .i64 0]=_; rw [if_neg hl],by rw [if_neg hl]; exact fZ (bW j (nq _ _ _) (fun k hk h=>by obtain ⟨c,e,z,h1⟩:=oD j k hk; rw [h,G] at h1; cases h1)) E.size⟩,Md.trans' U (nq _ _ _) (fun k hk h=>by have :=E.size; omega)⟩
end Go.Hb.oZ
end
section
set_option maxRecDepth 20000
set_option maxHeartbeats 1000000
namespace Go.Hb.o4
open Go.Hb.di
open Go.Proofs
open Go.Hb.gl Go.Hb.fQ Go.Hb.oZ
set_option maxHeartbeats 1000000 in
theorem A1 (s:List UInt8) (w:World) (hs:s.length≤1048576):
 aU Tryz.prog 29 (List.toArray [str s]) w (fun v w'=>(∃ a,v= .tuple #[a,.int .i64 (if 65536 < s.length then 10 else 0)]∧(if 65536 < s.length then a= .slice none 0 0 else ∃ vs,World.ownsRow w' w.heap.size 105 2 a (bd s).length (gJ vs)∧eI w' w.heap.size 9 vs (bd s)))∧Wk w w'):=by
 refine yC [] Tryz.func29 rfl Tryz.ntmps29 rfl ?_
 refine e5 ?_
 refine fL ?_
 refine rg rfl (p aj (p aj (nl (fq ?_))))
 refine e5 ?_
 refine e5 ?_
 refine fL ?_
 refine rg rfl (p (aB (str s) rfl) (p (bI u9 rfl rfl) (p (gt rfl rfl) (nl (fq ?_)))))
 refine fL ?_
 refine cd rfl (fun a0=> ?_) (fun a0=> ?_)
 refine sq (fun ax Z=>rg rfl (p aj (p aj (nl (tn (Z _ _ (rt (uG ?_))))))))
 refine yF rfl rfl rfl ?_
 have hl:65536 < s.length:=by omega
 exact ⟨⟨.slice none 0 0,by show Value.tuple #[.slice none 0 0,.int .i64 10]=_; rw [if_pos hl],by rw [if_pos hl]⟩,Md.refl _ _⟩
 refine au (fq ?_)
 refine e5 ?_
 refine fL ?_
 refine rg rfl (e (fH Mp fun ae w4 bz aX aC=>nl (fq ?_)))
 refine e5 ?_
 refine e5 ?_
 refine fL ?_
 refine rg rfl (p (aB (str s) rfl) (e (cl xB (yt s _) rfl fun bH w14 aY=> ?_)))
 obtain ⟨ai,rfl,hb14,aA,hE14⟩:=aY
 have U:Wk w w14:=Md.trans aX.md hE14
 have bE:ae < w4.heap.size:=(Array.getElem?_eq_some_iff.1 aC).1
 have hb4x:=hE14.az aC
 have hb14l:=(Array.getElem?_eq_some_iff.1 aA).1
 have hl:s.length≤65536:=by omega
 refine nl (fq ?_)
 apply A0 (p9) ((gk 1 (a6 s))) (fun W=>W.heap[ai]? =some (.cells [str s].toArray 9 (0,0))) (fun pre I=> ∃ v vs,I.heap[ae]? =some (.cells [v].toArray 74 (0,0))∧World.ownsRow I w14.heap.size 105 2 v (hY 1 (pre.map Prod.snd)).length (gJ vs)∧eI I w14.heap.size 9 vs (hY 1 (pre.map Prod.snd))∧I.heap[ai]? =some (.cells [str s].toArray 9 (0,0))∧w14.heap.size≤I.heap.size∧Wk w I) rfl xI (fun _=>rfl) (yr s ai hl) (⟨.slice none 0 0,[],hb4x,World.ownsRow_nil _ _ _ _,eI.nil _ _ _,aA,Nat.le_refl _,U⟩) (fun _ _ ⟨_,_,_,_,_,h,_⟩=>h) (fun pre A C F ⟨v,vs,h1,h2,aK,h3,h5,h4⟩ hm hF=>⟨v,vs,rr h1 hm hF,BC h2 hm hF,aK.md hm (fun k hk cur z=>(hF k hk).2 cur _ z),rr h3 hm hF,Nat.le_trans h5 hm.size,BD h4 hm U.size hF⟩)
 intro l x I K V
 refine sq (fun ax Z=>rg rfl (p (bG (.int .i64 x.1) rfl) (nl (tn (Z _ _ (rg rfl (p (bG (str x.2) rfl) (nl ?_))))))))
 exact tn (V)
 intro l pre x rest I bk an
 obtain ⟨v,vs,ar,ab,hrw,aq,hsz,am⟩:=an
 obtain ⟨hpl,hx1,bm⟩:=ui bk
 have hll:=jZ s
 have hsR:=(Array.getElem?_eq_some_iff.1 aq).1
 have hxl:x.2.length≤s.length:=tZ (by rw [bm]; simp)
 have hfl:=od x.2 []
 have hrl:=uM (pre.map Prod.snd) 1
 rw [List.length_map] at hrl
 refine az (sq (fun ax Z=>rg rfl (p mv (e (cl D7 (Gy x.2 _ (by omega)) rfl fun bJ w18 aZ=> ?_)))))
 obtain ⟨aa,aN⟩:=aZ
 obtain ⟨j,ag,rfl⟩:=bU aa
 have hS18:=(aI aa).2
 have hc18:=(aI aa).1
 refine p aj (nl (tn (Z _ _ ?_)))
 refine cX (fun ah wC=> ∃ (n cp:Nat),(n≤(bB [] x.2).length)∧(n≤cp)∧(jY (bB [] x.2)=(bB [] x.2).take n)∧(Wk w18 wC)∧(ah 4= .pointer (some ⟨ae,0,none⟩))∧(ah 5= .int .i64 x.1)∧(ah 7= .slice j n cp)) ?_ ?_
 refine sq (fun aG ao=>rg rfl (p mv (p (ba c9 rfl rfl) (p mv (nl (tn (ao _ _ (az ?_))))))))
 refine lp (fun ay O wI=> ∃ (i:Nat),(i≤(bB [] x.2).length)∧(∀ q,q < i→oJ ((bB [] x.2).getD q [])=false)∧(Wk w18 wI)∧(O 4= .pointer (some ⟨ae,0,none⟩))∧(O 5= .int .i64 x.1)∧(O 7= .slice j (bB [] x.2).length ag)∧(O 19= .slice j (bB [] x.2).length ag)∧(O 20= .int .i64 (bB [] x.2).length)∧(O 21= .int .i64 i)∧((bB [] x.2).length - i=ay)) _ ⟨0,(by omega),((fun q a4=>by omega)),(Md.refl _ _),rfl,rfl,rfl,rfl,rfl,rfl,rfl⟩ ?_
 rintro ay O wI ⟨i,hi,aw,Y,bg,bi,bj,bb,bc,bf,rfl⟩
 refine fx 4 bg (fx 5 bi (fx 7 bj (fx 19 bb (fx 20 bc (fx 21 bf (sq (fun bq aQ=>rg rfl (p (lt rfl rfl) (nl (tn (aQ _ _ (sq (fun br aR=>cd rfl (fun a1=> ?_) (fun a1=> ?_))))))))))))))
 refine au (tn (aR _ _ (sq (fun bs aS=>az (sq (fun bt aT=>rg rfl (p (aB (.int .i64 i) rfl) (p (aJ bA rfl rfl (by omega) (ak.ok (hS18.wk Y) (bl (by omega)))) ?_))))))))
 refine p (ld bw rfl (bh.get (i:=i) (hS18.wk Y) (by omega))) (p (bG (.int .i64 i) rfl) (p aj (nl (tn (aT _ _ (sq (fun bu aV=>rg rfl (p mv ?_))))))))
 refine p (fz 0 u9 rfl rfl (List.length_pos_iff.2 (ti _ _ _ (Hg (by omega))).1)) (p (a8 rfl rfl) (nl (tn (aV _ _ (cd rfl (fun a2=> ?_) (fun a2=> ?_))))))
 refine sq (fun bv aW=>rg rfl (p (aB (.slice j (bB [] x.2).length ag) rfl) (p (aB (.int .i64 i) rfl) (p (aB (.int .i64 i) rfl) (p (EG bA rfl rfl rfl (by omega)) (p aj (nl ?_)))))))
 exact tn (aW _ _ (ext (kj (by decide) (te _ (te _ (be (tn (⟨i,i,hi,(Nat.le_refl _),(qJ hi aw (.inr (decide_eq_true (by omega)))),Y,rfl,rfl,rfl⟩))))))))
 refine au (bn (tn (aS _ _ (rg rfl (p (ad rfl rfl (bp (by omega))) (p mv (nl (tn ?_))))))))
 exact ⟨_,by omega,i+1,(by omega),((fun q a4=>by rcases Nat.lt_or_ge q i with h | h <;> first | exact aw q h | (rw [show q=i by omega]; exact decide_eq_false (by omega)))),Y,rfl,rfl,rfl,rfl,rfl,rfl,rfl⟩
 exact ext (te _ (te _ (be (tn (⟨(bB [] x.2).length,ag,(Nat.le_refl _),hc18,((by have h:=qJ hi aw (.inl (by omega)); rwa [show i=(bB [] x.2).length from by omega] at h)),Y,rfl,rfl,rfl⟩)))))
 rintro ah wC ⟨n,cp,hn,hcp,aF,al,a5,a7,a9⟩
 refine fx 4 a5 (fx 5 a7 (fx 7 a9 ?_))
 have E:Wk I wC:=Md.trans aN al
 have hbC:=E.az ar
 have hovC:=aE ab E
 have hrwC:=hrw.wk E
 have hbtC:=E.az aq
 have aD:Wk w wC:=Md.trans am E
 refine sq (fun aG ao=>rg rfl (p (aB (.slice j n cp) rfl) (p (ba c9 rfl rfl) (p (gt rfl rfl) (nl (tn (ao _ _ (cd rfl (fun a3=> ?_) (fun a3=> ?_)))))))))
 have ac:g7 x.2 (1 +pre.length)= [(x.1,(bB [] x.2).take n)]:=by unfold g7; rw [aF,if_neg (fun h=>by have h:=congrArg List.length h; rw [List.length_take,List.length_nil] at h; omega),← hx1]
 refine rg rfl (p (ld mZ rfl ((aO hbC).trans rfl)) (p (aB (.int .i64 x.1) rfl) (p (aB (.slice j n cp) rfl) (p (bY (ps:= [(0,.int .i64 x.1),(1,.slice j n cp)]) (L:= [.int .i64 x.1,.slice j n cp]) Lg rfl (rfl)) (e (ib Bt rfl rfl rfl fun aH w41 hb41 G aL=> ?_))))))
 have aM:bD w41.heap aH [.int .i64 x.1,.slice j n cp]:=aL
 have hE41:Wk w w41:=Md.trans aD G.md
 have hov41:=aE hovC G.md
 have hb41:=G.md.az hbC
 refine e (ap Bt (hov41) rfl (by have :=G.size; have :=E.size; omega) rfl (ak.cQ aM) (rfl) (rfl) (by omega) (by omega) fun bo w42 av J bF bC=> ?_)
 have hE42:=Wk.own hE41 hov41 J U.size
 have hbt42:=J.az (G.md.az hbtC) (fun h=>by have :=c7 hov41 h; omega)
 have hb42:=J.az hb41 (fun h=>cg hov41 hb41 (by decide) h)
 have hrw42:=(hrwC.wk G.md).md J (eN hov41 (by decide))
 have ho42f:=bW (aE (aE aa al) G.md) J (fun k hk=>jh (aE (aE aa al) G.md) hov41 (by decide) hk)
 refine e (ca x6 rfl rfl (dT av) hb42 (by simp) fun w6 M hB6=> ?_)
 have aP:Wk w w6:=Md.trans' hE42 M (fun k hk h=>by omega)
 have hrw6:=(hrw42.md M (dK hb42 (by decide))).snoc (n:=x.1) (r:=(bB [] x.2).take n) (v:= .slice j n cp) (by rw [List.length_take,Nat.min_eq_left hn,List.map_take]; exact (Tg.fT (fZ (bW ho42f M (fun k hk h=>cg ho42f hb42 (by decide) (h ▸ hk))) hsz)).clip hcp)
 exact nl (bn (⟨(gz.wk E).trans ((gz.wk G.md).trans ((gz.md J (oD hov41)).trans (gz.md M (fun k hk=>⟨_,_,_,hk ▸ hb42⟩)))),bo,vs++ [(x.1,.slice j n cp)],hB6,(by rw [List.map_append,show [x].map Prod.snd= [x.2] from rfl,jF,List.length_map,ac]; rw [List.length_append,uR]; exact bW av M (fun k hk h=>cg av hb42 (by decide) (h ▸ hk))),(by rw [List.map_append,show [x].map Prod.snd= [x.2] from rfl,jF,List.length_map,ac]; exact hrw6),M.az hbt42 (fun h=>by omega),Nat.le_trans hsz (Nat.le_trans E.size (Nat.le_trans G.md.size (Nat.le_trans J.size M.size))),aP⟩))
 have ac:g7 x.2 (1 +pre.length)= []:=by unfold g7; rw [aF,if_pos (by rw [show n=0 by omega]; rfl)]
 exact au (bn (⟨gz.wk E,v,vs,hbC,(by rw [List.map_append,show [x].map Prod.snd= [x.2] from rfl,jF,List.length_map,ac]; rw [List.append_nil]; exact hovC),(by rw [List.map_append,show [x].map Prod.snd= [x.2] from rfl,jF,List.length_map,ac]; rw [List.append_nil]; exact hrwC),hbtC,Nat.le_trans hsz E.size,aD⟩))
 intro D I bx an V
 obtain ⟨v,vs,ar,ab,hrw,aq,hsz,am⟩:=an
 have hlt:=(Array.getElem?_eq_some_iff.1 V).1
 refine fq ?_
 refine e5 ?_
 refine fL ?_
 refine rg rfl (p (ld mZ rfl ((aO ar).trans rfl)) (p aj (p aj (nl (fq ?_)))))
 refine uP ?_
 refine yG rfl rfl rfl V ?_
 have hl:¬65536 < s.length:=by omega
 rw [uj] at ab hrw
 exact ⟨⟨v,by show Value.tuple #[v,.int .i64 0]=_; rw [if_neg hl],by rw [if_neg hl]; exact ⟨vs,fZ (bW ab (nq _ _ _) (fun k hk h=>by obtain ⟨c,e,z,h1⟩:=oD ab k hk; rw [h,V] at h1; cases h1)) U.size,(hrw.md (nq _ _ _) (fun k hk cur z=>by rw [hk,V]; simp)).mono U.size⟩⟩,Md.trans' am (nq _ _ _) (fun k hk h=>by have :=U.size; omega)⟩
end Go.Hb.o4
end
section
set_option maxRecDepth 20000
set_option maxHeartbeats 1000000
namespace Go.Hb.lr
open Go.Hb.di
open Go.Proofs
open Go.Hb.eS Go.Hb.fE Go.Hb.iQ Go.Hb.fN Go.Hb.iw Go.Hb.jN Go.Hb.kK Go.Hb.j7 Go.Hb.vB Go.Hb.gU Go.Hb.vC Go.Hb.o4 Go.Hb.oZ Go.Hb.gl Go.Hb.fQ
theorem lS {eof ln:Nat} {F F':aH} {hs:List Tx} {rows rows':List Rw} {row:List Tx} (a:bz eof F hs rows ln row= .ok (F',rows')):rows'.length≤rows.length:=by
 unfold bz at a
 repeat' split at a
 · unfold gK at a; split at a; cases a; cases a; exact Nat.le_refl _
 · unfold gQ at a; repeat' split at a
   all_goals first | (cases a; done) | (cases a; exact Nat.le_refl _)
 · unfold jH at a; split at a; cases a; cases a; exact Nat.le_refl _
 · unfold jM at a; split at a; cases a; cases a; exact Nat.le_refl _
 · unfold g8 at a; repeat' split at a
   all_goals first | (cases a; done) | (cases a; exact Nat.le_refl _)
 · unfold gI at a; repeat' split at a
   all_goals first | (cases a; done) | (cases a; exact (tM _ _ _ (by assumption)).1)
 · unfold gn at a; repeat' split at a
   all_goals first | (cases a; done) | (cases a; exact (tM _ _ _ (by assumption)).1)
 · unfold eK at a; repeat' split at a
   all_goals first | (cases a; done) | (cases a; exact (tM _ _ _ (by assumption)).1)
theorem nw {eof k:Nat} {F:aH} {hs:List Tx} :eE eof k F hs []= .ok F:=by cases k <;> simp [eE]
section
variable {eof k n:Nat} {F:aH} {hs:List Tx} {r:List Tx} {rest:List Rw} {T:Except (Nat×Nat) aH} (h:eE eof k F hs ((n,r)::rest)=T) (hk:rest.length+1≤k)
include h hk
theorem AS (h0:width (r.getD 0 [])=0):T= .error (n,110):=by
 obtain ⟨m,rfl⟩:∃ m,k=m+1:=⟨k - 1,by omega⟩
 rw [← h,eE,if_pos h0]
theorem AT (h0:width (r.getD 0 [])≠0) (h1:r.length≠width (r.getD 0 [])):T= .error (n,111):=by
 obtain ⟨m,rfl⟩:∃ m,k=m+1:=⟨k - 1,by omega⟩
 rw [← h,eE,if_neg h0,if_pos h1]
theorem uI (h0:width (r.getD 0 [])≠0) (h1:r.length=width (r.getD 0 [])) (h2:width (r.getD 0 [])≠4) (h3:r.getD 0 []∈hs):T= .error (n,112):=by
 obtain ⟨m,rfl⟩:∃ m,k=m+1:=⟨k - 1,by omega⟩
 have hw:width (r.getD 0 [])=2:=by
  unfold width at h0 h2 ⊢
  split
  · rfl
  · rename_i hn
    rw [if_neg hn] at h0 h2
    split at h2
    · exact absurd rfl h2
    · rename_i a; rw [if_neg a] at h0; exact absurd rfl h0
 rw [← h,eE,if_neg h0,if_neg (fun h4=>h4 h1),if_pos ⟨hw,h3⟩]
theorem uJ {e:Nat×Nat} (h0:width (r.getD 0 [])≠0) (h1:r.length=width (r.getD 0 [])) (h2:width (r.getD 0 [])=2→r.getD 0 []∉hs) (h3:bz eof F hs rest n r= .error e):T= .error e:=by
 obtain ⟨m,rfl⟩:∃ m,k=m+1:=⟨k - 1,by omega⟩
 rw [← h,eE,if_neg h0,if_neg (fun h4=>h4 h1),if_neg (fun h4=>h2 h4.1 h4.2),h3]
theorem uK {F':aH} {rows':List Rw} (h0:width (r.getD 0 [])≠0) (h1:r.length=width (r.getD 0 [])) (h2:width (r.getD 0 [])=2→r.getD 0 []∉hs) (h3:bz eof F hs rest n r= .ok (F',rows')):eE eof (k - 1) F' (hs++ [r.getD 0 []]) rows'=T∧rows'.length≤k - 1:=by
 obtain ⟨m,rfl⟩:∃ m,k=m+1:=⟨k - 1,by omega⟩
 refine ⟨?_,by have :=lS h3; omega⟩
 rw [← h,eE,if_neg h0,if_neg (fun h4=>h4 h1),if_neg (fun h4=>h2 h4.1 h4.2),h3]; rfl
end
theorem vQ {s:Tx} (h:65536 < s.length):eJ s= .error (0,10):=by unfold eJ; rw [if_pos h]
theorem kh {s:Tx} {e:Nat×Nat} (h:¬65536 < s.length) (h1:eE ((a6 s).length+1) (bd s).length fG [] (bd s)= .error e):eJ s= .error e:=by unfold eJ; rw [if_neg h,h1]
theorem rQ {s:Tx} {F:aH} {q:eH} (h:¬65536 < s.length) (h1:eE ((a6 s).length+1) (bd s).length fG [] (bd s)= .ok F) (h2:F.rules.find? (jR F)=some q):eJ s= .error (q.line,118):=by unfold eJ; rw [if_neg h,h1]; simp only; rw [h2]
theorem vS {s:Tx} {F:aH} (h:¬65536 < s.length) (h1:eE ((a6 s).length+1) (bd s).length fG [] (bd s)= .ok F) (h2:F.rules.find? (jR F)=none):eJ s= .ok F:=by unfold eJ; rw [if_neg h,h1]; simp only; rw [h2]
def lU (s:Tx):Value:=match eY s with | some (.agg cs)=>cs.getD 1 .nilFunc | _=> .nilFunc
theorem HR (s:Tx):(eY s).getD (.agg #[.int .i64 0,.nilFunc])= .agg [.int .i64 (width s:Nat),lU s].toArray∧(eY s).isSome=decide (width s≠0):=by
 rcases tQ s with h | ⟨wd,f,h,hw,h0⟩
 · have h0:=zM h
   unfold lU
   rw [h,h0]; exact ⟨rfl,rfl⟩
 · unfold lU
   rw [h,hw,decide_eq_true h0]; exact ⟨rfl,rfl⟩
theorem HX (s:Tx):[Value.int .i64 (width s:Nat),lU s].all Value.oneCell'=true :=by
 rcases tQ s with h | ⟨wd,f,h,hw,h0⟩ <;> unfold lU <;> rw [h] <;> rfl
theorem zL {s:Tx} (h:width s≠0):∃ v,eY s=some v∧∀ (wd:Nat) (f:Nat),v= .agg [.int .i64 (wd:Nat),.func (.func f) #[] #[]].toArray→lU s= .func (.func f) #[] #[]:=by
 rcases tQ s with h1 | ⟨wd,f,h1,hw,h0⟩
 · exact absurd (zM h1) h
 · refine ⟨_,h1,fun i a he=> ?_⟩
   unfold lU
   rw [h1,he]; rfl
theorem Ba {f:Value→Option Value} {seen:List Tx} (k:Tx) (hf:∀ s:Tx,(f (str s)).getD (.int .i64 0)= .int .i64 (seen.count s:Nat)) (s:Tx):(bg f (str k) (.int .i64 (seen.count k+1:Nat)) (str s)).getD (.int .i64 0)= .int .i64 ((seen++ [k]).count s:Nat):=by
 rw [List.count_append]
 by_cases h:s=k
 · subst h; rw [oF]; simp
 · rw [nv (fun h2=>h (str_inj.1 h2)),hf s,List.count_singleton,show (k==s)=false from by simpa using fun h2=>h h2.symm]; rfl
theorem bS.A9 {w w':World} {B:Nat} {H:bM} {F:aH} {R:eF} {rows:List Rw} {ln:Nat} {seen seen':List Tx} {f:Value→Option Value} (h:bS w B H F R rows ln seen) (hm:Md (fun k=>k=H.ms) w w') (hf:bN w'.heap H.ms fK f) (hd:∀ s:Tx,(f (str s)).getD (.int .i64 0)= .int .i64 (seen'.count s:Nat)):bS w' B H F R rows ln seen':=by
 obtain ⟨g,hg,hg2⟩:=h.tm
 obtain ⟨f0,i,_⟩:=h.sm
 have hT:TF w [1] (fun k=>k=H.ms):=TF.eq (dt i) (by decide)
 exact ⟨hm.gp hT h.cells (by decide),h.rws.md hm (fun k hk cur z a=>hT.no (cR a) (by decide) hk),h.rt.md hm (fun k hk cur z a=>hT.no (cR a) (by decide) hk),⟨f,hf,hd⟩,⟨g,hg.md hm (fun h2=>h.ne.1 h2.symm),hg2⟩,bE h.on hm hT (by decide),h.lo,h.ne⟩
theorem cC.ms {w w':World} {B:Nat} {H:bM} {F a:aH} {V:dV} {R:eF} {rows:List Rw} {ln:Nat} {seen:List Tx} (h:cC w B H.fb H.mc a V) (i:bS w B H F R rows ln seen) (hm:Md (fun k=>k=H.ms) w w'):cC w' B H.fb H.mc a V:=by
 obtain ⟨g,hg,_⟩:=i.sm
 exact h.md (L:= [1]) hm (TF.eq (dt hg) (by decide)) (by decide) (fun h=>i.ne.2.1 h.symm)
theorem dM.ms {w w':World} {B:Nat} {H:bM} {F:aH} {R:eF} {rows:List Rw} {ln:Nat} {seen:List Tx} (a:bS w B H F R rows ln seen) (hm:Md (fun k=>k=H.ms) w w'):dM B H w w':=hm.mono fun k _ hk=>⟨hk ▸ a.lo.2.1,.inl hk⟩
structure kM (w0 w:World) (H:bM) (b2 b3 bt:Nat):Prop where
 c2:w.heap[b2]? =some (.cells [.pointer none].toArray 22 (0,0))
 c3:w.heap[b3]? =some (.cells [.int .i64 0,.int .i64 0,.int .i64 0].toArray 25 (0,0))
 lo:w0.heap.size≤b2∧w0.heap.size≤b3∧b2≠b3
 tb:∃ f,bN w.heap bt fK f∧∀ s,f (str s)=eY s
 ne:bt≠H.ms∧bt≠H.mt∧bt≠H.mc
 wk:Wk w0 w
theorem kM.md {j w w':World} {H:bM} {a i bt:Nat} (h:kM j w H a i bt) (hm:Wk w w'):kM j w' H a i bt:=by
 obtain ⟨f,hf,p⟩:=h.tb
 exact ⟨Wk.az hm h.c2,Wk.az hm h.c3,h.lo,⟨f,hf.wk hm,p⟩,h.ne,h.wk.trans hm⟩
theorem kM.mw {a w w':World} {H:bM} {i j bt:Nat} {F:aH} {R:eF} {V:dV} {rows:List Rw} {ln:Nat} {seen:List Tx} (h:kM a w H i j bt) (hF:cC w a.heap.size H.fb H.mc F V) (p:bS w a.heap.size H F R rows ln seen) (hm:dM a.heap.size H w w'):kM a w' H i j bt:=by
 obtain ⟨f,hf,q⟩:=h.tb
 obtain ⟨f1,hf1,_⟩:=p.sm
 obtain ⟨f2,s,_⟩:=p.tm
 obtain ⟨f3,A,_⟩:=hF.cm
 have hn:=fun e (hl:([94,91,165,56,159,157,5]:List Nat).contains (e+2)=false)=>Wr.ne (B:=a.heap.size) (dt hf1) (dt s) (dt A) hl
 refine ⟨hm.az h.c2 (fun hk=>hn 22 (by decide) _ hk _ _ h.c2),hm.az h.c3 (fun hk=>hn 25 (by decide) _ hk _ _ h.c3),h.lo,⟨f,hf.md hm ?_,q⟩,h.ne,hm.wk h.wk (Nat.le_refl _)⟩
 rintro ⟨_,h1 | h1 | h1 | h1⟩
 · exact h.ne.1 h1
 · exact h.ne.2.1 h1
 · exact h.ne.2.2 h1
 · rw [dt hf] at h1; exact absurd h1 (by decide)
def Ci (w':World) (B:Nat) (F:aH) (v:Value):Prop := ∃ fb mc V,v= .tuple #[.pointer (some ⟨fb,0,none⟩),.agg [.int .i64 0,.int .i64 0,.int .i64 0].toArray]∧cC w' B fb mc F V∧(∃ seen,hZ F [] seen)∧Nx F
def Ch (e:Nat×Nat) (v:Value):Prop :=v= .tuple #[.pointer none,.agg [.int .i64 1,.int .i64 (e.1:Nat),.int .i64 (e.2:Nat)].toArray]
def lA (s:Tx) (w:World) (v:Value) (w':World):Prop :=(match eJ s with | .ok F=>Ci w' w.heap.size F v | .error e=>Ch e v)∧Wk w w'
theorem lA.no {s:Tx} {w w':World} {l e:Nat} (h:eJ s= .error (l,e)) (hm:Wk w w'):lA s w (.tuple #[.pointer none,.agg [.int .i64 1,.int .i64 (l:Nat),.int .i64 (e:Nat)].toArray]) w':=by
 unfold lA; rw [h]; exact ⟨rfl,hm⟩
theorem mL {n:Nat} {G:List Nat} {fn:Func} {σ:Nat→Value} {s:Tx} {w W:World} {H:bM} {i j bt l e:Nat} (p:fn.results= #[.cell 2 22,.cell 3 25]) (hlt:3 < n) (q:σ 2= .pointer (some ⟨i,0,none⟩)) (A:σ 3= .pointer (some ⟨j,0,none⟩)) (a:kM w W H i j bt) (C:eJ s= .error (l,e)):qb ⟨n,[{target:= .fn (.func 31) #[.pointer (some ⟨i,0,none⟩),.pointer (some ⟨j,0,none⟩)],args:= #[]}],G,none⟩ (lu Tryz.prog fn (lA s w)) (.panic (fJ 25 l (e:Nat))) σ W:=
 Ke p hlt q A ⟨_,a.c2⟩ ⟨_,rfl,a.c3⟩ a.lo.2.2 (fun w' hm=>lA.no C (a.wk.trans' hm (fun k hk h=>by rcases h with rfl | rfl; have :=a.lo.1; omega; have :=a.lo.2.1; omega)))
theorem FP {x:Nat} (h:x≠0):dw fG x=false :=by
 unfold dw fG dJ
 simp [h]
theorem Wk.dr {w:World} :Wk w w.drew:=(Md.refl _ _).drew
theorem pf (s:Tx) (w:World) (hs:s.length≤1048576):
 aU Tryz.prog 10 (List.toArray [str s]) w (lA s w):=by
 refine Gc [2,3] Tryz.func10 rfl Tryz.ntmps10 rfl ?_
 refine e5 ?_
 refine fL ?_
 refine rg rfl (e (fH Ml fun ai dI hb2 bJ hB2=>e (fH iP fun am w3 dn aV cc=> ?_)))
 have hz2:=bJ.size
 have hz3:=aV.size
 have ck:Wk w w3:=bJ.md.trans aV.md
 have hp2:=Wk.az aV.md hB2
 refine nl (fq ?_)
 refine e5 ?_
 refine fL ?_
 refine rg rfl (p (aB (str s) rfl) (e (cl xw (A1 s _ hs) rfl fun dA w15 hR15=> ?_)))
 obtain ⟨⟨dh,rfl,hcs⟩,hE15⟩:=hR15
 have hE15x:=ck.trans hE15
 have hq2:=Wk.az hE15 hp2
 have hq3:=Wk.az hE15 cc
 have hz15:=hE15.size
 refine p mv (p (xt rfl rfl) (p (xt rfl rfl) (p aj (p aj (nl (fq ?_))))))
 refine e5 ?_
 refine e5 ?_
 refine fL ?_
 refine rg rfl (p mv (p (bP rfl rfl) (nl (fq ?_))))
 refine fL ?_
 refine cd rfl (fun a1=> ?_) (fun a1=> ?_)
 have bR:65536 < s.length:=Classical.byContradiction fun h=>a1 (by rw [if_neg h])
 refine sq (fun bZ aN=>rg rfl (p mv (p (bY (ps:= [(0,.int .i64 1),(2,.int .i64 (if 65536 < s.length then 10 else 0))]) (L:= [.int .i64 1,.int .i64 0,.int .i64 (if 65536 < s.length then 10 else 0)]) nA rfl (rfl)) (e (ca sQ rfl rfl (v:= .pointer none) rfl hq2 (by decide) fun w5 bG cg=>e (fV fR rfl rfl rfl rfl (bG.az hq3 (fun h=>by omega)) (by decide) fun w6 bI hB6=>nl (tn (aN _ _ ?_))))))))
 refine rt (uG ?_)
 exact Gv (q6 rfl (jG (uN rfl rfl ((aO (bI.az cg (fun h=>by omega))).trans rfl))) (jG (c8 rfl rfl rfl (fun j hj=>by rw [Nat.zero_add,aO hB6,if_pos bR]; simp)))) (lA.no (vQ bR) ((hE15x.trans' bG (fun k hk h=>by omega)).trans' bI (fun k hk h=>by omega)))
 have aa:¬65536 < s.length:=fun h=>a1 (by rw [if_pos h]; decide)
 rw [if_neg aa] at hcs
 obtain ⟨vs,bW,cQ⟩:=hcs
 obtain ⟨aG,aI,rfl⟩:=bU bW
 refine au (fq ?_)
 refine e5 ?_
 refine fL ?_
 refine rg rfl (p (aB (str s) rfl) (e (cl xx (Bx s _ hs) rfl fun dB bX cy=> ?_)))
 obtain ⟨⟨di,rfl,bT⟩,hE24⟩:=cy
 rw [if_neg aa] at bT
 obtain ⟨dw,lK,rfl⟩:=bU bT
 have hE24x:=hE15x.trans hE24
 have hll:=jZ s
 have hz24:=hE24.size
 refine p mv (p (xt rfl rfl) (p (xt rfl rfl) (p aj (p aj (nl (fq ?_))))))
 refine e5 ?_
 refine fL ?_
 refine rg rfl (e (oy fun I dJ dl bL b9=> ?_))
 have hz27:=bL.size
 refine p (bY (ps:= [(1,.map (some I))]) (L:= [.int .i64 0,.string ⟨⟨[]⟩⟩,.string ⟨⟨[]⟩⟩,.int .u16 0,.int .u16 0,.int .u16 0,.int .u16 0,.int .u16 0,.int .i64 0,.slice none 0 0,.slice none 0 0,.slice none 0 0,.slice none 0 0,.map (some I)]) Lo rfl (rfl)) (e (nX rfl fun E w29 dm aT cb=> ?_))
 have hz29:=aT.size
 refine p mv (p mv (p (ba c9 rfl rfl) (p (a9 (((a6 s).length+1:Nat):Int) rfl rfl (aQ (by omega) (by omega))) (e (oy fun J dK dp aK ce=> ?_)))))
 have hz34:=aK.size
 refine e (oy fun M w35 dq av cf=> ?_)
 have hz35:=av.size
 refine p (bY (ps:= [(0,.pointer (some ⟨E,0,none⟩)),(1,.slice aG (bd s).length aI),(3,.int .i64 ((a6 s).length+1:Nat)),(4,.map (some J)),(5,.map (some M))]) (L:= [.pointer (some ⟨E,0,none⟩),.slice aG (bd s).length aI,.int .i64 0,.int .i64 ((a6 s).length+1:Nat),.map (some J),.map (some M),.slice none 0 0]) Lp rfl (rfl)) (e (nX rfl fun A w37 ds ap aM=> ?_))
 have hz37:=ap.size
 have hf37:=Wk.az (aK.md.trans (av.md.trans ap.md)) cb
 refine p aj (nl (fq ?_))
 refine e5 ?_
 refine fL ?_
 have Y:(fun w'=>Md (fun k=>k=E) w37 w') w37.drew:=(Md.refl _ _).drew
 refine bC (fun w'=>Md (fun k=>k=E) w37 w') rfl wide Y (hp 0 rfl (by kernel_rfl) (fun _ _=>mv) Y (hp 1 rfl (by kernel_rfl) (fun _ _=>nc rfl) Y (hp 2 rfl (by kernel_rfl) (fun _ _=>fa eL rfl) Y (hp 3 rfl (by kernel_rfl) (fun w' G=>ld eo rfl (Md.aC G ((aO aM).trans rfl) (fun h=>by omega))) Y (hp 4 rfl (by kernel_rfl) (fun _ _=>mv) Y (hp 5 rfl (by kernel_rfl) (fun _ _=>nc rfl) Y (hp 6 rfl (by kernel_rfl) (fun _ _=>fa eL rfl) Y ?_)))))))
 refine hp 7 rfl (by kernel_rfl) (fun w' G=>ld eo rfl (Md.aC G ((aO aM).trans rfl) (fun h=>by omega))) Y (hp 8 rfl (by kernel_rfl) (fun _ _=>nc rfl) Y (hp 9 rfl (by kernel_rfl) (fun _ _=>fa et rfl) Y (hp 10 rfl (by kernel_rfl) (fun _ _=>fa ng rfl) Y (he 11 rfl (by kernel_rfl) (ca fW rfl rfl (v:= .int .i64 (1:Nat)) rfl hf37 (by show 0 +0 +0 < 14; decide) fun w8 cv ch=> ?_)))))
 have aw:(fun w'=>Md (fun k=>k=E) w37 w') w8:=Y.trans' cv (fun _ _ h=>h)
 refine ⟨aw,?_⟩
 refine hp 12 rfl (by kernel_rfl) (fun _ _=>nc rfl) aw (hp 13 rfl (by kernel_rfl) (fun _ _=>fa et rfl) aw (hp 14 rfl (by kernel_rfl) (fun _ _=>fa tA rfl) aw (he 15 rfl (by kernel_rfl) (ca fW rfl rfl (v:= .int .i64 (3:Nat)) rfl ch (by show _ < 14; decide) fun w9 hM9 ci=> ?_))))
 have a0:(fun w'=>Md (fun k=>k=E) w37 w') w9:=aw.trans' hM9 (fun _ _ h=>h)
 refine ⟨a0,?_⟩
 refine hn (by kernel_rfl) (fq ?_)
 refine e5 ?_
 refine FY II #[.pointer (some ⟨ai,0,none⟩),.pointer (some ⟨am,0,none⟩)] rfl (by decide) ?_
 refine e5 ?_
 refine fL ?_
 refine rg rfl (e (cl DW (HV _) rfl fun dC w53 cz=> ?_))
 obtain ⟨bt,rfl,du,cZ,bx⟩:=cz
 have cn:Wk bX w37:=bL.md.trans (aT.md.trans (aK.md.trans (av.md.trans ap.md)))
 have ao:Md (fun k=>k=E) w37 w53:=a0.trans' bx (fun _ _ h=>h.elim)
 have ar:Wk bX w53:=Md.trans' cn ao (fun k hk h=>by omega)
 have hsz53:=ao.size
 have hE53x:=hE24x.trans ar
 have cG:w53.heap[E]? =some (.cells (kp fG ⟨.slice none 0 0,.slice none 0 0,.slice none 0 0,.slice none 0 0,[],[]⟩ I).toArray 89 (0,0)):=Wk.az bx ci
 have hcr:w53.heap[A]? =some (.cells (oI (⟨A,E,J,M,I,(a6 s).length+1⟩:bM) ⟨.slice aG (bd s).length aI,vs,.slice none 0 0⟩ 0).toArray 92 (0,0)):=ao.az aM (fun h=>by omega)
 have cL:bN w53.heap I (k4 .u16) (fun _=>none):=bN.md (bN.wk (bN.nil b9) (aT.md.trans (aK.md.trans (av.md.trans ap.md)))) ao (fun h=>by omega)
 have cM:bN w53.heap J fK (fun _=>none):=bN.md (bN.wk (bN.nil ce) (av.md.trans ap.md)) ao (fun h=>by omega)
 have cN:bN w53.heap M (k4 .u16) (fun _=>none):=bN.md (bN.wk (bN.nil cf) ap.md) ao (fun h=>by omega)
 have co:cC w53 w.heap.size E I fG ⟨.slice none 0 0,.slice none 0 0,.slice none 0 0,.slice none 0 0,[],[]⟩:=⟨cG,World.ownsRow_nil _ _ _ _,World.ownsRow_nil _ _ _ _,c4.nil _ _ _,World.ownsRow_nil _ _ _ _,World.ownsRow_nil _ _ _ _,c4.nil _ _ _,⟨_,cL,fun _=>rfl⟩,⟨by omega,by omega⟩,rfl⟩
 have hR0:bS w53 w.heap.size (⟨A,E,J,M,I,(a6 s).length+1⟩:bM) fG ⟨.slice aG (bd s).length aI,vs,.slice none 0 0⟩ (bd s) 0 []:=⟨hcr,(((Tg.fT bW).mono (by omega)).wk (hE24.trans ar)).Lz,(cQ.mono (by omega)).wk (hE24.trans ar),⟨_,cM,fun _=>rfl⟩,⟨_,cN,fun x bp=>by rw [FP bp]; rfl⟩,World.ownsRow_nil _ _ _ _,⟨by show w.heap.size≤A; omega,by show w.heap.size≤J; omega,by show w.heap.size≤M; omega⟩,⟨by show J≠M; omega,by show J≠I; omega,by show M≠I; omega⟩⟩
 have hrl:=q4 s
 have cF:St w53 w.heap.size (⟨A,E,J,M,I,(a6 s).length+1⟩:bM) fG (bd s) 0 []:=⟨_,_,co,hR0,⟨by show 0 +0 +0 +0 +(bd s).length≤70000; omega,by show 0 +(bd s).length≤70000; omega,fun q bj=>by have h:=q5 bj; exact ⟨h.2.2.1,by omega,fun x bp=>by have :=(h.2.2.2.2 x bp).2; omega⟩,.inl rfl,fun l hl=>by cases hl⟩⟩
 have cY:gB fG []:=fun k hk _=>by have h:∀ k∈cJ,fG.sp.getD (cJ.idxOf k) 0=0:=by decide
                                  exact h k hk
 have cO:Nx fG:=⟨fun l hl=>(by cases hl),fun l hl=>(by cases hl)⟩
 have hsz9:=a0.size
 have cP:kM w w53 (⟨A,E,J,M,I,(a6 s).length+1⟩:bM) ai am bt:=⟨Wk.az (hE24.trans ar) hq2,Wk.az (hE24.trans ar) hq3,⟨by omega,by omega,by omega⟩,cZ,⟨by show bt≠J; omega,by show bt≠M; omega,by show bt≠I; omega⟩,hE53x⟩
 refine p aj (nl (fq ?_))
 refine e5 ?_
 refine fL ?_
 refine az (lp (fun bv aF wI=> ∃ (k:Nat) (F:aH) (rows:List Rw) (ln:Nat) (seen:List Tx),(eE (⟨A,E,J,M,I,(a6 s).length+1⟩:bM).eof k F seen rows=eE ((a6 s).length+1) (bd s).length fG [] (bd s))∧(rows.length≤k)∧(St wI w.heap.size (⟨A,E,J,M,I,(a6 s).length+1⟩:bM) F rows ln seen)∧(gB F seen)∧(Nx F)∧(kM w wI (⟨A,E,J,M,I,(a6 s).length+1⟩:bM) ai am bt)∧(aF 2= .pointer (some ⟨ai,0,none⟩))∧(aF 3= .pointer (some ⟨am,0,none⟩))∧(aF 8= .pointer (some ⟨A,0,none⟩))∧(aF 9= .map (some bt))∧(rows.length=bv)) _ ⟨(bd s).length,fG,bd s,0,[],rfl,(Nat.le_refl _),cF,cY,cO,cP,rfl,rfl,rfl,rfl,rfl⟩ ?_)
 rintro bv aF wI ⟨k,F,rows,ln,seen,hX,hk,G,hsp,hnx,bi,cS,cT,cU,cV,rfl⟩
 refine fx 2 cS (fx 3 cT (fx 8 cU (fx 9 cV ?_)))
 obtain ⟨V,R,hF,ae,an⟩:=G
 obtain ⟨vr,vs,vn⟩:=R
 obtain ⟨bs,cr1,hv⟩:=ae.rws.slice
 obtain rfl :vr= .slice bs rows.length cr1:=hv
 refine sq (fun bZ aN=>sq (fun da cp=>rg rfl (p (aB (.pointer (some ⟨A,0,none⟩)) rfl) (p (nc rfl) (p (fa oo rfl) (p (ld mZ rfl ((aO ae.cells).trans rfl)) (p (ba rC rfl rfl) ?_)))))))
 refine p (gt rfl rfl) (nl (tn (cp _ _ (cd rfl (fun a2=> ?_) (fun a2=> ?_)))))
 obtain ⟨⟨n,r⟩,rest,rfl⟩:∃ q rest,rows=q::rest:=by
  cases rows with
  | nil=>exact absurd a2 (by simp)
  | cons q rest=>exact ⟨q,rest,rfl⟩
 have hrow:=an.row (n,r) (List.mem_cons_self ..)
 have hbl:=an.len
 have hbs:=an.sl
 simp only [List.length_cons] at hbl hbs hk
 refine au (tn (aN _ _ (az (sq (fun db cq=>rg rfl (p (aB (.pointer (some ⟨A,0,none⟩)) rfl) (e (cl xy (BH w.heap.size (⟨A,E,J,M,I,(a6 s).length+1⟩:bM) F ⟨.slice bs (rest.length+1) cr1,vs,vn⟩ n r rest ln seen wI ae) rfl fun dD w61 cA=> ?_))))))))
 obtain ⟨⟨R1,hR1⟩,hT1,hM1⟩:=cA
 obtain ⟨br,bu,rfl⟩:=hT1.slice
 have hF1:=hF.rb ae hM1
 have hob1:=bi.mw hF ae (dM.rb ae hM1)
 have dv:0 < r.length:=List.length_pos_iff.2 hrow.1
 have hB1:=hZ.kV an
 have hval:=HR (r.getD 0 [])
 obtain ⟨dk,cK,bV⟩:=hob1.tb
 refine p aj (nl (tn (cq _ _ (sq (fun dc cr=>rg rfl (p (aB (.map (some bt)) rfl) (p mv (p (aJ bA rfl rfl (by omega) (ak.ok (hT1.bH.2) (bl (by omega)))) ?_))))))))
 refine p (ld bw rfl (bh.get (i:=0) hT1.bH.2 (by omega))) (p (Ab iO My fp (cK) rfl rfl (⟨_,rfl⟩) ((congrArg (fun o=>Option.getD o _) (bV (r.getD 0 []))).trans hval.1) ((congrArg Option.isSome (bV (r.getD 0 []))).trans hval.2)) (p mv (p (xt rfl rfl) (p (xt rfl rfl) (e (fH Ms fun b3 w11 hb11 cw b6=>e (fV FK rfl rfl rfl (HX _) b6 (by decide) fun w12 cu hB12=> ?_)))))))
 have hE12:Wk w61 w12:=cw.md.trans' cu (fun k hk h=>by omega)
 have hb12:w12.heap[b3]? =some (.cells [.int .i64 (width (r.getD 0 []):Nat),lU (r.getD 0 [])].toArray 99 (0,0)):=hB12
 have hF2:=hF1.wk hE12
 have hR2:=hR1.wk hE12
 have hT2:=hT1.wk hE12
 have hob2:=hob1.md hE12
 refine p aj (nl (tn (cr _ _ (sq (fun dd cs=>rg rfl (p (aB (.pointer (some ⟨A,0,none⟩)) rfl) (p mv ?_)))))))
 refine eP rfl (cj eT (e4 A n _ 110 w12 hR2.bK (by decide)) rfl fun dE c7 cB=> ?_) (fun c w' U aq hF=>by
  obtain ⟨rfl,hb,rfl⟩:=U
  exact mL rfl (by decide) ((hF 2 (.head _)).trans rfl) ((hF 3 (.tail _ (.head _))).trans rfl) hob2 (kh aa (AS hX hk (Classical.not_not.1 (of_decide_eq_false hb)))))
 obtain ⟨rfl,Z,rfl⟩:=cB
 have Z:width (r.getD 0 [])≠0:=of_decide_eq_true Z
 refine nl (tn (cs _ _ (sq (fun de ct=>rg rfl (p (aB (.pointer (some ⟨A,0,none⟩)) rfl) (p mv (p (ba c9 rfl rfl) (p (fa zc rfl) ?_))))))))
 refine p (ld bQ rfl ((aO hb12).trans rfl)) (p (a8 rfl rfl) ?_)
 refine eP rfl (cj eT (e4 A n _ 111 c7 hR2.bK (by decide)) rfl fun dH w79 cE=> ?_) (fun c w' U aq hF=>by
  obtain ⟨rfl,hb,rfl⟩:=U
  exact mL rfl (by decide) ((hF 2 (.head _)).trans rfl) ((hF 3 (.tail _ (.head _))).trans rfl) hob2 (kh aa (AT hX hk Z (fun h=>of_decide_eq_false hb (by rw [h])))))
 obtain ⟨rfl,ab,rfl⟩:=cE
 have ab:r.length=width (r.getD 0 []):=by have :=of_decide_eq_true ab; omega
 refine nl (tn (ct _ _ (sq (fun df bB=> ?_))))
 obtain ⟨dy,cW,cX⟩:=hR2.sm
 have hS14:(fun w'=>Wk w79 w') w79.drew:=(Md.refl _ _).drew
 refine bC (fun w'=>Wk w79 w') rfl wide hS14 (hp 0 rfl (by kernel_rfl) (fun _ _=>aB (.pointer (some ⟨A,0,none⟩)) rfl) hS14 (hp 1 rfl (by kernel_rfl) (fun _ _=>fa zc rfl) hS14 (hp 2 rfl (by kernel_rfl) (fun w' G=>ld bQ rfl (Wk.aC G ((aO hb12).trans rfl))) hS14 (hp 3 rfl (by kernel_rfl) (fun _ _=>a8 rfl rfl) hS14 (hp 4 rfl (by kernel_rfl) (fun _ _=>mv) hS14 (jd (t:=84) rfl (fun aA=> ?_) (fun aA=> ?_)))))))
 refine a7 5 rfl (by kernel_rfl) rfl rfl rfl rfl hS14 ?_
 refine a7 6 rfl (by kernel_rfl) rfl rfl rfl rfl hS14 ?_
 refine a7 7 rfl (by kernel_rfl) rfl rfl rfl rfl hS14 ?_
 refine a7 8 rfl (by kernel_rfl) rfl rfl rfl rfl hS14 ?_
 refine a7 9 rfl (by kernel_rfl) rfl rfl rfl rfl hS14 ?_
 refine a7 10 rfl (by kernel_rfl) rfl rfl rfl rfl hS14 ?_
 refine a7 11 rfl (by kernel_rfl) rfl rfl rfl rfl hS14 ?_
 refine a7 12 rfl (by kernel_rfl) rfl rfl rfl rfl hS14 ?_
 refine a7 13 rfl (by kernel_rfl) rfl rfl rfl rfl hS14 ?_
 refine hp 14 rfl (by kernel_rfl) (fun _ _=>bf rfl) hS14 ?_
 refine nk 15 rfl (by kernel_rfl) rfl (cj eT (e4 A n _ 112 w79.drew (Wk.aC hS14 hR2.bK) (by decide)) rfl fun c6 w95 aY=> ?_) (fun c w' U aq hF=>by
  obtain ⟨rfl,hb,rfl⟩:=U
  first
   | exact absurd hb (by decide)
   | exact mL rfl (by decide) ((hF 2 (.head _)).trans rfl) ((hF 3 (.tail _ (.head _))).trans rfl) (hob2.md Wk.dr) (kh aa (uI hX hk Z ab (fun h=>aA (by rw [h]; rfl)) (Classical.not_not.1 fun h=>of_decide_eq_false hb (by rw [List.count_eq_zero.2 h]; rfl)))))
 obtain ⟨rfl,bq,aD⟩:=aY
 have ag:width (r.getD 0 [])=2→r.getD 0 []∉seen:=by
  first
   | exact fun h=>absurd aA (by omega)
   | exact fun _=>List.count_eq_zero.1 (by have :=of_decide_eq_true bq; omega)
 have hE95:Wk w79 w95:=by rw [aD]; exact Wk.dr
 obtain ⟨c0,bg,bb⟩:=zL Z
 obtain ⟨b4,bo,a3,a5⟩:=zO w.heap.size (⟨A,E,J,M,I,(a6 s).length+1⟩:bM) F rest n seen r w.heap.size br bu w95 ⟨_,_,hF2.wk hE95,hR2.wk hE95,hB1⟩ (hT2.wk hE95) hrow.2.2 ab hsp ag (by omega) bg
 have hfv:=bb _ _ bo
 have aZ:(fun w'=>Wk w79 w') w95:=by rw [aD]; exact hS14
 refine ⟨aZ,?_⟩
 refine hn (by kernel_rfl) (tn (bB _ _ (sq (fun b0 aP=>rg rfl (p (fa zd rfl) (p (ld vX rfl ((aO (Wk.az hE95 hb12)).trans (congrArg some hfv))) (p (aB (.pointer (some ⟨A,0,none⟩)) rfl) (p mv ?_))))))))
 refine eP rfl (B9 a3 rfl a5 rfl fun c5 ah aX=> ?_) (fun c w' U aq hF=>by
  obtain ⟨l,e,O,rfl,hMw3⟩:=U
  exact mL rfl (by decide) ((hF 2 (.head _)).trans rfl) ((hF 3 (.tail _ (.head _))).trans rfl) ((hob2.md hE95).mw (hF2.wk hE95) (hR2.wk hE95) hMw3) (kh aa (uJ hX hk Z ab ag O)))
 obtain ⟨rfl,F',rows',ln',O,⟨b1,aL,hF3,hR3,ac⟩,hMw3⟩:=aX
 have hob3:=(hob2.md hE95).mw (hF2.wk hE95) (hR2.wk hE95) hMw3
 obtain ⟨q1,hq1,_⟩:=hR2.sm
 obtain ⟨q2,bk,_⟩:=hR2.tm
 obtain ⟨c1,bm,_⟩:=hF2.cm
 have hT3:=(hT2.wk hE95).md hMw3 (Wr.ne (dt (hq1.wk hE95)) (dt (bk.wk hE95)) (dt (bm.wk hE95)) (by decide))
 obtain ⟨b5,ax,ay⟩:=hR3.sm
 have hcl:=List.count_le_length (a:=r.getD 0 []) (l:=seen)
 have hXn:=uK hX hk Z ab ag O
 refine nl (tn (aP _ _ ?_))
 have C:(fun w'=>Wk ah w') ah.drew:=(Md.refl _ _).drew
 refine dG (fun w'=>Wk ah w') 9 rfl wide C (lq 0 rfl (by kernel_rfl) (fun _ _=>aB (.pointer (some ⟨A,0,none⟩)) rfl) C (lq 1 rfl (by kernel_rfl) (fun _ _=>nc rfl) C (lq 2 rfl (by kernel_rfl) (fun _ _=>fa nj rfl) C (lq 3 rfl (by kernel_rfl) (fun w' G=>ld m3 rfl (Wk.aC G ((aO hR3.cells).trans rfl))) C (lq 4 rfl (by kernel_rfl) (fun _ _=>mv) C (lq 5 rfl (by kernel_rfl) (fun _ _=>aJ bA rfl rfl (by omega) (ak.ok (ak.wk hT3.bH.2 C) (bl (by omega)))) C (lq 6 rfl (by kernel_rfl) (fun w' G=>ld bw rfl (Wk.aC G (bh.get (i:=0) hT3.bH.2 (by omega)))) C ?_)))))))
 refine lq 7 rfl (by kernel_rfl) (fun w' G=>j0 l8 kJ fp (bN.md (ax) G id) rfl rfl (⟨_,rfl⟩) (ay (r.getD 0 []))) C (lq 8 rfl (by kernel_rfl) (fun _ _=>a9 ((seen.count (r.getD 0 [])+1:Nat):Int) rfl rfl (aQ (by omega) (by omega))) C (cD 9 rfl (by kernel_rfl) (by kernel_rfl) (nH l8 fp (ax.wk C) rfl rfl rfl (⟨_,rfl⟩) fun aE aR aW=> ?_)))
 have hM16:=e6 aR
 have hR16:bS aE w.heap.size (⟨A,E,J,M,I,(a6 s).length+1⟩:bM) F' aL rows' ln' (seen++ [r.getD 0 []]):=bS.A9 hR3 hM16 aW (Ba _ ay)
 have hF16:=cC.ms hF3 hR3 hM16
 have hob16:=hob3.mw hF3 hR3 (dM.ms hR3 hM16)
 have hrw:=lS O
 have C:St aE w.heap.size (⟨A,E,J,M,I,(a6 s).length+1⟩:bM) F' rows' ln' (seen++ [r.getD 0 []]):=⟨_,_,hF16,hR16,⟨ac.len,by rw [List.length_append,List.length_singleton]; omega,ac.row,ac.kd,ac.al⟩⟩
 have hsp16:=zN hsp O
 have hnx16:=qF hnx O
 refine dF (by kernel_rfl) ?_
 exact bn (tn (⟨_,by simp only [List.length_cons]; have :=lS O; omega,k - 1,F',rows',ln',seen++ [r.getD 0 []],hXn.1,hXn.2,C,hsp16,hnx16,hob16,rfl,rfl,rfl,rfl,rfl⟩))
 refine bc 5 rfl (by kernel_rfl) rfl rfl rfl (fun _ _=>aB (.pointer (some ⟨A,0,none⟩)) rfl) hS14 (bc 6 rfl (by kernel_rfl) rfl rfl rfl (fun _ _=>nc rfl) hS14 (bc 7 rfl (by kernel_rfl) rfl rfl rfl (fun _ _=>fa nj rfl) hS14 (bc 8 rfl (by kernel_rfl) rfl rfl rfl (fun w' G=>ld m3 rfl (Wk.aC G ((aO hR2.cells).trans rfl))) hS14 (bc 9 rfl (by kernel_rfl) rfl rfl rfl (fun _ _=>mv) hS14 (bc 10 rfl (by kernel_rfl) rfl rfl rfl (fun _ _=>aJ bA rfl rfl (by omega) (ak.ok (ak.wk hT2.bH.2 hS14) (bl (by omega)))) hS14 (bc 11 rfl (by kernel_rfl) rfl rfl rfl (fun w' G=>ld bw rfl (Wk.aC G (bh.get (i:=0) hT2.bH.2 (by omega)))) hS14 (bc 12 rfl (by kernel_rfl) rfl rfl rfl (fun w' G=>j0 l8 kJ fp (bN.md (cW) G id) rfl rfl (⟨_,rfl⟩) (cX (r.getD 0 []))) hS14 ?_)))))))
 refine bc 13 rfl (by kernel_rfl) rfl rfl rfl (fun _ _=>a8 rfl rfl) hS14 (hp 14 rfl (by kernel_rfl) (fun _ _=>a4 rfl) hS14 ?_)
 refine nk 15 rfl (by kernel_rfl) rfl (cj eT (e4 A n _ 112 w79.drew (Wk.aC hS14 hR2.bK) (by decide)) rfl fun c6 w95 aY=> ?_) (fun c w' U aq hF=>by
  obtain ⟨rfl,hb,rfl⟩:=U
  first
   | exact absurd hb (by decide)
   | exact mL rfl (by decide) ((hF 2 (.head _)).trans rfl) ((hF 3 (.tail _ (.head _))).trans rfl) (hob2.md Wk.dr) (kh aa (uI hX hk Z ab (fun h=>aA (by rw [h]; rfl)) (Classical.not_not.1 fun h=>of_decide_eq_false hb (by rw [List.count_eq_zero.2 h]; rfl)))))
 obtain ⟨rfl,bq,aD⟩:=aY
 have ag:width (r.getD 0 [])=2→r.getD 0 []∉seen:=by
  first
   | exact fun h=>absurd aA (by omega)
   | exact fun _=>List.count_eq_zero.1 (by have :=of_decide_eq_true bq; omega)
 have hE95:Wk w79 w95:=by rw [aD]; exact Wk.dr
 obtain ⟨c0,bg,bb⟩:=zL Z
 obtain ⟨b4,bo,a3,a5⟩:=zO w.heap.size (⟨A,E,J,M,I,(a6 s).length+1⟩:bM) F rest n seen r w.heap.size br bu w95 ⟨_,_,hF2.wk hE95,hR2.wk hE95,hB1⟩ (hT2.wk hE95) hrow.2.2 ab hsp ag (by omega) bg
 have hfv:=bb _ _ bo
 have aZ:(fun w'=>Wk w79 w') w95:=by rw [aD]; exact hS14
 refine ⟨aZ,?_⟩
 refine hn (by kernel_rfl) (tn (bB _ _ (sq (fun b0 aP=>rg rfl (p (fa zd rfl) (p (ld vX rfl ((aO (Wk.az hE95 hb12)).trans (congrArg some hfv))) (p (aB (.pointer (some ⟨A,0,none⟩)) rfl) (p mv ?_))))))))
 refine eP rfl (B9 a3 rfl a5 rfl fun c5 ah aX=> ?_) (fun c w' U aq hF=>by
  obtain ⟨l,e,O,rfl,hMw3⟩:=U
  exact mL rfl (by decide) ((hF 2 (.head _)).trans rfl) ((hF 3 (.tail _ (.head _))).trans rfl) ((hob2.md hE95).mw (hF2.wk hE95) (hR2.wk hE95) hMw3) (kh aa (uJ hX hk Z ab ag O)))
 obtain ⟨rfl,F',rows',ln',O,⟨b1,aL,hF3,hR3,ac⟩,hMw3⟩:=aX
 have hob3:=(hob2.md hE95).mw (hF2.wk hE95) (hR2.wk hE95) hMw3
 obtain ⟨q1,hq1,_⟩:=hR2.sm
 obtain ⟨q2,bk,_⟩:=hR2.tm
 obtain ⟨c1,bm,_⟩:=hF2.cm
 have hT3:=(hT2.wk hE95).md hMw3 (Wr.ne (dt (hq1.wk hE95)) (dt (bk.wk hE95)) (dt (bm.wk hE95)) (by decide))
 obtain ⟨b5,ax,ay⟩:=hR3.sm
 have hcl:=List.count_le_length (a:=r.getD 0 []) (l:=seen)
 have hXn:=uK hX hk Z ab ag O
 refine nl (tn (aP _ _ ?_))
 have C:(fun w'=>Wk ah w') ah.drew:=(Md.refl _ _).drew
 refine dG (fun w'=>Wk ah w') 9 rfl wide C (lq 0 rfl (by kernel_rfl) (fun _ _=>aB (.pointer (some ⟨A,0,none⟩)) rfl) C (lq 1 rfl (by kernel_rfl) (fun _ _=>nc rfl) C (lq 2 rfl (by kernel_rfl) (fun _ _=>fa nj rfl) C (lq 3 rfl (by kernel_rfl) (fun w' G=>ld m3 rfl (Wk.aC G ((aO hR3.cells).trans rfl))) C (lq 4 rfl (by kernel_rfl) (fun _ _=>mv) C (lq 5 rfl (by kernel_rfl) (fun _ _=>aJ bA rfl rfl (by omega) (ak.ok (ak.wk hT3.bH.2 C) (bl (by omega)))) C (lq 6 rfl (by kernel_rfl) (fun w' G=>ld bw rfl (Wk.aC G (bh.get (i:=0) hT3.bH.2 (by omega)))) C ?_)))))))
 refine lq 7 rfl (by kernel_rfl) (fun w' G=>j0 l8 kJ fp (bN.md (ax) G id) rfl rfl (⟨_,rfl⟩) (ay (r.getD 0 []))) C (lq 8 rfl (by kernel_rfl) (fun _ _=>a9 ((seen.count (r.getD 0 [])+1:Nat):Int) rfl rfl (aQ (by omega) (by omega))) C (cD 9 rfl (by kernel_rfl) (by kernel_rfl) (nH l8 fp (ax.wk C) rfl rfl rfl (⟨_,rfl⟩) fun aE aR aW=> ?_)))
 have hM16:=e6 aR
 have hR16:bS aE w.heap.size (⟨A,E,J,M,I,(a6 s).length+1⟩:bM) F' aL rows' ln' (seen++ [r.getD 0 []]):=bS.A9 hR3 hM16 aW (Ba _ ay)
 have hF16:=cC.ms hF3 hR3 hM16
 have hob16:=hob3.mw hF3 hR3 (dM.ms hR3 hM16)
 have hrw:=lS O
 have C:St aE w.heap.size (⟨A,E,J,M,I,(a6 s).length+1⟩:bM) F' rows' ln' (seen++ [r.getD 0 []]):=⟨_,_,hF16,hR16,⟨ac.len,by rw [List.length_append,List.length_singleton]; omega,ac.row,ac.kd,ac.al⟩⟩
 have hsp16:=zN hsp O
 have hnx16:=qF hnx O
 refine dF (by kernel_rfl) ?_
 exact bn (tn (⟨_,by simp only [List.length_cons]; have :=lS O; omega,k - 1,F',rows',ln',seen++ [r.getD 0 []],hXn.1,hXn.2,C,hsp16,hnx16,hob16,rfl,rfl,rfl,rfl,rfl⟩))
 obtain rfl :rows= []:=by
  cases rows with
  | nil=>rfl
  | cons q rest=>exact absurd (by simp only [List.length_cons]; omega) a2
 rw [nw] at hX
 refine ext (te _ (te _ (be (fq ?_))))
 refine e5 ?_
 refine fL ?_
 refine rg rfl (p (aB (.pointer (some ⟨A,0,none⟩)) rfl) ?_)
 refine eP rfl (cj DX (Ex w.heap.size (⟨A,E,J,M,I,(a6 s).length+1⟩:bM) F [] ln seen wI ⟨_,_,hF,ae,an⟩ hnx.2) rfl fun dz w111 cx=> ?_) (fun c w' U aq bz=>by
  obtain ⟨q,bj,rfl,aS⟩:=U
  exact mL rfl (by decide) ((bz 2 (.head _)).trans rfl) ((bz 3 (.tail _ (.head _))).trans rfl) (bi.mw hF ae aS) (rQ aa hX.symm bj))
 obtain ⟨rfl,cH,⟨b2,dg,dx,hF4,hR4⟩,aS⟩:=cx
 have hob4:=bi.mw hF ae aS
 have hlo4:=hob4.lo
 refine nl (fq ?_)
 refine e5 ?_
 refine fL ?_
 refine rg rfl (p (aB (.pointer (some ⟨A,0,none⟩)) rfl) (p (nc rfl) (p (fa eL rfl) (p (ld eo rfl ((aO hR4.cells).trans rfl)) (p (bY (ps:= []) (L:= [.int .i64 0,.int .i64 0,.int .i64 0]) nA rfl (rfl)) (e (ca sQ rfl rfl (v:= .pointer (some ⟨E,0,none⟩)) rfl hob4.c2 (by decide) fun w20 bD b7=>e (fV fR rfl rfl rfl rfl (bD.az hob4.c3 (fun h=>by omega)) (by decide) fun w21 bE b8=> ?_))))))))
 have bF:Md (fun k=>k=ai∨k=am) w111 w21:=(bD.mono (fun _ _ h=> .inl h)).trans' bE (fun _ _ h=> .inr h)
 refine nl (fq ?_)
 refine uP ?_
 have bO:TF w111 [24,27] (fun k=>k=ai∨k=am):=TF.or (TF.eq (cR hob4.c2) (by decide)) (TF.eq (cR hob4.c3) (by decide))
 obtain ⟨dj,cI,_⟩:=hF4.cm
 have hF5:=hF4.md bF bO (by decide) (bO.no (dt cI) (by decide))
 exact Kf rfl (by decide) rfl rfl (bE.az b7 (fun h=>by omega)) b8 rfl (fun w' hm=>by
  unfold lA
  rw [vS aa hX.symm cH]
  exact ⟨⟨E,I,b2,rfl,hF5.wk hm,⟨seen,an⟩,hnx⟩,(hob4.wk.trans' bF (fun k hk h=>by omega)).trans hm⟩)
end Go.Hb.lr
end
section
set_option maxRecDepth 20000
set_option maxHeartbeats 1000000
namespace Go.Hb.j9
open Go.Hb.di
open Go.Proofs
open Go.Hb.eS Go.Hb.fE Go.Hb.fN Go.Hb.gU Go.Hb.gW
def iF (F:aH) (V:dV):List Value:= [.int .i64 (F.kind:Nat),str F.mx,str F.tr,aM (F.sp.getD 0 0),aM (F.sp.getD 1 0),aM (F.sp.getD 2 0),aM (F.sp.getD 3 0),aM (F.sp.getD 4 0),.int .i64 (F.least:Nat),V.v9,V.v10,V.v11,V.cB]
structure Cj (w:World) (B:Nat) (F:aH) (V:dV):Prop where
 o9:World.ownsRow w B 163 2 V.v9 F.bL.length (gS F.bL)
 dH:World.ownsRow w B 54 1 V.v10 F.aliases.length V.sa
 al:c4 w B 71 V.sa F.aliases
 dp:World.ownsRow w B 157 5 V.v11 F.aX.length (js F.aX)
 cM:World.ownsRow w B 155 7 V.cB F.rules.length (fU (F.rules.zip V.rn))
 nx:c4 w B 71 V.rn (F.rules.map (·.next))
theorem rX {w:World} {B e:Nat} {vs:List Value} {ls:List (List Nat)} (h:c4 w B e vs ls):vs.all Value.oneCell'=true :=by
 rw [List.all_eq_true]
 intro v hv
 obtain ⟨i,hi⟩:=List.getElem?_of_mem hv
 have h1:=(List.getElem?_eq_some_iff.1 hi).1
 obtain ⟨u,hu,hT⟩:=c4.get h (i:=i) (by rw [← h.1]; exact h1)
 rw [hi] at hu; cases hu
 obtain ⟨a,c,rfl⟩:=hT.slice; rfl
theorem Kz {w:World} {B e:Nat} {rs:List eH} {vs:List Value} {ls:List (List Nat)} (h:c4 w B e vs ls):(fU (rs.zip vs)).all Value.oneCell'=true :=by
 rw [List.all_eq_true]
 intro v hv
 obtain ⟨q,a,hv⟩:=List.mem_flatMap.1 hv
 have h1:=List.all_eq_true.1 (rX h) q.2 (List.of_mem_zip a).2
 simp only [iq,List.mem_cons,List.not_mem_nil,or_false] at hv
 rcases hv with rfl | rfl | rfl | rfl | rfl | rfl | rfl <;> first | rfl | exact h1
theorem KA {rs:List eH} {vs:List Value} {i:Nat} {v:Value} (hi:i < rs.length) (hv:i < vs.length):(fU (rs.zip vs)).set (i*7 +6) v=fU (rs.zip (vs.set i v)):=by
 obtain ⟨r,hr⟩:∃ r,rs[i]? =some r:=⟨_,List.getElem?_eq_getElem hi⟩
 obtain ⟨u,hu⟩:∃ u,vs[i]? =some u:=⟨_,List.getElem?_eq_getElem hv⟩
 have hz:(rs.zip vs)[i]? =some (r,u):=List.getElem?_zip_eq_some.2 ⟨hr,hu⟩
 have hz2:rs.zip (vs.set i v)=(rs.zip vs).set i (r,v):=by
  apply List.ext_getElem?
  intro j
  rw [List.getElem?_set]
  by_cases hj:i=j
  · subst hj
    rw [if_pos rfl,if_pos (List.getElem?_eq_some_iff.1 hz).1]
    exact List.getElem?_zip_eq_some.2 ⟨hr,by simp [hv]⟩
  · rw [if_neg hj]
    cases h1:(rs.zip vs)[j]? with
    | none=>
      rw [List.getElem?_eq_none_iff,List.length_zip] at h1 ⊢
      rw [List.length_set]; exact h1
    | some q=>
      have h2:=List.getElem?_zip_eq_some.1 h1
      exact List.getElem?_zip_eq_some.2 ⟨h2.1,by rw [List.getElem?_set,if_neg hj]; exact h2.2⟩
 have hl:(rs.zip vs).length=min rs.length vs.length:=List.length_zip
 have hc:(fU (rs.zip vs)).length=(rs.zip vs).length*7:=kq (f:=iq) (m:=7) (fun _=>rfl) _
 rw [hz2,show fU ((rs.zip vs).set i (r,v))=(fU (rs.zip vs)).take (i*7)++iq (r,v)++(fU (rs.zip vs)).drop (i*7 +7) from y2 (f:=iq) (m:=7) (fun _=>rfl) _ (by omega)]
 apply List.ext_getElem?
 intro j
 have hf:=fun c hc=>tg (f:=iq) (m:=7) (fun _=>rfl) (c:=c) hz hc
 have hg:∀ c,c < 7→(fU (rs.zip vs))[i*7 +c]? =(iq (r,u))[c]? :=fun c h=>hf c h
 have htl:((fU (rs.zip vs)).take (i*7)).length=i*7:=by rw [List.length_take,hc]; omega
 rw [List.getElem?_set]
 by_cases h1:j < i*7
 · rw [if_neg (by omega),List.append_assoc,List.getElem?_append_left (by omega),List.getElem?_take,if_pos h1]
 · rw [List.append_assoc,List.getElem?_append_right (by omega),htl]
   by_cases h2:j < i*7 +7
   · rw [List.getElem?_append_left (by show _ < 7; omega)]
     obtain ⟨c,rfl⟩:∃ c,j=i*7 +c:=⟨j - i*7,by omega⟩
     have h3:c < 7:=by omega
     rw [hg c h3,show i*7 +c - i*7=c by omega]
     match c,h3 with
     | 0,_=>rw [if_neg (by omega)]; rfl
     | 1,_=>rw [if_neg (by omega)]; rfl
     | 2,_=>rw [if_neg (by omega)]; rfl
     | 3,_=>rw [if_neg (by omega)]; rfl
     | 4,_=>rw [if_neg (by omega)]; rfl
     | 5,_=>rw [if_neg (by omega)]; rfl
     | 6,_=>rw [if_pos rfl,if_pos (by omega)]; rfl
   · rw [if_neg (by omega),List.getElem?_append_right (by show 7≤_; omega),show (iq (r,v)).length=7 from rfl,List.getElem?_drop]
     congr 1; omega
theorem A3 {l:List (eH×Value)} {i:Nat} {q:eH×Value} (h:l[i]? =some q):fU l≠[]:=fun h2=>by
 have h3:(fU l).length=l.length*7:=kq (f:=iq) (m:=7) (fun _=>rfl) _
 have h4:=(List.getElem?_eq_some_iff.1 h).1
 rw [h2] at h3
 have h5:0=l.length*7:=h3
 omega
theorem wq {F:aH} {V:dV} (h9:V.v9.oneCell'=true) (a:V.v10.oneCell'=true) (i:V.v11.oneCell'=true) (j:V.cB.oneCell'=true):(iF F V).all Value.oneCell'=true :=by
 rw [List.all_eq_true]
 intro v hv
 simp only [iF,List.mem_cons,List.not_mem_nil,or_false] at hv
 rcases hv with rfl | rfl | rfl | rfl | rfl | rfl | rfl | rfl | rfl | rfl | rfl | rfl | rfl <;> first | rfl | assumption
theorem CQ {w:World} {B fb mc:Nat} {F:aH} {V:dV} (h:cC w B fb mc F V):(iF F V).all Value.oneCell'=true :=wq (dT h.o9) (dT h.dH) (dT h.dp) (dT h.cM)
theorem sW {α:Type} {l m:List α} {i:Nat} (h:l.drop i=m.drop i):l[i]? =m[i]? :=by
 have h1:=congrArg (·[0]?) h
 simpa using h1
theorem uS {α:Type} {l:List α} {i:Nat} {x:α} (h:i < l.length):(l.set i x).take (i+1)=l.take i++ [x]:=by
 rw [List.take_add_one,List.take_set_of_le (Nat.le_refl i)]; simp [h]
theorem set_drop {α:Type} {l m:List α} {i:Nat} {x:α} (h:l.drop i=m.drop i):(l.set i x).drop (i+1)=m.drop (i+1):=by
 rw [List.drop_set_of_lt (Nat.lt_succ_self i),show i.succ=i+1 from rfl]
 simpa [List.drop_drop] using congrArg (List.drop 1) h
theorem wh {w:World} {B e i:Nat} {vs:List Value} {ls:List (List Nat)} {v:Value} (h:c4 w B e (vs.take i) (ls.take i)) (hi:i < ls.length) (hv:i < vs.length) (hT:Tg w B e (ls.getD i []).length v ((ls.getD i []).map aM)):c4 w B e ((vs.set i v).take (i+1)) (ls.take (i+1)):=by
 rw [uS hv,ef ls i [] hi]; exact h.snoc hT
theorem EO (a:Option Addr) (n c:Nat) (xs:List Value) (w:World) (hC:ak w.heap a xs) (hxl:xs.length=n*2) (ha:a=none→n=0) (h1:xs.all Value.oneCell'=true) (hn:n≤1048576):
 aU Tryz.prog 69 (List.toArray [.slice a n c]) w (fun v' w'=>World.ownsRow w' w.heap.size 163 2 v' n xs∧Wk w w'):=by
 refine enter Tryz.func69 rfl Tryz.ntmps69 rfl ?_
 refine U (fun _ s=>(ae (((s _ _ (sq (fun _ A=>U (fun _ C=> ?_))))))))
 refine ab (.slice a n c) (p (mA LM rfl rfl) (ag ((C _ _ (cb rfl (fun q=> ?_) (fun q=> ?_))))))
 have I:a=none:=by simpa using q
 refine U (fun _ i=>(ae (((i _ _ (rt (tr (f1 rfl rfl ?_))))))))
 have hn0:=ha I
 subst hn0
 obtain rfl :=List.eq_nil_of_length_eq_zero (show xs.length=0 by omega)
 exact ⟨World.ownsRow_nil _ _ _ _,Md.refl _ _⟩
 refine au (tn (A _ _ (U (fun _ i=>(e (iY rl fun O w5 hb5 j E=> ?_))))))
 have ho5:=E w.heap.size (by omega)
 refine ab (.slice a n c) (e (ap rl (ho5) rfl (by have :=j.size; omega) rfl (hC.wk j.md) (hxl) (h1) (by omega) (by omega) fun M w7 J G hz7 V=> ?_))
 have hE7:=Wk.own j.md ho5 G (Nat.le_refl _)
 refine ae (((i _ _ (rt (f1 rfl rfl ?_)))))
 have hz:World.ownsRow w7 w.heap.size 163 2 M n xs:=by simpa using J
 exact ⟨hz,hE7⟩
theorem EN (v:Value) (n:Nat) (xs:List Value) (w:World) (hv:Rd w.heap v n 2 xs) (h1:xs.all Value.oneCell'=true) (hn:n≤1048576):aU Tryz.prog 69 [v].toArray w (fun v w'=>World.ownsRow w' w.heap.size 163 2 v n xs∧Wk w w'):=by
 obtain ⟨a,c,rfl,hC,hxl,ha⟩:=hv
 exact EO a n c xs w hC hxl ha h1 hn
theorem EI (a:Option Addr) (n c:Nat) (xs:List Value) (w:World) (hC:ak w.heap a xs) (hxl:xs.length=n*5) (ha:a=none→n=0) (h1:xs.all Value.oneCell'=true) (hn:n≤1048576):
 aU Tryz.prog 70 (List.toArray [.slice a n c]) w (fun v' w'=>World.ownsRow w' w.heap.size 157 5 v' n xs∧Wk w w'):=by
 refine enter Tryz.func70 rfl Tryz.ntmps70 rfl ?_
 refine U (fun _ s=>(ae (((s _ _ (sq (fun _ A=>U (fun _ C=> ?_))))))))
 refine ab (.slice a n c) (p (mA BS rfl rfl) (ag ((C _ _ (cb rfl (fun q=> ?_) (fun q=> ?_))))))
 have I:a=none:=by simpa using q
 refine U (fun _ i=>(ae (((i _ _ (rt (tr (f1 rfl rfl ?_))))))))
 have hn0:=ha I
 subst hn0
 obtain rfl :=List.eq_nil_of_length_eq_zero (show xs.length=0 by omega)
 exact ⟨World.ownsRow_nil _ _ _ _,Md.refl _ _⟩
 refine au (tn (A _ _ (U (fun _ i=>(e (iY rp fun O w5 hb5 j E=> ?_))))))
 have ho5:=E w.heap.size (by omega)
 refine ab (.slice a n c) (e (ap rp (ho5) rfl (by have :=j.size; omega) rfl (hC.wk j.md) (hxl) (h1) (by omega) (by omega) fun M w7 J G hz7 V=> ?_))
 have hE7:=Wk.own j.md ho5 G (Nat.le_refl _)
 refine ae (((i _ _ (rt (f1 rfl rfl ?_)))))
 have hz:World.ownsRow w7 w.heap.size 157 5 M n xs:=by simpa using J
 exact ⟨hz,hE7⟩
theorem EH (v:Value) (n:Nat) (xs:List Value) (w:World) (hv:Rd w.heap v n 5 xs) (h1:xs.all Value.oneCell'=true) (hn:n≤1048576):aU Tryz.prog 70 [v].toArray w (fun v w'=>World.ownsRow w' w.heap.size 157 5 v n xs∧Wk w w'):=by
 obtain ⟨a,c,rfl,hC,hxl,ha⟩:=hv
 exact EI a n c xs w hC hxl ha h1 hn
theorem ET (a:Option Addr) (n c:Nat) (xs:List Value) (w:World) (hC:ak w.heap a xs) (hxl:xs.length=n*1) (ha:a=none→n=0) (h1:xs.all Value.oneCell'=true) (hn:n≤1048576):
 aU Tryz.prog 71 (List.toArray [.slice a n c]) w (fun v' w'=>World.ownsRow w' w.heap.size 54 1 v' n xs∧Wk w w'):=by
 refine enter Tryz.func71 rfl Tryz.ntmps71 rfl ?_
 refine U (fun _ s=>(ae (((s _ _ (sq (fun _ A=>U (fun _ C=> ?_))))))))
 refine ab (.slice a n c) (p (mA rD rfl rfl) (ag ((C _ _ (cb rfl (fun q=> ?_) (fun q=> ?_))))))
 have I:a=none:=by simpa using q
 refine U (fun _ i=>(ae (((i _ _ (rt (tr (f1 rfl rfl ?_))))))))
 have hn0:=ha I
 subst hn0
 obtain rfl :=List.eq_nil_of_length_eq_zero (show xs.length=0 by omega)
 exact ⟨World.ownsRow_nil _ _ _ _,Md.refl _ _⟩
 refine au (tn (A _ _ (U (fun _ i=>(e (iY rm fun O w5 hb5 j E=> ?_))))))
 have ho5:=E w.heap.size (by omega)
 refine ab (.slice a n c) (e (ap rm (ho5) rfl (by have :=j.size; omega) rfl (hC.wk j.md) (hxl) (h1) (by omega) (by omega) fun M w7 J G hz7 V=> ?_))
 have hE7:=Wk.own j.md ho5 G (Nat.le_refl _)
 refine ae (((i _ _ (rt (f1 rfl rfl ?_)))))
 have hz:World.ownsRow w7 w.heap.size 54 1 M n xs:=by simpa using J
 exact ⟨hz,hE7⟩
theorem ES (v:Value) (n:Nat) (xs:List Value) (w:World) (hv:Rd w.heap v n 1 xs) (h1:xs.all Value.oneCell'=true) (hn:n≤1048576):aU Tryz.prog 71 [v].toArray w (fun v w'=>World.ownsRow w' w.heap.size 54 1 v n xs∧Wk w w'):=by
 obtain ⟨a,c,rfl,hC,hxl,ha⟩:=hv
 exact ET a n c xs w hC hxl ha h1 hn
theorem ER (a:Option Addr) (n c:Nat) (xs:List Value) (w:World) (hC:ak w.heap a xs) (hxl:xs.length=n*7) (ha:a=none→n=0) (h1:xs.all Value.oneCell'=true) (hn:n≤1048576):
 aU Tryz.prog 72 (List.toArray [.slice a n c]) w (fun v' w'=>World.ownsRow w' w.heap.size 155 7 v' n xs∧Wk w w'):=by
 refine enter Tryz.func72 rfl Tryz.ntmps72 rfl ?_
 refine U (fun _ s=>(ae (((s _ _ (sq (fun _ A=>U (fun _ C=> ?_))))))))
 refine ab (.slice a n c) (p (mA rE rfl rfl) (ag ((C _ _ (cb rfl (fun q=> ?_) (fun q=> ?_))))))
 have I:a=none:=by simpa using q
 refine U (fun _ i=>(ae (((i _ _ (rt (tr (f1 rfl rfl ?_))))))))
 have hn0:=ha I
 subst hn0
 obtain rfl :=List.eq_nil_of_length_eq_zero (show xs.length=0 by omega)
 exact ⟨World.ownsRow_nil _ _ _ _,Md.refl _ _⟩
 refine au (tn (A _ _ (U (fun _ i=>(e (iY rq fun O w5 hb5 j E=> ?_))))))
 have ho5:=E w.heap.size (by omega)
 refine ab (.slice a n c) (e (ap rq (ho5) rfl (by have :=j.size; omega) rfl (hC.wk j.md) (hxl) (h1) (by omega) (by omega) fun M w7 J G hz7 V=> ?_))
 have hE7:=Wk.own j.md ho5 G (Nat.le_refl _)
 refine ae (((i _ _ (rt (f1 rfl rfl ?_)))))
 have hz:World.ownsRow w7 w.heap.size 155 7 M n xs:=by simpa using J
 exact ⟨hz,hE7⟩
theorem EP (v:Value) (n:Nat) (xs:List Value) (w:World) (hv:Rd w.heap v n 7 xs) (h1:xs.all Value.oneCell'=true) (hn:n≤1048576):aU Tryz.prog 72 [v].toArray w (fun v w'=>World.ownsRow w' w.heap.size 155 7 v n xs∧Wk w w'):=by
 obtain ⟨a,c,rfl,hC,hxl,ha⟩:=hv
 exact ER a n c xs w hC hxl ha h1 hn
theorem EK (a:Option Addr) (n c:Nat) (xs:List Value) (w:World) (hC:ak w.heap a xs) (hxl:xs.length=n*2) (ha:a=none→n=0) (h1:xs.all Value.oneCell'=true) (hn:n≤1048576):
 aU Tryz.prog 48 (List.toArray [.slice a n c]) w (fun v' w'=>World.ownsRow w' w.heap.size 56 2 v' n xs∧Wk w w'):=by
 refine enter Tryz.func48 rfl Tryz.ntmps48 rfl ?_
 refine U (fun _ s=>(ae (((s _ _ (sq (fun _ A=>U (fun _ C=> ?_))))))))
 refine ab (.slice a n c) (p (mA oT rfl rfl) (ag ((C _ _ (cb rfl (fun q=> ?_) (fun q=> ?_))))))
 have I:a=none:=by simpa using q
 refine U (fun _ i=>(ae (((i _ _ (rt (tr (f1 rfl rfl ?_))))))))
 have hn0:=ha I
 subst hn0
 obtain rfl :=List.eq_nil_of_length_eq_zero (show xs.length=0 by omega)
 exact ⟨World.ownsRow_nil _ _ _ _,Md.refl _ _⟩
 refine au (tn (A _ _ (U (fun _ i=>(e (iY ri fun O w5 hb5 j E=> ?_))))))
 have ho5:=E w.heap.size (by omega)
 refine ab (.slice a n c) (e (ap ri (ho5) rfl (by have :=j.size; omega) rfl (hC.wk j.md) (hxl) (h1) (by omega) (by omega) fun M w7 J G hz7 V=> ?_))
 have hE7:=Wk.own j.md ho5 G (Nat.le_refl _)
 refine ae (((i _ _ (rt (f1 rfl rfl ?_)))))
 have hz:World.ownsRow w7 w.heap.size 56 2 M n xs:=by simpa using J
 exact ⟨hz,hE7⟩
theorem EJ (v:Value) (n:Nat) (xs:List Value) (w:World) (hv:Rd w.heap v n 2 xs) (h1:xs.all Value.oneCell'=true) (hn:n≤1048576):aU Tryz.prog 48 [v].toArray w (fun v w'=>World.ownsRow w' w.heap.size 56 2 v n xs∧Wk w w'):=by
 obtain ⟨a,c,rfl,hC,hxl,ha⟩:=hv
 exact EK a n c xs w hC hxl ha h1 hn
theorem EM (a:Option Addr) (n c:Nat) (xs:List Value) (w:World) (hC:ak w.heap a xs) (hxl:xs.length=n*1) (ha:a=none→n=0) (h1:xs.all Value.oneCell'=true) (hn:n≤1048576):
 aU Tryz.prog 51 (List.toArray [.slice a n c]) w (fun v' w'=>World.ownsRow w' w.heap.size 3 1 v' n xs∧Wk w w'):=by
 refine enter Tryz.func51 rfl Tryz.ntmps51 rfl ?_
 refine U (fun _ s=>(ae (((s _ _ (sq (fun _ A=>U (fun _ C=> ?_))))))))
 refine ab (.slice a n c) (p (mA u64 rfl rfl) (ag ((C _ _ (cb rfl (fun q=> ?_) (fun q=> ?_))))))
 have I:a=none:=by simpa using q
 refine U (fun _ i=>(ae (((i _ _ (rt (tr (f1 rfl rfl ?_))))))))
 have hn0:=ha I
 subst hn0
 obtain rfl :=List.eq_nil_of_length_eq_zero (show xs.length=0 by omega)
 exact ⟨World.ownsRow_nil _ _ _ _,Md.refl _ _⟩
 refine au (tn (A _ _ (U (fun _ i=>(e (iY jK fun O w5 hb5 j E=> ?_))))))
 have ho5:=E w.heap.size (by omega)
 refine ab (.slice a n c) (e (ap jK (ho5) rfl (by have :=j.size; omega) rfl (hC.wk j.md) (hxl) (h1) (by omega) (by omega) fun M w7 J G hz7 V=> ?_))
 have hE7:=Wk.own j.md ho5 G (Nat.le_refl _)
 refine ae (((i _ _ (rt (f1 rfl rfl ?_)))))
 have hz:World.ownsRow w7 w.heap.size 3 1 M n xs:=by simpa using J
 exact ⟨hz,hE7⟩
theorem EL (v:Value) (n:Nat) (xs:List Value) (w:World) (hv:Rd w.heap v n 1 xs) (h1:xs.all Value.oneCell'=true) (hn:n≤1048576):aU Tryz.prog 51 [v].toArray w (fun v w'=>World.ownsRow w' w.heap.size 3 1 v n xs∧Wk w w'):=by
 obtain ⟨a,c,rfl,hC,hxl,ha⟩:=hv
 exact EM a n c xs w hC hxl ha h1 hn
theorem CB (B fb mc:Nat) (F:aH) (V:dV) (w:World) (aA:cC w B fb mc F V) (hb:F.bL.length+F.aliases.length+F.aX.length+F.rules.length≤70000) (hnx:Nx F):
 aU Tryz.prog 38 (List.toArray [aG fb]) w (fun v w'=>(∃ bd,v= .agg (iF F bd).toArray∧Cj w' w.heap.size F bd)∧Wk w w'):=by
 refine enter Tryz.func38 rfl Tryz.ntmps38 rfl ?_
 refine U (fun _ bB=>(e (fH Cf fun aZ Y hb2 a2 hB2=> ?_)))
 have hz2:=a2.size
 have hF2:=aA.wk a2.md
 refine ag ((bB _ _ (sq (fun _ bM=>U (fun _ bN=>(ab (aG fb) (p (ij l6 rfl rfl) (nl ?_))))))))
 refine tn (bN _ _ (cf (rfl) (au (tn (bM _ _ (U (fun _ bO=>(ab (aG fb) (p (nc rfl) ?_)))))))))
 refine p (fa et rfl) (p (dx rV rfl (rfl) (show ∀ j,j < 13→Hb.aC Y.heap fb (0 +j)=(iF F V)[j]? from fun j hj=>(aO hF2.cells).trans (by match j,hj with | 0,_=>rfl | 1,_=>rfl | 2,_=>rfl | 3,_=>rfl | 4,_=>rfl | 5,_=>rfl | 6,_=>rfl | 7,_=>rfl | 8,_=>rfl | 9,_=>rfl | 10,_=>rfl | 11,_=>rfl | 12,_=>rfl))) (e (fH Cf fun O w3 cv bk bX=> ?_)))
 have hz3:=bk.size
 refine e (fV yb rfl rfl rfl (CQ hF2) bX (by decide) fun w30 bj bY=> ?_)
 have bh:Wk Y w30:=bk.md.trans' bj (fun q a h=>by omega)
 have hz30:=bj.size
 have hF30:=hF2.wk bh
 have aK:w30.heap[O]? =some (.cells (iF F ⟨V.v9,V.v10,V.v11,V.cB,V.sa,V.rn⟩).toArray 87 (0,0)):=bY
 refine ag ((bO _ _ (U (fun _ bP=>(p (fa qv rfl) (p (ld vW rfl ((aO aK).trans rfl)) (e (cl pM (EN V.v9 F.bL.length (gS F.bL) w30 (Rd.fT hF30.o9) (y1 (fun _=>rfl) _) (by omega)) rfl fun M w16 hR16=> ?_))))))))
 obtain ⟨br,a0⟩:=hR16
 have hz16:=a0.size
 have ho16x:=fZ br (show w3.heap.size≤w30.heap.size by omega)
 refine p (fa qv rfl) (e (ca x7 rfl rfl (v:=M) (dT br) (a0.az aK) (by show _ < 13; omega) fun w4 a1 bZ=> ?_))
 have hE4:Wk Y w4:=(bh.trans a0).trans' a1 (fun q a h=>by omega)
 have hz4:=a1.size
 have hF4:=hF2.wk hE4
 have ho16y:=bW ho16x a1 (fun q a h=>by have :=(c7 ho16x a).1; omega)
 have bq:w4.heap[O]? =some (.cells (iF F ⟨M,V.v10,V.v11,V.cB,V.sa,V.rn⟩).toArray 87 (0,0)):=bZ
 refine ag ((bP _ _ (U (fun _ bQ=>(p (fa ni rfl) (p (ld pq rfl ((aO bq).trans rfl)) (e (cl Ed (EH V.v11 F.aX.length (js F.aX) w4 (Rd.fT hF4.dp) (y1 (fun _=>rfl) _) (by omega)) rfl fun v20 w20 b4=> ?_))))))))
 obtain ⟨bt,ap⟩:=b4
 have hz20:=ap.size
 have ho20x:=fZ bt (show w3.heap.size≤w4.heap.size by omega)
 refine p (fa ni rfl) (e (ca x9 rfl rfl (v:=v20) (dT bt) (ap.az bq) (by show _ < 13; omega) fun w5 aF b0=> ?_))
 have hE5:Wk Y w5:=(hE4.trans ap).trans' aF (fun q a h=>by omega)
 have hz5:=aF.size
 have hF5:=hF2.wk hE5
 have ho16z:=bW (aE ho16y ap) aF (fun q a h=>by have :=(c7 (aE ho16y ap) a).1; omega)
 have ho20y:=bW ho20x aF (fun q a h=>by have :=(c7 ho20x a).1; omega)
 have hc5:w5.heap[O]? =some (.cells (iF F ⟨M,V.v10,v20,V.cB,V.sa,V.rn⟩).toArray 87 (0,0)):=b0
 refine ag ((bQ _ _ (U (fun _ bR=>(p (fa kZ rfl) (p (ld mm rfl ((aO hc5).trans rfl)) (e (cl Ee (ES V.v10 F.aliases.length V.sa w5 (Rd.fT hF5.dH) (rX hF5.al) (by omega)) rfl fun bz cz b5=> ?_))))))))
 obtain ⟨bu,hE24⟩:=b5
 have hz24:=hE24.size
 have ho24x:=fZ bu (show w3.heap.size≤w5.heap.size by omega)
 refine p (fa kZ rfl) (e (ca x8 rfl rfl (v:=bz) (dT bu) (hE24.az hc5) (by show _ < 13; omega) fun w6 ar hB6=> ?_))
 have b3:Wk Y w6:=(hE5.trans hE24).trans' ar (fun q a h=>by omega)
 have hz6:=ar.size
 have ho9a:=bW (aE ho16z hE24) ar (fun q a h=>by have :=(c7 (aE ho16z hE24) a).1; omega)
 have ho11a:=bW (aE ho20y hE24) ar (fun q a h=>by have :=(c7 (aE ho20y hE24) a).1; omega)
 have ho10a:=bW ho24x ar (fun q a h=>by have :=(c7 ho24x a).1; omega)
 have hc6:w6.heap[O]? =some (.cells (iF F ⟨M,bz,v20,V.cB,V.sa,V.rn⟩).toArray 87 (0,0)):=hB6
 obtain ⟨Z,gD,rfl⟩:=bU ho10a
 have hsl:=aA.al.1
 refine ag ((bR _ _ (sq (fun _ bS=>U (fun _ bT=>(p (fa kZ rfl) (p (ld mm rfl ((aO hc6).trans rfl)) (p (ba rD rfl rfl) ?_))))))))
 refine p mv (ag ((bT _ _ (az (lp (fun ao am wI=> ∃ (i:Nat) (sa:List Value),(i≤F.aliases.length)∧(sa.length=F.aliases.length)∧(sa.drop i=V.sa.drop i)∧(c4 wI w3.heap.size 71 (sa.take i) (F.aliases.take i))∧(World.ownsRow wI w3.heap.size 54 1 (.slice Z F.aliases.length gD) F.aliases.length (sa))∧(World.ownsRow wI w3.heap.size 163 2 (M) F.bL.length (gS F.bL))∧(World.ownsRow wI w3.heap.size 157 5 (v20) F.aX.length (js F.aX))∧(wI.heap[O]? =some (.cells (iF F ⟨M,.slice Z F.aliases.length gD,v20,V.cB,V.sa,V.rn⟩).toArray 87 (0,0)))∧(Wk Y wI)∧(w3.heap.size≤wI.heap.size)∧(am 2=aG aZ)∧(am 3=aG O)∧(am 27= .slice Z F.aliases.length gD)∧(am 28=aa (F.aliases.length))∧(am 29=aa i)∧(F.aliases.length - i=ao)) _ ⟨0,V.sa,(by omega),hsl,rfl,(c4.nil _ _ _),ho10a,ho9a,ho11a,hc6,b3,((by omega)),rfl,rfl,rfl,rfl,rfl,rfl⟩ ?_)))))
 rintro ao am wI ⟨i,sa,hi,aw,bx,hal,J,aS,aQ,av,ay,cw,ce,ck,cg,ch,cj,rfl⟩
 refine fx 2 ce (fx 3 ck (fx 27 cg (fx 28 ch (fx 29 cj (U (fun _ bC=>(p (lt rfl rfl) (ag ((bC _ _ (sq (fun _ bE=>cd rfl (fun aK=> ?_) (fun aK=> ?_)))))))))))))
 refine au (tn (bE _ _ (sq (fun _ aV=>az (sq (fun _ aW=> ?_))))))
 obtain ⟨cy,cq,a6⟩:=c4.get (hF2.wk ay).al (show i < F.aliases.length by omega)
 obtain ⟨bV,ci,rfl⟩:=a6.slice
 refine rg rfl (ab (aa i) (p (aJ s0 rfl rfl (by omega) (ak.ok ((aI J).2) (fun h=>by rw [h] at aw; simp at aw; omega))) (p (ld ml rfl (ak.gC (aI J).2 ((sW bx).trans cq))) (p (bG (aa i) rfl) (ae (((aW _ _ ?_))))))))
 have ac:(fun w'=>Wk wI w') wI.drew:=(Md.refl _ _).drew
 refine dG (fun w'=>Wk wI w') 6 rfl wide ac (lq 0 rfl (by kernel_rfl) (fun _ _=>fa kZ rfl) ac (lq 1 rfl (by kernel_rfl) (fun w' aj=>ld mm rfl (Wk.aC aj ((aO av).trans rfl))) ac (lq 2 rfl (by kernel_rfl) (fun _ _=>aB (aa i) rfl) ac (lq 3 rfl (by kernel_rfl) (fun _ _=>mv) ac (fA 4 rfl (by kernel_rfl) (cl pK (pU bV (F.aliases.getD i []).length ci ((F.aliases.getD i []).map aM) wI.drew (ak.wk a6.bH.2 ac) (by simp) (fun h=>Tg.qP a6 (by simp) h) (pA _) (by have :=hnx.1 _ (c6 (d:= []) (show i < F.aliases.length by omega)); omega)) rfl fun ct w38 b6=> ?_))))))
 obtain ⟨a8,bi⟩:=b6
 have E:Wk wI w38:=ac.trans bi
 have hSI:=E
 have bl:(fun w'=>Wk wI w') w38:=ac.trans bi
 refine ⟨bl,?_⟩
 refine lq 5 rfl (by kernel_rfl) (fun _ _=>aJ s0 rfl rfl (by omega) (ak.ok ((aI J).2) (fun h=>by rw [h] at aw; simp at aw; omega))) bl (cD 6 rfl (by kernel_rfl) (by kernel_rfl) (nB (j:=i) (aE J E) p4 rfl rfl (dT a8) (by simp) (by omega) fun w10 ah ho10=> ?_))
 have b1:Wk Y w10:=Wk.own (ay.trans E) (aE J E) ah (by omega)
 have ho38x:=bW (fZ a8 (show w3.heap.size≤wI.heap.size by omega)) ah (fun q a=>jh a8 (aE J E) (by decide) a)
 have hal10:=(hal.wk E).md ah (eN (aE J E) (by decide))
 have ho9J:=bW (aE aS E) ah (fun q a=>jh (aE aS E) (aE J E) (by decide) a)
 have ho11J:=bW (aE aQ E) ah (fun q a=>jh (aE aQ E) (aE J E) (by decide) a)
 have hcJ:=ah.az (Wk.az E av) (fun h=>by have :=(c7 (aE J E) h).1; omega)
 refine dF (by kernel_rfl) ?_
 exact bn (tn (aV _ _ (rg rfl (p (ad rfl rfl (bp (by omega))) (p mv (ag ((⟨_,by omega,i+1,sa.set i ct,(by omega),((by rw [List.length_set]; exact aw)),(set_drop bx),(wh hal10 (by omega) (by omega) (Tg.fT ho38x)),ho10,ho9J,ho11J,hcJ,b1,((by have :=hSI.size; have :=ah.size; omega)),rfl,rfl,rfl,rfl,rfl,rfl⟩))))))))
 refine ext (te _ (te _ (be (tn (bS _ _ (U (fun _ aV=>(p (fa k0 rfl) ?_))))))))
 refine p (ld mo rfl ((aO av).trans rfl)) (e (cl Ef (EP V.cB F.rules.length (fU (F.rules.zip V.rn)) wI (Rd.fT (hF2.wk ay).cM) (Kz aA.nx) (by omega)) rfl fun bA w43 b7=> ?_))
 obtain ⟨bv,hE43⟩:=b7
 have hz43:=hE43.size
 have ho43x:=fZ bv (show w3.heap.size≤wI.heap.size by omega)
 rw [List.take_of_length_le (by omega),List.take_of_length_le (by omega)] at hal
 refine p (fa k0 rfl) (e (ca ya rfl rfl (v:=bA) (dT bv) (Wk.az hE43 av) (by show _ < 13; omega) fun w12 ai hB12=> ?_))
 have hE12:Wk Y w12:=(ay.trans hE43).trans' ai (fun q a h=>by omega)
 have hz12:=ai.size
 have ho9b:=bW (aE aS hE43) ai (fun q a h=>by have :=(c7 (aE aS hE43) a).1; omega)
 have ho10b:=bW (aE J hE43) ai (fun q a h=>by have :=(c7 (aE J hE43) a).1; omega)
 have ho11b:=bW (aE aQ hE43) ai (fun q a h=>by have :=(c7 (aE aQ hE43) a).1; omega)
 have ho12b:=bW ho43x ai (fun q a h=>by have :=(c7 ho43x a).1; omega)
 have halb:=(hal.wk hE43).md ai (dK (Wk.az hE43 av) (by decide))
 have bo:w12.heap[O]? =some (.cells (iF F ⟨M,.slice Z F.aliases.length gD,v20,bA,V.sa,V.rn⟩).toArray 87 (0,0)):=hB12
 obtain ⟨an,gq,rfl⟩:=bU ho12b
 have hrl:V.rn.length=F.rules.length:=by have :=aA.nx.1; rwa [List.length_map] at this
 refine ag ((aV _ _ (sq (fun _ aW=>U (fun _ bF=>(p (fa k0 rfl) (p (ld mo rfl ((aO bo).trans rfl)) (p (ba rE rfl rfl) ?_))))))))
 refine p mv (ag ((bF _ _ (az (lp (fun ao ax C=> ∃ (i:Nat) (rn:List Value),(i≤F.rules.length)∧(rn.length=F.rules.length)∧(rn.drop i=V.rn.drop i)∧(c4 C w3.heap.size 71 (rn.take i) ((F.rules.map (·.next)).take i))∧(World.ownsRow C w3.heap.size 155 7 (.slice an F.rules.length gq) F.rules.length (fU (F.rules.zip rn)))∧(World.ownsRow C w3.heap.size 163 2 (M) F.bL.length (gS F.bL))∧(World.ownsRow C w3.heap.size 54 1 (.slice Z F.aliases.length gD) F.aliases.length (sa))∧(c4 C w3.heap.size 71 sa F.aliases)∧(World.ownsRow C w3.heap.size 157 5 (v20) F.aX.length (js F.aX))∧(C.heap[O]? =some (.cells (iF F ⟨M,.slice Z F.aliases.length gD,v20,.slice an F.rules.length gq,V.sa,V.rn⟩).toArray 87 (0,0)))∧(Wk Y C)∧(w3.heap.size≤C.heap.size)∧(ax 2=aG aZ)∧(ax 3=aG O)∧(ax 47=aa (F.rules.length))∧(ax 48=aa i)∧(F.rules.length - i=ao)) _ ⟨0,V.rn,(by omega),hrl,rfl,(c4.nil _ _ _),ho12b,ho9b,ho10b,halb,ho11b,bo,hE12,((by omega)),rfl,rfl,rfl,rfl,rfl⟩ ?_)))))
 rintro ao ax C ⟨i,rn,hi,cc,bw,hnl,G,aT,aP,bm,aR,aL,aq,cx,cm,cn,co,cp,rfl⟩
 refine fx 2 cm (fx 3 cn (fx 47 co (fx 48 cp (U (fun _ bI=>(p (lt rfl rfl) (ag ((bI _ _ (sq (fun _ bJ=>cd rfl (fun b9=> ?_) (fun b9=> ?_))))))))))))
 refine au (tn (bJ _ _ (sq (fun _ aY=>az (sq (fun _ bK=> ?_))))))
 obtain ⟨vn,cr,a7⟩:=c4.get (hF2.wk aq).nx (show i < (F.rules.map (·.next)).length by rw [List.length_map]; omega)
 obtain ⟨bf,bg,rfl⟩:=a7.slice
 obtain ⟨q,bb⟩:∃ q,F.rules[i]? =some q:=⟨_,List.getElem?_eq_getElem (by omega)⟩
 have cb:(F.rules.map (·.next)).getD i []=q.next:=by rw [List.getD_eq_getElem?_getD,List.getElem?_map,bb]; rfl
 have hql:=hnx.2 q (List.mem_of_getElem? bb)
 rw [← cb] at hql
 have bc:(F.rules.zip rn)[i]? =some (q,.slice bf ((F.rules.map (·.next)).getD i []).length bg):=List.getElem?_zip_eq_some.2 ⟨bb,(sW bw).trans cr⟩
 refine rg rfl (ab (aa i) (p (bG (aa i) rfl) (ag ((bK _ _ ?_)))))
 have I:(fun w'=>Wk C w') C.drew:=(Md.refl _ _).drew
 refine dG (fun w'=>Wk C w') 12 rfl wide I (a5 0 rfl (fun _=>fa k0 rfl) (fun _=>I) (cO 1 rfl (fun w' aj=>ld mo rfl (Wk.aC aj ((aO aL).trans rfl))) I (a3 2 rfl (aa i) I (a5 3 rfl (fun _=>fa k0 rfl) (fun _=>I) (cO 4 rfl (fun w' aj=>ld mo rfl (Wk.aC aj ((aO aL).trans rfl))) I (a3 5 rfl (aa i) I (a5 6 rfl (fun _=>aJ s5 rfl rfl (by omega) (ak.ok ((aI G).2) (A3 bc))) (fun _=>I) ?_)))))))
 refine a5 7 rfl (fun _=>fa qq rfl) (fun _=>I) (cO 8 rfl (fun w' aj=>ld ml rfl (Wk.aC aj (gi (f:=iq) (m:=7) (fun _=>rfl) (aI G).2 bc 6 (by decide)))) I (fA 9 rfl (by kernel_rfl) (cl pK (pU bf ((F.rules.map (·.next)).getD i []).length bg (((F.rules.map (·.next)).getD i []).map aM) C.drew (ak.wk a7.bH.2 I) (by simp) (fun h=>Tg.qP a7 (by simp) h) (pA _) (by omega)) rfl fun cu w60 b8=> ?_)))
 obtain ⟨a9,hE60⟩:=b8
 have A:Wk C w60:=I.trans hE60
 have hSK:=A
 have a4:(fun w'=>Wk C w') w60:=I.trans hE60
 refine ⟨a4,?_⟩
 refine a5 10 rfl (fun _=>aJ s5 rfl rfl (by omega) (ak.ok ((aI G).2) (A3 bc))) (fun _=>a4) (a5 11 rfl (fun _=>fa qq rfl) (fun _=>a4) (cD 12 rfl (by kernel_rfl) (by kernel_rfl) (nB (j:=i*7 +6) (aE G A) p4 rfl rfl (dT a9) (by rw [Int.toNat_natCast]; omega) (by omega) fun w16 hM16 bs=> ?_)))
 rw [KA (by omega) (by omega)] at bs
 have b2:Wk Y w16:=Wk.own (aq.trans A) (aE G A) hM16 (by omega)
 have ho60x:=bW (fZ a9 (show w3.heap.size≤C.heap.size by omega)) hM16 (fun q a=>jh a9 (aE G A) (by decide) a)
 have hnl16:=(hnl.wk A).md hM16 (eN (aE G A) (by decide))
 have hal16:=(bm.wk A).md hM16 (eN (aE G A) (by decide))
 have ho9L:=bW (aE aT A) hM16 (fun q a=>jh (aE aT A) (aE G A) (by decide) a)
 have ho10L:=bW (aE aP A) hM16 (fun q a=>jh (aE aP A) (aE G A) (by decide) a)
 have ho11L:=bW (aE aR A) hM16 (fun q a=>jh (aE aR A) (aE G A) (by decide) a)
 have hcL:=hM16.az (Wk.az A aL) (fun h=>by have :=(c7 (aE G A) h).1; omega)
 refine dF (by kernel_rfl) ?_
 exact bn (tn (aY _ _ (rg rfl (p (ad rfl rfl (bp (by omega))) (p mv (ag ((⟨_,by omega,i+1,rn.set i cu,(by omega),((by rw [List.length_set]; exact cc)),(set_drop bw),(wh hnl16 (by rw [List.length_map]; omega) (by omega) (Tg.fT ho60x)),bs,ho9L,ho10L,hal16,ho11L,hcL,b2,((by have :=hSK.size; have :=hM16.size; omega)),rfl,rfl,rfl,rfl,rfl⟩))))))))
 refine ext (te _ (te _ (be (tn (aW _ _ (U (fun _ aY=>(p (dx rV rfl (rfl) (show ∀ j,j < 13→Hb.aC C.heap O (0 +j)=(iF F ⟨M,.slice Z F.aliases.length gD,v20,.slice an F.rules.length gq,V.sa,V.rn⟩)[j]? from fun j hj=>(aO aL).trans (by match j,hj with | 0,_=>rfl | 1,_=>rfl | 2,_=>rfl | 3,_=>rfl | 4,_=>rfl | 5,_=>rfl | 6,_=>rfl | 7,_=>rfl | 8,_=>rfl | 9,_=>rfl | 10,_=>rfl | 11,_=>rfl | 12,_=>rfl))) ?_))))))))
 refine e (fV yb rfl rfl rfl (wq (dT aT) (dT aP) (dT aR) (dT G)) (Wk.az aq hB2) (by decide) fun w18 aD hB18=>ag ((aY _ _ (rt (oa rfl (c8 (cs:=iF F ⟨M,.slice Z F.aliases.length gD,v20,.slice an F.rules.length gq,V.sa,V.rn⟩) rfl rV rfl (fun j hj=>(bD.c5 ⟨_,hB18⟩ j).trans rfl)) ?_)))))
 have aN:∀ {t s n:Nat} {v:Value} {xs:List Value},World.ownsRow C w3.heap.size t s v n xs→World.ownsRow w18 w.heap.size t s v n xs:=fun h=>fZ (bW h aD (fun q a h2=>by have :=(c7 h a).1; omega)) (by omega)
 rw [List.take_of_length_le (by omega),List.take_of_length_le (by rw [List.length_map]; omega)] at hnl
 have hfl:∀ k,k=aZ→∀ cur z,C.heap[k]?≠some (.cells cur 71 z):=dK (Wk.az aq hB2) (by decide)
 exact ⟨⟨⟨M,.slice Z F.aliases.length gD,v20,.slice an F.rules.length gq,sa,rn⟩,rfl,⟨aN aT,aN aP,(bm.md aD hfl).mono (by omega),aN aR,aN G,(hnl.md aD hfl).mono (by omega)⟩⟩,(a2.md.trans aq).trans' aD (fun q a h=>by omega)⟩
end Go.Hb.j9
end
section
set_option maxRecDepth 20000
set_option maxHeartbeats 1000000
namespace Go.Hb.ly
open Go.Hb.di
open Go.Proofs
open Go.Hb.eS Go.Hb.fE Go.Hb.fN Go.Hb.iw Go.Hb.jN Go.Hb.kK Go.Hb.gU Go.Hb.lr Go.Hb.gW Go.Hb.j9 Go.Hb.kg Go.Hb.gA Go.Hb.o4 Go.Hb.gl
noncomputable def g5 (r:List Tx):Nat×Int:=if r.length≠1 then (0,111) else cH (r.getD 0 []) 8192
def Cn (i w':World) (X:Except Nat cV) (v:Value):Prop :=(∃ x a,X= .ok x∧v= .tuple #[.agg [str x.1,a].toArray,.int .i64 (0:Nat)]∧World.ownsRow w' i.heap.size 71 1 a x.2.length (x.2.map aM))∨(∃ e,X= .error e∧e≠0∧v= .tuple #[.agg [str [],.slice none 0 0].toArray,.int .i64 (e:Nat)])
theorem Az {s:Tx} {i:Nat} (hi:i < s.length):(s.take (i+1)).drop i= [s.getD i 0]:=by
 rw [oL 0 (Nat.le_refl i) hi,List.drop_eq_nil_of_le (by rw [List.length_take]; omega),List.nil_append]
theorem BY (b:UInt8):lk [b]=fj b:=by unfold lk; rw [C7]; cases fj b <;> rfl
theorem yg {F:aH} {x:Nat} (h:(dJ F.aX x).isSome=true∨x∈F.sp):dw F x=true :=by
 unfold dw; rcases h with h | h
 · rw [h,Bool.or_true]
 · rw [decide_eq_true h]; rfl
theorem FO {F:aH} {x:Nat} (h:(dJ F.aX x).isSome=false) (h1:x∉F.sp):dw F x=false :=by
 unfold dw; rw [h,decide_eq_false h1]; rfl
theorem Lb {F:aH} (h:F.sp.length=5):[F.sp.getD 0 0,F.sp.getD 1 0,F.sp.getD 2 0,F.sp.getD 3 0,F.sp.getD 4 0]=F.sp:=by
 match F.sp,h with
 | [a,b,c,d,e],_=>rfl
theorem H9 (a:Option Addr) (c:Nat) (l:List Nat) (x:Nat) (w:World) (hC:ak w.heap a (l.map aM)) (hl:l.length≤1048576):
 aU Tryz.prog 105 (List.toArray [.slice a l.length c,aM x]) w (fun v w'=>(∃ k:Int,v= .int .i64 k∧(0≤k↔x∈l)∧ -1≤k∧k≤1048576)∧Wk w w'):=by
 refine enter Tryz.func105 rfl Tryz.ntmps105 rfl ?_
 refine U (fun _ G=>(ae (((G _ _ (sq (fun _ I=>U (fun _ J=> ?_))))))))
 refine ab (.slice a l.length c) (p (ba kD rfl rfl) (p mv (ag ((J _ _ (az (lp (fun A q wI=> ∃ (i:Nat),(i≤l.length)∧(∀ j,j < i→l.getD j 0≠x)∧(wI=w)∧(q 0= .slice a l.length c)∧(q 1=aM x)∧(q 7=aa (l.length))∧(q 8=aa i)∧(l.length - i=A)) _ ⟨0,(by omega),((fun j hj=>by omega)),rfl,rfl,rfl,rfl,rfl,rfl⟩ ?_)))))))
 rintro A q wI ⟨i,hi,E,ac,ai,al,am,an,rfl⟩
 refine fx 0 ai (fx 1 al (fx 7 am (fx 8 an ?_)))
 subst ac
 refine U (fun _ M=>(p (lt rfl rfl) (ag ((M _ _ (sq (fun _ O=>cd rfl (fun ah=> ?_) (fun ah=> ?_))))))))
 refine au (tn (O _ _ (sq (fun _ s=>az (U (fun _ V=>(ab (aa i) (p (bG (aa i) rfl) ?_))))))))
 refine ag ((V _ _ (U (fun _ Y=>(ab (aM x) (ab (.slice a l.length c) (ab (aa i) (p (aJ bj rfl rfl (by omega) (ak.ok (hC) (bl (by omega)))) ?_))))))))
 refine p (ld bJ rfl (ak.gC hC (show (l.map aM)[i]? =some (aM (l.getD i 0)) by rw [List.getElem?_map,List.getD_eq_getElem?_getD,List.getElem?_eq_getElem (by omega :i < l.length)]; rfl))) ?_
 refine p (a8 rfl rfl) (ag ((Y _ _ (cd rfl (fun C=> ?_) (fun C=> ?_)))))
 refine U (fun _ Z=>(ab (aa i) (p (bG (aa i) rfl) (ag ((Z _ _ (rt (br ?_))))))))
 exact tr (tr (br (tr (f1 rfl rfl (⟨⟨(i:Nat),rfl,⟨fun _=>by obtain rfl :x=l.getD i 0:=(by omega); exact c6 (by omega),fun _=>by omega⟩,by omega,by omega⟩,Md.refl _ _⟩)))))
 refine au (bn (tn (s _ _ (rg rfl (p (ad rfl rfl (bp (by omega))) (p mv (nl (tn ?_))))))))
 exact ⟨_,by omega,i+1,(by omega),((fun j hj=>by rcases Nat.lt_or_ge j i with h | h <;> first | exact E j h | (rw [show j=i by omega]; exact fun h2=>C (by rw [h2])))),rfl,rfl,rfl,rfl,rfl,rfl⟩
 refine ext (te _ (te _ (be (tn (I _ _ (U (fun _ s=>(p aj ?_))))))))
 exact ag ((s _ _ (rt (f1 rfl rfl (⟨⟨-1,rfl,⟨fun h=>absurd h (by omega),fun h=>by obtain ⟨j,hj,e⟩:=k5 0 h; exact absurd e (E j (by omega))⟩,by omega,by omega⟩,Md.refl _ _⟩)))))
theorem Fe (a:Option Addr) (c:Nat) (l:List Nat) (x:Nat) (w:World) (hC:ak w.heap a (l.map aM)) (hl:l.length≤1048576):
 aU Tryz.prog 76 (List.toArray [.slice a l.length c,aM x]) w (fun v w'=>v= .bool (decide (x∈l))∧Wk w w'):=by
 refine enter Tryz.func76 rfl Tryz.ntmps76 rfl ?_
 refine U (fun _ i=>(ae (((i _ _ (U (fun _ j=>(ab (.slice a l.length c) ?_))))))))
 refine ab (aM x) (e (cl C9 (H9 a c l x w hC hl) rfl fun C w7 hR7=> ?_))
 obtain ⟨⟨s,rfl,q,A⟩,hE7⟩:=hR7
 exact p (ge rfl rfl) (ae (((j _ _ (rt (f1 rfl rfl (⟨by show Value.bool (decide (s≥0))=_; exact congrArg Value.bool (decide_eq_decide.2 q),hE7⟩)))))))
theorem mz (ln er:Int) (w:World):
 aU Tryz.prog 36 (List.toArray [.int .i64 ln,.int .i64 er]) w (fun v w'=>v= .agg [.int .i64 2,.int .i64 ln,.int .i64 er].toArray∧Wk w w'):=by
 refine enter Tryz.func36 rfl Tryz.ntmps36 rfl ?_
 refine U (fun _ a=>(e (al iP fun G w4 I E A=>ag ((a _ _ (U (fun _ i=>(ab (.int .i64 ln) ?_))))))))
 exact ab (.int .i64 er) (p (bY (ps:= [(0,.int .i64 2),(1,.int .i64 ln),(2,.int .i64 er)]) (L:= [.int .i64 2,.int .i64 ln,.int .i64 er]) nA rfl (rfl)) (e (bX fR rfl rfl rfl rfl (A) (by simp) fun M C s=>ag ((i _ _ (rt (oa rfl (c8 (cs:= [.int .i64 2,.int .i64 ln,.int .i64 er]) rfl iX rfl (fun j hj=>s.c5 j)) (⟨rfl,E.md.trans' C (fun q J h=>by omega)⟩))))))))
theorem FZ (n:Nat) (r:List Tx) (B:Nat) (a:Option Addr) (c:Nat) (w:World) (hT:Tg w B 9 r.length (.slice a r.length c) (r.map str)) (hrl:∀ x∈r,x.length≤70000) (hr:r.length≤70000):
 aU Tryz.prog 37 (List.toArray [.agg [aa n,.slice a r.length c].toArray]) w (fun v w'=>v= .tuple #[aa ((g5 r).1),.int .i64 (g5 r).2]∧Wk w w'):=by
 refine enter Tryz.func37 rfl Tryz.ntmps37 rfl ?_
 refine U (fun _ s=>(e (jo rfl fun I w1 J q hB1=> ?_)))
 have hT1:=hT.wk q.md
 refine p aj (ae (((s _ _ (sq (fun _ A=>U (fun _ C=>(p (fa oe rfl) ?_))))))))
 refine p (ld gd rfl ((hB1.aC 1).trans rfl)) (p (ba c9 rfl rfl) (p (bP rfl rfl) (ag ((C _ _ (cd rfl (fun G=> ?_) (fun G=> ?_)))))))
 refine U (fun _ j=>(p aj (ae (((j _ _ (rt (tr ?_))))))))
 refine f2 rfl rfl rfl ?_
 have h1:r.length≠1:=by omega
 exact ⟨by unfold g5; rw [if_pos h1]; rfl,q.md⟩
 refine au (tn (A _ _ (U (fun _ j=>(p (fa oe rfl) (p (ld gd rfl ((hB1.aC 1).trans rfl)) (p (aJ bA rfl rfl (by omega) (ak.ok (hT1.bH.2) (bl (by omega)))) (p (ld bw rfl (bh.get (i:=0) hT1.bH.2 (by omega))) ?_))))))))
 refine e (cl pL (qS (r.getD 0 []) 8192 w1 (by have :=hrl _ (c6 (d:= []) (show 0 < r.length by omega)); omega) (by omega)) rfl fun cB w12 E=> ?_)
 obtain ⟨rfl,hE12⟩:=E
 refine p (xt rfl rfl) (p (xt rfl rfl) (p aj (ae (((j _ _ (rt (f2 rfl rfl rfl ?_))))))))
 have h1:¬r.length≠1:=by omega
 exact ⟨by unfold g5; rw [if_neg h1]; rfl,q.md.trans hE12⟩
theorem FW (B fb mc:Nat) (F:aH) (V:dV) (n:Nat) (r:List Tx) (a6:Nat) (aX:Option Addr) (aZ:Nat) (w:World) (aL:cC w B fb mc F V) (bO:∃ seen,hZ F [] seen) (b8:Tg w a6 9 r.length (.slice aX r.length aZ) (r.map str)) (hrl:∀ x∈r,x.length≤70000) (hr:r.length≤70000):
 aU Tryz.prog 39 (List.toArray [aG fb,.agg [aM (F.sp.getD 0 0),aM (F.sp.getD 1 0),aM (F.sp.getD 2 0),aM (F.sp.getD 3 0),aM (F.sp.getD 4 0)].toArray,.agg [aa n,.slice aX r.length aZ].toArray]) w (fun v w'=>Cn w w' (eA F r) v∧Wk w w'):=by
 obtain ⟨seen,aq⟩:=bO
 have hbl:=aq.len
 have hwl:=mQ (r.getD 0 [])
 refine enter Tryz.func39 rfl Tryz.ntmps39 rfl ?_
 refine U (fun _ a7=>(e (jo rfl fun aF w4 cJ a3 bL=>e (jo rfl fun cF w5 hb5 aN bM=>e (al Ce fun aY w6 hb6 av hB6=> ?_)))))
 have ar:Wk w w6:=a3.md.trans (aN.md.trans av.md)
 have hq4:=av.md.B (aN.md.B bL)
 have hq5:=av.md.B bM
 have hT:=b8.wk ar
 have hF6:=aL.wk ar
 have hz4:=a3.size
 have hz5:=aN.size
 have hz6:=av.size
 refine ae (((a7 _ _ (sq (fun _ bd=>U (fun _ bo=>(p (fa oe rfl) (p (ld gd rfl ((hq5.aC 1).trans rfl)) ?_))))))))
 refine p (ba c9 rfl rfl) (p (bP rfl rfl) (ag ((bo _ _ (cd rfl (fun b9=> ?_) (fun b9=> ?_))))))
 refine U (fun _ aB=>(p (bY (ps:= []) (L:= [.string ⟨⟨[]⟩⟩,.slice none 0 0]) la rfl (rfl)) (e (bX km rfl rfl rfl rfl (hB6) (by simp) fun cZ b1 bK=>ae (((aB _ _ (rt ?_))))))))
 exact tr (dO rfl (c8 (cs:= [str [],.slice none 0 0]) rfl ki rfl (fun j hj=>bK.c5 j)) dE (⟨.inr ⟨111,yy (by omega),by decide,rfl⟩,ar.trans' b1 (fun q A h=>by omega)⟩))
 have hr1:r.length=1:=by omega
 have cK:(r.getD 0 []).length≤70000:=hrl _ (c6 (by omega))
 refine au (tn (bd _ _ (U (fun _ aB=>(p (fa oe rfl) (p (ld gd rfl ((hq5.aC 1).trans rfl)) (p (aJ bA rfl rfl (by omega) (ak.ok (hT.bH.2) (bl (by omega)))) (p (ld bw rfl (bh.get (i:=0) hT.bH.2 (by omega))) ?_))))))))
 refine e (cl sx (vv (r.getD 0 []) w6 (by omega)) rfl fun cL w28 b3=> ?_)
 obtain ⟨rfl,ai⟩:=b3
 have hE28x:=ar.trans ai
 have hb28:=ai.B hB6
 have hz28:=ai.size
 refine p mv (p (xt rfl rfl) (p (xt rfl rfl) (p (xt rfl rfl) (p (xt rfl rfl) (p aj (p aj (p aj ?_)))))))
 refine ae (((aB _ _ (sq (fun _ bq=>U (fun _ bs=>(p mv (p (bP rfl rfl) ?_))))))))
 refine ag ((bs _ _ (cd rfl (fun ca=> ?_) (fun ca=> ?_))))
 refine U (fun _ aD=>(p (bY (ps:= []) (L:= [.string ⟨⟨[]⟩⟩,.slice none 0 0]) la rfl (rfl)) (p mv (e (bX km rfl rfl rfl rfl (hb28) (by simp) fun c0 b2 bN=>ae (((aD _ _ ?_))))))))
 exact rt (tr (dO rfl (c8 (cs:= [str [],.slice none 0 0]) rfl ki rfl (fun j hj=>bN.c5 j)) dE (⟨.inr ⟨_,qa hr1 (by omega),(by omega),rfl⟩,hE28x.trans' b2 (fun q A h=>by omega)⟩)))
 have Y:(aV (r.getD 0 [])).2.2.2=0:=by omega
 refine au (tn (bq _ _ (sq (fun _ aD=>U (fun _ bt=>(p mv (p (bI u9 rfl rfl) (p mv ?_))))))))
 refine ag ((bt _ _ (az (lp (fun ah E wI=> ∃ (i:Nat),(i≤(aV (r.getD 0 [])).1.length)∧(∀ j,j < i→fj ((aV (r.getD 0 [])).1.getD j 0)=true)∧(Wk w28 wI)∧(E 0=aG fb)∧(E 4=aG aF)∧(E 6=aG aY)∧(E 8=str (aV (r.getD 0 [])).1)∧(E 9=str (aV (r.getD 0 [])).2.1)∧(E 10= .bool (aV (r.getD 0 [])).2.2.1)∧(E 38=aa ((aV (r.getD 0 [])).1.length))∧(E 39=aa i)∧((aV (r.getD 0 [])).1.length - i=ah)) _ ⟨0,(by omega),((fun j hj=>by omega)),(Md.refl _ _),rfl,rfl,rfl,rfl,rfl,rfl,rfl,rfl,rfl⟩ ?_))))
 rintro ah E wI ⟨i,hi,a5,C,cj,co,cp,cq,cr,ck,cm,cn,rfl⟩
 refine fx 0 cj (fx 4 co (fx 6 cp (fx 8 cq (fx 9 cr (fx 10 ck (fx 38 cm (fx 39 cn (U (fun _ bu=>(p (lt rfl rfl) (ag ((bu _ _ (sq (fun _ a8=>cd rfl (fun cc=> ?_) (fun cc=> ?_))))))))))))))))
 refine au (tn (a8 _ _ (sq (fun _ aw=>az (U (fun _ ax=>(ab (aa i) (p (bG (aa i) rfl) ?_))))))))
 refine ag ((ax _ _ (U (fun _ Z=>(ab (str (aV (r.getD 0 [])).1) (ab (aa i) (ab (aa i) (p (ad rfl rfl (bp (by omega))) ?_))))))))
 refine p (iN u9 rfl rfl rfl (by omega)) (e (cl xE (BZ (((aV (r.getD 0 [])).1.take (i+1)).drop i) wI (by rw [Az (by omega)]; simp)) rfl fun cM cP b4=> ?_))
 obtain ⟨rfl,hE47⟩:=b4
 have hon:=Az (s:=(aV (r.getD 0 [])).1) (i:=i) (by omega)
 have hE47x:=C.trans hE47
 refine p (no rfl) (ag ((Z _ _ (cb rfl (fun aP=> ?_) (fun aP=> ?_)))))
 have aS:fj ((aV (r.getD 0 [])).1.getD i 0)=false :=by rw [← BY,← hon]; simpa using aP
 refine U (fun _ ac=>(p (bY (ps:= []) (L:= [.string ⟨⟨[]⟩⟩,.slice none 0 0]) la rfl (rfl)) (e (bX km rfl rfl rfl rfl (Wk.B hE47x hb28) (by simp) fun cS bQ bv=>ae (((ac _ _ (rt ?_))))))))
 exact br (tr (tr (br (tr (dO rfl (c8 (cs:= [str [],.slice none 0 0]) rfl ki rfl (fun j hj=>bv.c5 j)) dE (⟨.inr ⟨21,qc hr1 Y (.inl (m6 (by omega) aS)),by decide,rfl⟩,(hE28x.trans hE47x).trans' bQ (fun q A h=>by omega)⟩))))))
 have aS:fj ((aV (r.getD 0 [])).1.getD i 0)=true :=by rw [← BY,← hon]; simpa using aP
 refine au (bn (tn (aw _ _ (rg rfl (p (ad rfl rfl (bp (by omega))) (p mv (nl (tn ?_))))))))
 exact ⟨_,by omega,i+1,(by omega),((fun j hj=>by rcases Nat.lt_or_ge j i with h | h <;> first | exact a5 j h | (rw [show j=i by omega]; exact aS))),hE47x,rfl,rfl,rfl,rfl,rfl,rfl,rfl,rfl,rfl⟩
 refine ext (te _ (te _ (be (tn (aD _ _ (sq (fun _ aw=>az (sq (fun _ ax=> ?_)))))))))
 refine rg rfl (ab (str (aV (r.getD 0 [])).1) (p (cG rfl rfl) (ae (((ax _ _ (cd rfl (fun O=> ?_) (fun O=> ?_))))))))
 refine U (fun _ Z=>(p (bY (ps:= []) (L:= [.string ⟨⟨[]⟩⟩,.slice none 0 0]) la rfl (rfl)) (e (bX km rfl rfl rfl rfl (Wk.B C hb28) (by simp) fun cT bR bx=>ae (((Z _ _ (rt ?_))))))))
 exact br (tr (dO rfl (c8 (cs:= [str [],.slice none 0 0]) rfl ki rfl (fun j hj=>bx.c5 j)) dE (⟨.inr ⟨21,qc hr1 Y (.inr O),by decide,rfl⟩,(hE28x.trans C).trans' bR (fun q A h=>by omega)⟩)))
 have hby:=nY (w:=(aV (r.getD 0 [])).1) (fun j hj=>a5 j (by omega))
 refine U (fun _ Z=>(ab (str (aV (r.getD 0 [])).1) (p (bI u9 rfl rfl) (p (gt rfl rfl) (ae (((Z _ _ ?_))))))))
 refine cd rfl (fun ce=> ?_) (fun ce=> ?_)
 refine U (fun _ ac=>(p (bY (ps:= []) (L:= [.string ⟨⟨[]⟩⟩,.slice none 0 0]) la rfl (rfl)) (e (bX km rfl rfl rfl rfl (Wk.B C hb28) (by simp) fun cU bS bz=>ae (((ac _ _ (rt ?_))))))))
 exact br (tr (dO rfl (c8 (cs:= [str [],.slice none 0 0]) rfl ki rfl (fun j hj=>bz.c5 j)) dE (⟨.inr ⟨22,yz hr1 Y hby O (by omega),by decide,rfl⟩,(hE28x.trans C).trans' bS (fun q A h=>by omega)⟩)))
 refine U (fun _ ac=>(ab (.bool (aV (r.getD 0 [])).2.2.1) (p (no rfl) (ae (((ac _ _ (cb rfl (fun am=> ?_) (fun am=> ?_)))))))))
 refine U (fun _ ay=>(ab (str (aV (r.getD 0 [])).1) (p (bY (ps:= [(0,str (aV (r.getD 0 [])).1)]) (L:= [str (aV (r.getD 0 [])).1,.slice none 0 0]) la rfl (rfl)) (e (bX km rfl rfl rfl rfl (Wk.B C hb28) (by simp) fun cV bT bC=>ae (((ay _ _ ?_))))))))
 exact rt (br (tr (dO rfl (c8 (cs:= [str (aV (r.getD 0 [])).1,.slice none 0 0]) rfl ki rfl (fun j hj=>bC.c5 j)) dE (⟨.inl ⟨_,.slice none 0 0,sY hr1 Y hby O (by omega) (by simpa using am),rfl,World.ownsRow_nil _ _ _ _⟩,(hE28x.trans C).trans' bT (fun q A h=>by omega)⟩))))
 refine au (bn (tn (aw _ _ (U (fun _ ay=>(ab (aG fb) (ab (str (aV (r.getD 0 [])).2.1) (e (cl xF (yL B fb mc F V (aV (r.getD 0 [])).2.1 wI (hF6.wk (ai.trans C)) aq.kd aq.al (by omega) (by omega)) rfl fun cB w68 b5=> ?_)))))))))
 obtain ⟨ci,aK⟩:=b5
 have hE68x:=hE28x.trans (C.trans aK)
 have hb68:=Wk.B (C.trans aK) hb28
 obtain ⟨cD,cH,rfl,hcs⟩:∃ a,∃ e:Nat,cB= .tuple #[a,aa e]∧((e=0∧∃ l,ec F.kind F.aliases (aV (r.getD 0 [])).2.1= .ok l∧World.ownsRow w68 wI.heap.size 71 1 a l.length (l.map aM))∨(e≠0∧ec F.kind F.aliases (aV (r.getD 0 [])).2.1= .error e)):=by
  rcases ci with ⟨a,l,h1,h2,h3⟩ | ⟨a,e,h1,h2,h3⟩
  exact ⟨a,0,h1,.inl ⟨rfl,l,h2,h3⟩⟩
  exact ⟨a,e,h1,.inr ⟨h2,h3⟩⟩
 refine p mv (p (xt rfl rfl) (p (xt rfl rfl) (p aj (ae (((ay _ _ (sq (fun _ a9=> ?_)))))))))
 refine U (fun _ bb=>(p mv (p (bP rfl rfl) (ag ((bb _ _ (cd rfl (fun cg=> ?_) (fun cg=> ?_))))))))
 obtain ⟨hne,an⟩:=hcs.resolve_left (fun h=>by omega)
 refine U (fun _ aA=>(p (bY (ps:= []) (L:= [.string ⟨⟨[]⟩⟩,.slice none 0 0]) la rfl (rfl)) (p mv (e (bX km rfl rfl rfl rfl (hb68) (by simp) fun cW bV bD=>ae (((aA _ _ ?_))))))))
 exact rt (tr (dO rfl (c8 (cs:= [str [],.slice none 0 0]) rfl ki rfl (fun j hj=>bD.c5 j)) dE (⟨.inr ⟨_,yA hr1 Y hby O (by omega) (by simpa using am) an,hne,rfl⟩,hE68x.trans' bV (fun q A h=>by omega)⟩)))
 obtain ⟨_,set,an,ao⟩:=hcs.resolve_right (fun h=>by omega)
 obtain ⟨J,M,rfl⟩:=bU ao
 have hsl:=qj (fun l hl=>(aq.al l hl).1) an
 refine au (tn (a9 _ _ (sq (fun _ aA=>U (fun _ bc=>(p mv (p (ba LK rfl rfl) (p mv ?_))))))))
 refine ag ((bc _ _ (az (lp (fun ah G aT=> ∃ (j:Nat),(j≤set.length)∧(∀ q,q < j→dw F (set.getD q 0)=true)∧(Wk w68 aT)∧(G 0=aG fb)∧(G 4=aG aF)∧(G 6=aG aY)∧(G 8=str (aV (r.getD 0 [])).1)∧(G 13= .slice J set.length M)∧(G 75= .slice J set.length M)∧(G 76=aa (set.length))∧(G 77=aa j)∧(set.length - j=ah)) _ ⟨0,(by omega),((fun q A=>by omega)),(Md.refl _ _),rfl,rfl,rfl,rfl,rfl,rfl,rfl,rfl,rfl⟩ ?_))))
 rintro ah G aT ⟨j,hj,aO,I,ct,cv,cw,cA,cu,cx,cy,cz,rfl⟩
 refine fx 0 ct (fx 4 cv (fx 6 cw (fx 8 cA (fx 13 cu (fx 75 cx (fx 76 cy (fx 77 cz (U (fun _ bg=>(p (lt rfl rfl) (ag ((bg _ _ (sq (fun _ bi=>cd rfl (fun ch=> ?_) (fun ch=> ?_))))))))))))))))
 refine au (tn (bi _ _ (sq (fun _ ap=>az (U (fun _ bj=>(p (aJ Gq rfl rfl (by omega) (ak.ok ((aI (aE ao I)).2) (bl (by omega)))) (p (ld bJ rfl (ak.gC (aI (aE ao I)).2 (show (set.map aM)[j]? =some (aM (set.getD j 0)) by rw [List.getElem?_map,List.getD_eq_getElem?_getD,List.getElem?_eq_getElem (by omega :j < set.length)]; rfl))) ?_))))))))
 refine ae (((bj _ _ (U (fun _ bk=>(ab (aG fb) (p mv (e (cl xD (yI B fb mc F V (set.getD j 0) aT (aL.wk (hE68x.trans I)) (by omega)) rfl fun cN w84 b6=> ?_)))))))))
 obtain ⟨rfl,a0⟩:=b6
 have hz84:=a0.size
 have hzJ:=I.size
 refine p mv (p (xt rfl rfl) (p (xt rfl rfl) (e (al oX fun cE w16 hb16 a2 bB=>e (bX m7 rfl rfl rfl rfl (bB) (by simp) fun wt24_7 bZ cI=> ?_)))))
 have hz16:=a2.size
 have hE24:Wk w68 wt24_7:=(I.trans (a0.trans a2.md)).trans' bZ (fun q A h=>by omega)
 refine ae (((bk _ _ (U (fun _ aW=>(p mv (p (no rfl) (p mv ?_))))))))
 refine gb (t:=89) rfl (fun aR=> ?_) (fun aR=> ?_)
 refine pg rfl rfl rfl (CP r4 rfl) (pg rfl rfl rfl mv (eg rfl rfl rfl (cl Eg (Fe (some ⟨aF,0,none⟩) 5 [F.sp.getD 0 0,F.sp.getD 1 0,F.sp.getD 2 0,F.sp.getD 3 0,F.sp.getD 4 0] (set.getD j 0) wt24_7 (ak.cQ (Wk.B ((ai.trans (C.trans aK)).trans hE24) hq4)) (by simp)) rfl fun cO cR b7=> ?_)))
 obtain ⟨rfl,hE92⟩:=b7
 rw [Lb aL.ee] at*
 refine pg rfl rfl rfl (no rfl) (p (bf rfl) (ag ((aW _ _ (cb rfl (fun aQ=> ?_) (fun aQ=> ?_))))))
 refine U (fun _ bm=>(p (bY (ps:= []) (L:= [.string ⟨⟨[]⟩⟩,.slice none 0 0]) la rfl (rfl)) (e (bX km rfl rfl rfl rfl (Wk.B (hE24.trans hE92) hb68) (by simp) fun cX b0 bE=>ae (((bm _ _ (rt ?_))))))))
 exact br (tr (tr (br (tr (dO rfl (c8 (cs:= [str [],.slice none 0 0]) rfl ki rfl (fun j hj=>bE.c5 j)) dE (⟨.inr ⟨120,yB hr1 Y hby O (by omega) (by simpa using am) an (i:=j) (by omega) (FO (by simpa using aR) (by simpa using aQ)),by decide,rfl⟩,(hE68x.trans (hE24.trans hE92)).trans' b0 (fun q A h=>by omega)⟩))))))
 refine au (bn (tn (ap _ _ (rg rfl (p (ad rfl rfl (bp (by omega))) (p mv (nl (tn ?_))))))))
 exact ⟨_,by omega,j+1,(by omega),((fun q A=>by rcases Nat.lt_or_ge q j with h | h <;> first | exact aO q h | (rw [show q=j by omega]; exact yg (.inr (by simpa using aQ))))),(hE24.trans hE92),rfl,rfl,rfl,rfl,rfl,rfl,rfl,rfl,rfl⟩
 refine sk rfl rfl rfl rfl (sk rfl rfl rfl rfl (sk rfl rfl rfl rfl (sk rfl rfl rfl rfl (p (a4 rfl) (ag ((aW _ _ (cf rfl ?_))))))))
 refine au (bn (tn (ap _ _ (rg rfl (p (ad rfl rfl (bp (by omega))) (p mv (nl (tn ?_))))))))
 exact ⟨_,by omega,j+1,(by omega),((fun q A=>by rcases Nat.lt_or_ge q j with h | h <;> first | exact aO q h | (rw [show q=j by omega]; exact yg (.inl (by simpa using aR))))),hE24,rfl,rfl,rfl,rfl,rfl,rfl,rfl,rfl,rfl⟩
 refine ext (te _ (te _ (be (tn (aA _ _ (U (fun _ ap=>(ab (str (aV (r.getD 0 [])).1) ?_))))))))
 refine ab (.slice J set.length M) (p (bY (ps:= [(0,str (aV (r.getD 0 [])).1),(1,.slice J set.length M)]) (L:= [str (aV (r.getD 0 [])).1,.slice J set.length M]) la rfl (rfl)) (e (bX km rfl rfl rfl rfl (Wk.B I hb68) (by simp) fun cY a1 bF=>ae (((ap _ _ (rt (dO rfl (c8 (cs:= [str (aV (r.getD 0 [])).1,.slice J set.length M]) rfl ki rfl (fun j hj=>bF.c5 j)) dE ?_))))))))
 exact ⟨.inl ⟨((aV (r.getD 0 [])).1,set),.slice J set.length M,sZ hr1 Y hby O (by omega) (by simpa using am) an (fun j hj=>aO j (by omega)),rfl,fZ (bW (aE ao I) a1 (fun q A h=>by have :=(c7 ao A).1; have :=C.size; omega)) (by have :=C.size; omega)⟩,(hE68x.trans I).trans' a1 (fun q A h=>by omega)⟩
end Go.Hb.ly
end
section
set_option maxRecDepth 20000
set_option maxHeartbeats 1000000
namespace Go.Hb.me
open Go.Hb.di
open Go.Proofs
open Go.Hb.eS Go.Hb.fE Go.Hb.fN Go.Hb.iw Go.Hb.jN Go.Hb.kK Go.Hb.j7 Go.Hb.gU Go.Hb.lr Go.Hb.gW Go.Hb.j9 Go.Hb.ly Go.Hb.kg Go.Hb.gA Go.Hb.o4 Go.Hb.oZ Go.Hb.gl Go.Hb.fQ
theorem G6:s9 Tryz.prog 87 3=some (81,3):=by kernel_rfl
def jv (q:cV×Value):List Value:= [str q.1.1,q.2]
def gO (l:List (cV×Value)):List Value:=l.flatMap jv
theorem yx (l:List (cV×Value)) (q:cV×Value):gO (l++ [q])=gO l++jv q:=by simp [gO]
theorem F9 (l:List (cV×Value)):(gO l).length=l.length*2:=kq (f:=jv) (m:=2) (fun _=>rfl) l
theorem mK {w:World} {B e size n k:Nat} {v:Value} {xs:List Value} (h:World.ownsRow w B e size v n xs) (hk:v.ownBlock=some k) (i:∀ cur z,w.heap[k]?≠some (.cells cur e z)):False:=by
 rcases h.2 with ⟨rfl,rfl⟩ | ⟨g,cap,cur,rfl,_,hg,_⟩
 · cases hk
 · have a:g=k:=by simpa [Value.ownBlock] using hk
   subst a
   exact i _ _ hg
structure kf (w:World) (B:Nat) (f:Value→Option Value) (xs:List cV):Prop where
 own:∀ s:Tx,World.ownsRow w B 3 1 ((f (str s)).getD (Value.slice none 0 0)) (idxs s xs).length ((idxs s xs).map bq)
 nil:∀ s:Tx,idxs s xs= []→(f (str s)).getD (Value.slice none 0 0)=(Value.slice none 0 0)
theorem kf.md {G:Nat→Prop} {w w':World} {B:Nat} {f:Value→Option Value} {xs:List cV} (h:kf w B f xs) (hm:Md G w w') (a:∀ k,G k→∀ cur z,w.heap[k]?≠some (.cells cur 3 z)):kf w' B f xs:=by
 refine ⟨fun s=> ?_,h.nil⟩
 refine bW (h.own s) hm (fun k hk hg=> ?_)
 exact mK (h.own s) hk (fun cur z hc=>a k hg cur z hc)
theorem ux {w:World} {B p k n i:Nat} {v v':Value} {xs j:List Value} (h:World.ownsRow w B 3 1 v n xs) (C:World.ownsRow w p 3 1 v' i j) (hk:v.ownBlock=some k) (E:v'.ownBlock=some k) (hn:0 < n) (O:0 < i):xs[0]? =j[0]? :=by
 rcases h.2 with ⟨rfl,rfl⟩ | ⟨g,cap,cur,rfl,_,hg,_,_,_,G⟩
 · omega
 · rcases C.2 with ⟨rfl,rfl⟩ | ⟨A,J,M,rfl,_,a,_,_,_,I⟩
   · omega
   · have q:g=k:=by simpa [Value.ownBlock] using hk
     have s:A=k:=by simpa [Value.ownBlock] using E
     subst q s
     rw [hg] at a
     cases a
     rw [← G,← I,List.getElem?_take,List.getElem?_take,if_pos (by omega),if_pos (by omega)]
theorem kf.sep {w:World} {B k:Nat} {f:Value→Option Value} {xs:List cV} {s t:Tx} (h:kf w B f xs) (hne:s≠t) (hs:((f (str s)).getD (Value.slice none 0 0)).ownBlock=some k):((f (str t)).getD (Value.slice none 0 0)).ownBlock≠some k:=by
 intro a
 have q:idxs s xs≠[]:=fun e=>by rw [h.nil s e] at hs; cases hs
 have A:idxs t xs≠[]:=fun e=>by rw [h.nil t e] at a; cases a
 have he:=ux (h.own s) (h.own t) hs a (List.length_pos_iff.2 q) (List.length_pos_iff.2 A)
 cases h1:idxs s xs with
 | nil=>exact q h1
 | cons i l=>
   cases h2:idxs t xs with
   | nil=>exact A h2
   | cons j m=>
     rw [h1,h2] at he
     have C:i=j:=by have h:=he; simp only [List.map_cons,List.getElem?_cons_zero,Option.some.injEq,bq,Value.int.injEq,true_and] at h; omega
     subst C
     have m1:i∈idxs s xs:=by rw [h1]; simp
     have p:i∈idxs t xs:=by rw [h2]; simp
     unfold idxs at m1 p
     have q1:=of_decide_eq_true (List.mem_filter.1 m1).2
     have q2:=of_decide_eq_true (List.mem_filter.1 p).2
     exact hne (q1.symm.trans q2)
theorem kf.put {w w1 A:World} {B q:Nat} {f:Value→Option Value} {xs:List cV} {x:cV} {v:Value} (h:kf w B f xs) (hm:Md (fun k=>((f (str x.1)).getD (Value.slice none 0 0)).ownBlock=some k) w w1)
 (p:World.ownsRow w1 B 3 1 v (idxs x.1 xs++ [xs.length]).length ((idxs x.1 xs++ [xs.length]).map bq)) (j:∀ cur z,w1.heap[q]?≠some (.cells cur 3 z)) (i:Md (fun k=>k=q) w1 A):kf A B (bg f (str x.1) v) (xs++ [x]):=by
 refine ⟨fun s=> ?_,fun s hs=> ?_⟩
 · by_cases a:x.1=s
   · subst a
     rw [oF,qH,if_pos rfl]
     exact bW p i (fun k hk hg=>mK p hk (fun cur z hc=>j cur z (hg ▸ hc)))
   · rw [nv (fun e=>a (str_inj.1 e).symm),qH,if_neg a,List.append_nil]
     have h1:=bW (h.own s) hm (fun k hk hg=>h.sep a hg hk)
     exact bW h1 i (fun k hk hg=>mK h1 hk (fun cur z hc=>j cur z (hg ▸ hc)))
 · rw [qH] at hs
   by_cases a:x.1=s
   · rw [if_pos a] at hs; simp at hs
   · rw [if_neg a,List.append_nil] at hs
     rw [nv (fun e=>a (str_inj.1 e).symm)]; exact h.nil s hs
structure iR (w:World) (B wb mb:Nat) (va:Value) (vs:List Value) (xs:List cV):Prop where
 cells:w.heap[wb]? =some (.cells [va,.map (some mb)].toArray 108 (0,0))
 own:World.ownsRow w B 56 2 va xs.length (gO (xs.zip vs))
 fl:c4 w B 71 vs (xs.map (·.2))
 mp:∃ f,bN w.heap mb fK f∧kf w B f xs
theorem iR.md {G:Nat→Prop} {w w':World} {B p a:Nat} {j:Value} {vs:List Value} {xs:List cV} (h:iR w B p a j vs xs) (hm:Md G w w') {L:List Nat} (hT:TF w L G) (i:(L.contains 110 || L.contains 58 || L.contains 73 || L.contains 5)=false) (s:¬G a):iR w' B p a j vs xs:=by
 simp only [Bool.or_eq_false_iff] at i
 obtain ⟨⟨⟨h1,h2⟩,h3⟩,h4⟩:=i
 obtain ⟨f,hf,q⟩:=h.mp
 exact ⟨hm.gp hT h.cells h1,bE h.own hm hT h2,h.fl.md hm (fun k hk cur z hg=>hT.no (cR hg) h3 hk),⟨f,hf.md hm s,q.md hm (fun k hk cur z hg=>hT.no (cR hg) h4 hk)⟩⟩
theorem iR.wk {w w':World} {B j a:Nat} {i:Value} {vs:List Value} {xs:List cV} (h:iR w B j a i vs xs) (hm:Wk w w'):iR w' B j a i vs xs:=h.md (L:= []) hm (fun _ hk=>hk.elim) rfl id
theorem sR {F:aH} {t:Tx} {ln:Nat} {row:List Tx} {rows:List Rw} (h:¬65536 < t.length) (h1:bd t=(ln,row)::rows) (h2:(g5 row).2≠0):∃ e:Nat,(g5 row).2=(e:Int)∧fi F t= .error (ln,e):=by
 unfold g5 at h2 ⊢
 by_cases hr:row.length≠1
 · rw [if_pos hr]; exact ⟨111,rfl,F4 h h1 hr⟩
 · rw [if_neg hr] at h2 ⊢
   have h3:=k8 (s:=row.getD 0 []) (most:=8192) h2
   exact ⟨13,h3.2,F5 h h1 (Classical.not_not.1 hr) h3.1⟩
theorem yj {F:aH} {t:Tx} {ln:Nat} {row:List Tx} {rows:List Rw} (h:¬65536 < t.length) (h1:bd t=(ln,row)::rows) (h2:(g5 row).2=0):∃ n:Nat,(g5 row).1=n∧n≤8192∧fi F t=eW F ((a6 t).length+1) n rows:=by
 unfold g5 at h2 ⊢
 by_cases hr:row.length≠1
 · rw [if_pos hr] at h2; cases h2
 · rw [if_neg hr] at h2 ⊢
   exact ⟨_,rfl,by have :=lY (row.getD 0 []) 8192 h2; omega,yl h h1 (Classical.not_not.1 hr) (j4 h2)⟩
theorem oS {u:Tx} {a:Value} (h:a.oneCell'=true):[str u,a].all Value.oneCell'=true :=by rw [List.all_cons,List.all_cons,h]; rfl
def vD (l e:Nat):Value:= .agg [.int .i64 2,.int .i64 (l:Nat),.int .i64 (e:Nat)].toArray
def Cl (w':World) (B0:Nat) (xs:List cV) (v:Value):Prop := ∃ B a i j vs,B0≤B∧v= .tuple #[.pointer (some ⟨a,0,none⟩),.agg [.int .i64 0,.int .i64 0,.int .i64 0].toArray]∧iR w' B a i j vs xs∧B0≤a∧B0≤i
def Ck (e:Nat×Nat) (v:Value):Prop :=v= .tuple #[.pointer none,vD e.1 e.2]
def iS (F:aH) (t:Tx) (w:World) (v:Value) (w':World):Prop :=(match fi F t with | .ok xs=>Cl w' w.heap.size xs v | .error e=>Ck e v)∧Wk w w'
theorem iS.no {F:aH} {t:Tx} {w w':World} {l e:Nat} (h:fi F t= .error (l,e)) (hm:Wk w w'):iS F t w (.tuple #[.pointer none,.agg [.int .i64 2,.int .i64 (l:Nat),.int .i64 (e:Nat)].toArray]) w':=by
 unfold iS; rw [h]; exact ⟨rfl,hm⟩
theorem F7 (t:Tx) (w:World):
 aU Tryz.prog 11 (List.toArray [.pointer none,str t]) w (fun v w'=>v= .tuple #[.pointer none,vD 0 1]∧Wk w w'):=by
 refine enter Tryz.func11 rfl Tryz.ntmps11 rfl ?_
 refine U (fun _ i=>(p aj (e (al iP fun O w5 hb5 I E=>ag ((i _ _ (sq (fun _ M=>sq (fun _ s=> ?_)))))))))
 refine rg rfl (ab (.pointer none) (p (ij l6 rfl rfl) (ag ((s _ _ (ct (rfl) (U (fun _ A=> ?_))))))))
 refine e (cl mr (mz 0 1 w5) rfl fun Y w19 J=> ?_)
 obtain ⟨rfl,a⟩:=J
 exact p aj (e (bX fR rfl rfl rfl rfl (a.B E) (by simp) fun Z G C=>ag ((A _ _ (rt (tr (dO rfl dE (c8 (cs:= [.int .i64 2,.int .i64 0,.int .i64 1]) rfl iX rfl (fun j hj=>C.c5 j)) (⟨rfl,(I.md.trans a).trans' G (fun q V h=>by omega)⟩))))))))
theorem sV (B fb mc:Nat) (F:aH) (V:dV) (t:Tx) (w:World) (bL:cC w B fb mc F V) (cZ:∃ seen,hZ F [] seen) (hnx:Nx F) (hs:t.length≤1048576):
 aU Tryz.prog 11 (List.toArray [aG fb,str t]) w (iS F t w):=by
 refine enter Tryz.func11 rfl Tryz.ntmps11 rfl ?_
 refine U (fun _ ch=>(p aj (e (fH iP fun a4 w5 hb5 bO bH=> ?_))))
 have bF:bD w5.heap a4 [.int .i64 0,.int .i64 0,.int .i64 0]:=⟨_,bH⟩
 refine ag ((ch _ _ (sq (fun _ cq=>U (fun _ cw=>(ab (aG fb) (p (ij l6 rfl rfl) (nl ?_))))))))
 refine tn (cw _ _ (cf (rfl) (au (tn (cq _ _ (U (fun _ cx=>(ab (str t) (e (cl xx (Bx t _ hs) rfl fun ew bv dj=> ?_))))))))))
 obtain ⟨⟨ef,rfl,b2⟩,hE22⟩:=dj
 have hE22x:=bO.md.trans hE22
 have hz5:=bO.size
 refine p mv (p (xt rfl rfl) (p (xt rfl rfl) (p aj (ae (((cx _ _ (sq (fun _ cy=> ?_)))))))))
 refine U (fun _ cz=>(p mv (p (bP rfl rfl) (ag ((cz _ _ (cd rfl (fun bs=> ?_) (fun bs=> ?_))))))))
 have b0:65536 < t.length:=Classical.byContradiction fun h=>bs (by rw [if_neg h])
 refine U (fun _ a0=>(p mv (e (cl mr (mz 0 (if 65536 < t.length then 10 else 0) bv) rfl fun ex w28 dk=> ?_))))
 obtain ⟨rfl,bb⟩:=dk
 have hz28:=(hE22.trans bb).size
 refine p aj (e (bX fR rfl rfl rfl rfl (Wk.B (hE22.trans bb) bF) (by simp) fun eP dd cW=>ag ((a0 _ _ (rt (tr (dO rfl dE (c8 (cs:= [.int .i64 2,.int .i64 0,.int .i64 (if 65536 < t.length then 10 else 0)]) rfl iX rfl (fun j hj=>cW.c5 j)) ?_)))))))
 have h:=iS.no (F:=F) (ym b0) ((hE22x.trans bb).trans' dd (fun q A h=>by omega))
 show iS F t w (.tuple #[.pointer none,.agg [.int .i64 2,.int .i64 0,.int .i64 (if 65536 < t.length then 10 else 0)].toArray]) _
 rw [if_pos b0]
 exact h
 have ax:¬65536 < t.length:=fun h=>bs (by rw [if_pos h]; decide)
 rw [if_neg ax] at b2
 obtain ⟨cc,bA,rfl⟩:=bU b2
 have hll:=jZ t
 refine au (tn (cy _ _ (U (fun _ a0=>(ab (str t) (e (cl xw (A1 t _ hs) rfl fun ey w31 dl=> ?_)))))))
 obtain ⟨⟨eg,rfl,hcs⟩,hE31⟩:=dl
 rw [if_neg ax] at hcs
 obtain ⟨ce,aR,aS⟩:=hcs
 obtain ⟨bx,aA,rfl⟩:=bU aR
 have hE31x:=hE22x.trans hE31
 have hb5x:=Wk.B (hE22.trans hE31) bF
 have hz31:=(hE22.trans hE31).size
 have hrl:=q4 t
 refine p mv (p (xt rfl rfl) (p (xt rfl rfl) (p aj (ae (((a0 _ _ (sq (fun _ cA=> ?_)))))))))
 refine U (fun _ cB=>(p mv (p (ba rC rfl rfl) (p (a8 rfl rfl) (ag ((cB _ _ (cd rfl (fun bt=> ?_) (fun bt=> ?_)))))))))
 have hnil:bd t= []:=List.eq_nil_of_length_eq_zero (by omega)
 refine U (fun _ aT=>(p mv (p (ba c9 rfl rfl) (p (a9 (((a6 t).length+1:Nat):Int) rfl rfl (aQ (by omega) (by omega))) (e (cl mr (mz ((a6 t).length+1:Nat) 116 w31) rfl fun ez w40 dm=> ?_))))))
 obtain ⟨rfl,bc⟩:=dm
 have hz40:=bc.size
 exact p aj (e (bX fR rfl rfl rfl rfl (Wk.B bc hb5x) (by simp) fun eQ de cX=>ag ((aT _ _ (rt (tr (dO rfl dE (c8 (cs:= [.int .i64 2,aa ((a6 t).length+1),.int .i64 116]) rfl iX rfl (fun j hj=>cX.c5 j)) (iS.no (yn ax hnil) ((hE31x.trans bc).trans' de (fun q A h=>by omega))))))))))
 obtain ⟨⟨ln0,ao⟩,rest,hrw⟩:∃ q rest,bd t=q::rest:=by
  cases h:bd t with
  | nil=>rw [h] at bt; exact absurd rfl bt
  | cons q rest=>exact ⟨q,rest,rfl⟩
 have hvl:=aS.1
 rw [hrw] at aR aS hvl hrl
 obtain ⟨⟨q1,q2⟩,rvs',rfl⟩:∃ q vs',ce=q::vs':=by
  cases ce with
  | nil=>exact absurd hvl (by simp)
  | cons q vs'=>exact ⟨q,vs',rfl⟩
 obtain ⟨hq1,hq2⟩:=aS.2 0 (q1,q2) (ln0,ao) rfl rfl
 obtain rfl :q1=ln0:=hq1
 obtain ⟨cE,c0,rfl⟩:=hq2.slice
 have hCr0:=(aI aR).2
 have hcr:=(aI aR).1
 have b4:∀ q∈(q1,ao)::rest,q.2.length≤70000∧∀ x∈q.2,x.length≤70000:=fun q A=>by
  have h:=q5 (show q∈bd t by rw [hrw]; exact A)
  exact ⟨by omega,fun x d8=>by have :=(h.2.2.2.2 x d8).2; omega⟩
 have hm0:=b4 _ (List.mem_cons_self ..)
 simp only [List.length_cons] at hvl hrl hcr
 refine au (tn (cA _ _ (U (fun _ aT=>(p mv (p (aJ na rfl rfl (by rw [hrw]; simp only [List.length_cons]; omega) (ak.ok (hCr0) (ir (by simp)))) (p (dx ph rfl (rfl) (iu (i:=0) hCr0 rfl)) (e (cl DY (FZ q1 ao bv.heap.size cE c0 w31 hq2 hm0.2 hm0.1) rfl fun eB w45 dn=> ?_)))))))))
 obtain ⟨rfl,hE45⟩:=dn
 have hz45:=hE45.size
 refine p mv (p (xt rfl rfl) (p (xt rfl rfl) (p aj (ae (((aT _ _ (sq (fun _ ci=> ?_)))))))))
 refine U (fun _ cj=>(p mv (p (bP rfl rfl) (ag ((cj _ _ (cd rfl (fun b1=> ?_) (fun b1=> ?_))))))))
 obtain ⟨ek,dN,bo⟩:=sR (F:=F) ax hrw b1
 refine U (fun _ aV=>(p mv (p (aJ na rfl rfl (by rw [hrw]; simp only [List.length_cons]; omega) (ak.ok (hCr0.wk hE45) (ir (by simp)))) (p (fa qm rfl) (p (ld bQ rfl (iu (i:=0) (hCr0.wk hE45) rfl 0 (by decide))) (p mv (e (cl mr (mz (q1:Nat) (g5 ao).2 w45) rfl fun eC w55 dp=> ?_))))))))
 obtain ⟨rfl,bf⟩:=dp
 have hz55:=bf.size
 refine p aj (e (bX fR rfl rfl rfl rfl (Wk.B (hE45.trans bf) hb5x) (by simp) fun eJ c6 cH=>ag ((aV _ _ (rt (tr (dO rfl dE (c8 (cs:= [.int .i64 2,aa q1,.int .i64 (g5 ao).2]) rfl iX rfl (fun j hj=>cH.c5 j)) ?_)))))))
 have h:=iS.no bo ((hE31x.trans (hE45.trans bf)).trans' c6 (fun q A h=>by omega))
 show iS F t w (.tuple #[.pointer none,.agg [.int .i64 2,aa q1,.int .i64 (g5 ao).2].toArray]) _
 rw [dN]
 exact h
 obtain ⟨n,hn0,es,bo⟩:=yj (F:=F) ax hrw (show (g5 ao).2=0 by omega)
 have hFB:=bL.wk (hE31x.trans hE45)
 obtain ⟨seen,bI⟩:=cZ
 have hbl:=bI.len
 refine au (tn (ci _ _ (U (fun _ aV=>(e (oy fun J w56 en bl cT=> ?_))))))
 have hz56:=bl.size
 refine p (bY (ps:= [(1,.map (some J))]) (L:= [.slice none 0 0,.map (some J)]) Lh rfl (rfl)) (e (nX rfl fun C w58 eo aP cU=> ?_))
 have hz58:=aP.size
 have hE58:=hE45.trans (bl.md.trans aP.md)
 refine ae (((aV _ _ (U (fun _ ck=>(ab (aG fb) (e (cl DZ (CB B fb mc F V w58 (hFB.wk (bl.md.trans aP.md)) (by omega) hnx) rfl fun eD w60 dq=> ?_))))))))
 obtain ⟨⟨ee,rfl,_⟩,hE60⟩:=dq
 have hz60:=hE60.size
 refine p (GM G6 vV rfl rfl) (e (al Mq fun a1 w12 hb12 aL hB12=> ?_))
 have hz12:=aL.size
 refine e (bX FJ rfl rfl rfl rfl (hB12) (by simp) fun wt13_4 aF cI=> ?_)
 have c2:Wk w31 wt13_4:=(hE58.trans (hE60.trans aL.md)).trans' aF (fun q A h=>by omega)
 have hz13:=aF.size
 have dD:wt13_4.heap[C]? =some (.cells [.slice none 0 0,.map (some J)].toArray 108 (0,0)):=aF.az (Wk.az (hE60.trans aL.md) cU) (fun h=>by omega)
 have dQ:bN wt13_4.heap J fK (fun _=>none):=bN.md (bN.wk (bN.nil cT) (aP.md.trans (hE60.trans aL.md))) aF (fun h=>by omega)
 have dy:iR wt13_4 wt13_4.heap.size C J (.slice none 0 0) [] []:=⟨dD,World.ownsRow_nil _ _ _ _,c4.nil _ _ _,⟨_,dQ,⟨fun s=>World.ownsRow_nil _ _ _ _,fun s _=>rfl⟩⟩⟩
 have dB:bD wt13_4.heap a1 [aM (F.sp.getD 0 0),aM (F.sp.getD 1 0),aM (F.sp.getD 2 0),aM (F.sp.getD 3 0),aM (F.sp.getD 4 0)]:=cI
 have bJ:ak w31.heap (ed bx aA 1 2) (gJ rvs'):=by
  have h:=hCr0.drop (cap:=aA) (k:=1) (size:=2) (by rw [A7]; simp only [List.length_cons]; omega)
  exact h
 have dA:fc F ((a6 t).length+1) (fi F t) [] (n - 0) (rest.drop 0):=by rw [bo]; exact fc.start
 refine ag ((ck _ _ (sq (fun _ cm=>U (fun _ cn=>(p mv (p (oN na rfl rfl (by rw [hrw]; simp only [List.length_cons]; omega)) (p (ba rC rfl rfl) ?_))))))))
 refine p mv (ag ((cn _ _ (az (lp (fun bC O wI=> ∃ (i:Nat) (xs:List cV) (vs:List Value) (ah:Value),(i≤rest.length∧i≤n)∧(xs.length=i)∧(fc F ((a6 t).length+1) (fi F t) xs (n - i) (rest.drop i))∧(iR wI wt13_4.heap.size C J ah vs xs)∧(Wk w31 wI)∧(bD wI.heap a1 [aM (F.sp.getD 0 0),aM (F.sp.getD 1 0),aM (F.sp.getD 2 0),aM (F.sp.getD 3 0),aM (F.sp.getD 4 0)])∧(wt13_4.heap.size≤wI.heap.size)∧(O 0=aG fb)∧(O 5=aG a4)∧(O 6= .slice cc (a6 t).length bA)∧(O 10=aa n)∧(O 11=aG C)∧(O 12=aG a1)∧(O 63= .slice (ed bx aA 1 2) rest.length (aA - 1))∧(O 64=aa (rest.length))∧(O 65=aa i)∧(rest.length - i=bC)) _ ⟨0,[],[],.slice none 0 0,(by omega),rfl,dA,dy,c2,dB,(Nat.le_refl _),rfl,rfl,rfl,(by first | rfl | (rw [← hn0]; rfl)),rfl,rfl,(by first | rfl | (rw [hrw]; rfl)),(by first | rfl | (rw [hrw]; rfl)),rfl,rfl⟩ ?_)))))
 rintro bC O wI ⟨i,xs,vs,ah,hi,hxl,Y,ar,I,bV,et,dZ,d3,d4,d0,d1,d2,d5,d6,d7,rfl⟩
 refine fx 0 dZ (fx 5 d3 (fx 6 d4 (fx 10 d0 (fx 11 d1 (fx 12 d2 (fx 63 d5 (fx 64 d6 (fx 65 d7 (U (fun _ co=>(p (lt rfl rfl) (ag ((co _ _ (sq (fun _ cp=>cd rfl (fun dI=> ?_) (fun dI=> ?_)))))))))))))))))
 refine au (tn (cp _ _ (sq (fun _ aW=>az (sq (fun _ aX=> ?_))))))
 obtain ⟨⟨ln,r⟩,hri⟩:∃ q,rest[i]? =some q:=⟨_,List.getElem?_eq_getElem (by omega)⟩
 have dM:rest.drop i=(ln,r)::rest.drop (i+1):=by rw [List.drop_eq_getElem_cons (by omega)]; rw [List.getElem?_eq_getElem (by omega)] at hri; rw [Option.some.inj hri]
 obtain ⟨p,cb⟩:∃ p,rvs'[i]? =some p:=⟨_,List.getElem?_eq_getElem (by omega)⟩
 obtain ⟨cF,bT⟩:=aS.2 (i+1) p (ln,r) cb hri
 obtain ⟨ln0x,eu⟩:=p
 obtain rfl :ln=ln0x:=cF.symm
 obtain ⟨a,c,rfl⟩:=bT.slice
 have hmr:=b4 (ln,r) (List.mem_cons_of_mem _ (List.mem_of_getElem? hri))
 rw [dM] at Y
 refine rg rfl (ab (aa i) (p (aJ na rfl rfl (by omega) (ak.ok (bJ.wk I) (ir (by omega)))) (p (dx ph rfl (rfl) (iu (bJ.wk I) cb)) (e (al Cb fun bz w14 hb14 bk cJ=> ?_)))))
 have hz14:=bk.size
 refine p (bG (aa i) rfl) (e (bX xX rfl rfl rfl rfl (cJ) (by simp) fun wt16_5 bj cK=> ?_))
 have aD:Wk w31 wt16_5:=(I.trans bk.md).trans' bj (fun q A h=>by omega)
 have bK:Wk wI wt16_5:=bk.md.trans' bj (fun q A h=>by omega)
 have hb14:bD wt16_5.heap bz [aa ln,.slice a r.length c]:=cK
 have hz16:=bj.size
 refine ag ((aX _ _ (sq (fun _ av=>U (fun _ cr=>(ab (aa i) (ab (aa n) (p (a8 rfl rfl) ?_))))))))
 refine ag ((cr _ _ (cd rfl (fun dJ=> ?_) (fun dJ=> ?_))))
 refine U (fun _ aY=>(p (fa qm rfl) (p (ld bQ rfl ((hb14.aC 0).trans rfl)) (e (cl mr (mz (ln:Nat) 116 wt16_5) rfl fun eE eH dr=> ?_)))))
 obtain ⟨rfl,bg⟩:=dr
 have hz75:=bg.size
 refine p aj (e (bX fR rfl rfl rfl rfl (Wk.B (aD.trans bg) hb5x) (by simp) fun eK da cL=>ag ((aY _ _ (rt (tr (br (tr ?_))))))))
 refine tr (br (tr (dO rfl dE (c8 (cs:= [.int .i64 2,aa ln,.int .i64 116]) rfl iX rfl (fun j hj=>cL.c5 j)) ?_)))
 rw [show n - i=0 by omega] at Y
 exact iS.no Y.more ((hE31x.trans (aD.trans bg)).trans' da (fun q A h=>by omega))
 refine au (tn (av _ _ (U (fun _ aY=>(ab (aG fb) (p (dx vV rfl (rfl) (fun j hj=>(Wk.B bK bV).c5 j)) (p (dx ph rfl (rfl) (fun j hj=>hb14.c5 j)) (e (cl D0 (FW B fb mc F V ln r bv.heap.size a c wt16_5 (bL.wk (hE31x.trans aD)) ⟨seen,bI⟩ (bT.wk aD) hmr.2 hmr.1) rfl fun eb ec ds=> ?_)))))))))
 obtain ⟨c3,bh⟩:=ds
 obtain ⟨dY,aw,bB,rfl,b9,b3⟩:∃ (u:Tx) (a:Value) (e:Nat),eb= .tuple #[.agg [str u,a].toArray,aa e]∧a.oneCell'=true∧((e=0∧∃ l,eA F r= .ok (u,l)∧World.ownsRow ec wt16_5.heap.size 71 1 a l.length (l.map aM))∨(e≠0∧eA F r= .error e)):=by
  rcases c3 with ⟨x,a,h1,h2,h3⟩ | ⟨e,h1,h2,h3⟩
  exact ⟨x.1,a,0,h2,dT h3,.inl ⟨rfl,x.2,h1,h3⟩⟩
  exact ⟨_,_,e,h3,rfl,.inr ⟨h2,h1⟩⟩
 have hz80:=bh.size
 refine p mv (p (xt rfl rfl) (p (xt rfl rfl) (e (fH Ce fun a2 w15 em aN bE=> ?_))))
 have hz15:=aN.size
 refine e (fV km rfl rfl rfl (oS b9) bE (by decide) fun w19 aK cM=> ?_)
 have aq:Wk wI w19:=(bK.trans (bh.trans aN.md)).trans' aK (fun q A h=>by omega)
 have bZ:w19.heap[a2]? =some (.cells [str dY,aw].toArray 56 (0,0)):=cM
 have hz19:=aK.size
 have dC:bD w19.heap bz [aa ln,.slice a r.length c]:=aK.B (Wk.B (bh.trans aN.md) hb14) (fun h=>by omega)
 refine ae (((aY _ _ (sq (fun _ ct=>U (fun _ cu=>(p mv (p (bP rfl rfl) ?_))))))))
 refine ag ((cu _ _ (cd rfl (fun dL=> ?_) (fun dL=> ?_))))
 obtain ⟨hne,hex⟩:=b3.resolve_left (fun h=>by omega)
 refine U (fun _ aZ=>(p (fa qm rfl) (p (ld bQ rfl ((dC.aC 0).trans rfl)) (p mv (e (cl mr (mz (ln:Nat) (bB:Nat) w19) rfl fun eF eI dt=> ?_))))))
 obtain ⟨rfl,bi⟩:=dt
 have hz88:=bi.size
 refine p aj (e (bX fR rfl rfl rfl rfl (Wk.B (I.trans (aq.trans bi)) hb5x) (by simp) fun eL db cN=>ag ((aZ _ _ (rt (tr (br (tr ?_))))))))
 exact tr (br (tr (dO rfl dE (c8 (cs:= [.int .i64 2,aa ln,aa bB]) rfl iX rfl (fun j hj=>cN.c5 j)) (iS.no (Y.bad (by omega) hex) ((hE31x.trans (I.trans (aq.trans bi))).trans' db (fun q A h=>by omega))))))
 obtain ⟨_,an,hex,dW⟩:=b3.resolve_right (fun h=>by omega)
 have hW19:=ar.wk aq
 have dS:¬(ah.ownBlock=some C):=cg hW19.own hW19.cells (by decide)
 have dR:¬(ah.ownBlock=some a2):=fun h=>by have :=(c7 ar.own h).2; omega
 have hzw:=aq.size
 refine au (tn (ct _ _ (sq (fun _ aZ=> ?_))))
 have am:(fun w'=>Md (fun q=>ah.ownBlock=some q) w19 w') w19.drew:=(Md.refl _ _).drew
 refine dG (fun w'=>Md (fun q=>ah.ownBlock=some q) w19 w') 10 rfl wide am (a3 0 rfl (aG C) am (a3 1 rfl (aG C) am (a5 2 rfl (fun _=>nc rfl) (fun _=>am) (a5 3 rfl (fun _=>fa og rfl) (fun _=>am) (cO 4 rfl (fun w' G=>ld pk rfl (Md.aC G ((aO hW19.cells).trans rfl) dS)) am (cO 5 rfl (fun w' G=>dx ki rfl (rfl) (fun j hj=>bD.c5 ⟨_,Md.az G bZ dR⟩ j)) am (fA 6 rfl (by kernel_rfl) (ib ri rfl rfl rfl fun ej w95 ep dg cY=> ?_))))))))
 have hE95:=e6 dg.md
 have hW95:=hW19.wk hE95
 have hz95:=hE95.size
 have bR:(fun w'=>Md (fun q=>ah.ownBlock=some q) w19 w') w95:=Md.mono hE95 (fun _ _ h=>h.elim)
 refine ⟨bR,?_⟩
 refine fA 7 rfl (by kernel_rfl) (ap ri (hW95.own) rfl (by omega) rfl (ak.cQ cY) (rfl) (oS b9) (by omega) (by omega) fun ay w96 b7 M hz96 er=> ?_)
 obtain ⟨f,hf,dP⟩:=hW95.mp
 have hc96:=M.az hW95.cells (cg hW95.own hW95.cells (by decide))
 have b8:World.ownsRow w96 wt13_4.heap.size 56 2 ay (xs++ [(dY,an)]).length (gO ((xs++ [(dY,an)]).zip (vs++ [aw]))):=by
  have hl:xs.length=vs.length:=by have :=hW95.fl.1; rw [List.length_map] at this; omega
  rw [List.zip_append hl,List.zip_cons_cons,List.zip_nil_right,yx,List.length_append]; exact b7
 have hz96:=M.size
 have hb12q:=M.B (Wk.B (aq.trans hE95) bV) (fun h=>by have :=(c7 hW95.own h).1; omega)
 have hb15q:=M.az (Wk.az hE95 bZ) (fun h=>by have :=(c7 ar.own h).2; omega)
 have hE96:Wk w31 w96:=(I.trans (aq.trans hE95)).trans' M (fun q A h=>by have :=(c7 hW95.own h).1; omega)
 have bm:(fun w'=>Md (fun q=>ah.ownBlock=some q) w19 w') w96:=bR.trans' M (fun _ _ h=>h)
 refine ⟨bm,?_⟩
 refine a5 8 rfl (fun _=>nc rfl) (fun _=>bm) (a5 9 rfl (fun _=>fa og rfl) (fun _=>bm) (cD 10 rfl (by kernel_rfl) (by kernel_rfl) (ca FI rfl rfl (v:=ay) (dT b7) hc96 (by show _ < 2; omega) fun w10 Z hB10=> ?_)))
 have hc10:w10.heap[C]? =some (.cells [ay,.map (some J)].toArray 108 (0,0)):=hB10
 have hz10:=Z.size
 have c1:Wk w31 w10:=hE96.trans' Z (fun q A h=>by omega)
 have hb12r:=Z.B hb12q (fun h=>by omega)
 have hb15r:=Z.az hb15q (fun h=>by omega)
 have ho10x:=bW b8 Z (fun q A h=>cg b8 hc96 (by decide) (h ▸ A))
 have dv:Tg w10 wt13_4.heap.size 71 an.length aw (an.map aM):=((((((Tg.fT dW).mono (by omega)).wk aN.md).md aK (dK bE (by decide))).wk hE95).md M (eN hW95.own (by decide))).md Z (dK hc96 (by decide))
 have hfl10:=(((hW95.fl.md M (eN hW95.own (by decide))).md Z (dK hc96 (by decide))).snoc dv)
 have hf10:=(hf.md M (fun h=>mK hW95.own h (fun cur z=>hf.k6))).md Z (fun h=>by omega)
 have hfm10:=(dP.md M (eN hW95.own (by decide))).md Z (dK hc96 (by decide))
 have bu:¬(((f (str dY)).getD (Value.slice none 0 0)).ownBlock=some C):=cg (hfm10.own dY) hc10 (by decide)
 have b5:¬(((f (str dY)).getD (Value.slice none 0 0)).ownBlock=some a2):=cg (hfm10.own dY) hb15r (by decide)
 have b6:¬(((f (str dY)).getD (Value.slice none 0 0)).ownBlock=some J):=fun h=>mK (hfm10.own dY) h (fun cur z=>hf10.k6)
 refine dF (by kernel_rfl) ?_
 refine tn (aZ _ _ ?_)
 have E:(fun w'=>Md (fun q=>((f (str dY)).getD (Value.slice none 0 0)).ownBlock=some q) w10 w') w10.drew:=(Md.refl _ _).drew
 refine dG (fun w'=>Md (fun q=>((f (str dY)).getD (Value.slice none 0 0)).ownBlock=some q) w10 w') 16 rfl wide E (lq 0 rfl (by kernel_rfl) (fun _ _=>aB (aG C) rfl) E (lq 1 rfl (by kernel_rfl) (fun _ _=>nc rfl) E (lq 2 rfl (by kernel_rfl) (fun _ _=>fa tp rfl) E (lq 3 rfl (by kernel_rfl) (fun w' G=>ld rR rfl (Md.aC G ((aO hc10).trans rfl) bu)) E (lq 4 rfl (by kernel_rfl) (fun _ _=>fa qt rfl) E (lq 5 rfl (by kernel_rfl) (fun w' G=>ld bw rfl (Md.aC G ((aO hb15r).trans rfl) b5)) E (lq 6 rfl (by kernel_rfl) (fun _ _=>aB (aG C) rfl) E ?_)))))))
 refine lq 7 rfl (by kernel_rfl) (fun _ _=>nc rfl) E (lq 8 rfl (by kernel_rfl) (fun _ _=>fa tp rfl) E (lq 9 rfl (by kernel_rfl) (fun w' G=>ld rR rfl (Md.aC G ((aO hc10).trans rfl) bu)) E (lq 10 rfl (by kernel_rfl) (fun _ _=>fa qt rfl) E (lq 11 rfl (by kernel_rfl) (fun w' G=>ld bw rfl (Md.aC G ((aO hb15r).trans rfl) b5)) E (lq 12 rfl (by kernel_rfl) (fun w' G=>j0 vc Cg fp (bN.md (hf10) G b6) rfl rfl (⟨_,rfl⟩) (rfl)) E (lq 13 rfl (by kernel_rfl) (fun _ _=>aB (aa i) rfl) E (fA 14 rfl (by kernel_rfl) (ea jK rfl rfl fun ei w113 el df cG=> ?_))))))))
 have hE113:=e6 df.md
 have hfm113:=hfm10.md hE113 (fun _ hk=>hk.elim)
 have hz113:=hE113.size
 have bS:(fun w'=>Md (fun q=>((f (str dY)).getD (Value.slice none 0 0)).ownBlock=some q) w10 w') w113:=Md.mono hE113 (fun _ _ h=>h.elim)
 refine ⟨bS,?_⟩
 refine fA 15 rfl (by kernel_rfl) (ap jK (hfm113.own dY) rfl (by omega) rfl (ak.cQ cG) (rfl) (rfl) (by have :=mE dY xs; omega) (by have :=mE dY xs; omega) fun d9 w114 dU ac hz114 hf114=> ?_)
 have hz114:=ac.size
 have hf114:=(hf10.wk hE113).md ac b6
 have dX:World.ownsRow w114 wt13_4.heap.size 3 1 d9 (idxs dY xs++ [xs.length]).length ((idxs dY xs++ [xs.length]).map bq):=by
  rw [List.length_append,List.map_append,hxl]; exact dU
 have du:(fun w'=>Md (fun q=>((f (str dY)).getD (Value.slice none 0 0)).ownBlock=some q) w10 w') w114:=bS.trans' ac (fun _ _ h=>h)
 refine ⟨du,?_⟩
 refine cD 16 rfl (by kernel_rfl) (by kernel_rfl) (nH vc fp (hf114) rfl rfl rfl (⟨_,rfl⟩) fun wm23_16 ai dh=> ?_)
 have hput:=kf.put (x:=(dY,an)) hfm113 ac dX (fun cur z=>hf114.k6) ai
 have hc23:=ai.az (ac.az (Wk.az hE113 hc10) bu) (fun h=>by omega)
 have ho114y:=bW (aE ho10x hE113) ac (fun q A=>jh (aE ho10x hE113) (hfm113.own dY) (by decide) A)
 have ho23:=bW ho114y ai (fun q A h=>mK ho114y A (fun cur z=>h ▸ hf114.k6))
 have hfl23:=((hfl10.wk hE113).md ac (eN (hfm113.own dY) (by decide))).md ai (fun k hk cur z h=>hf114.k6 (hk ▸ h))
 have dz:iR wm23_16 wt13_4.heap.size C J ay (vs++ [aw]) (xs++ [(dY,an)]):=⟨hc23,ho23,by rw [List.map_append]; exact hfl23,⟨_,dh,hput⟩⟩
 have hE23:Wk w31 wm23_16:=((c1.trans hE113).trans' ac (fun q A h=>by have :=(c7 (hfm113.own dY) h).1; omega)).trans' ai (fun q A h=>by omega)
 have hb12s:=ai.B (ac.B (Wk.B hE113 hb12r) (fun h=>by have :=(c7 (hfm113.own dY) h).1; omega)) (fun h=>by omega)
 have hz23:=ai.size
 refine dF (by kernel_rfl) ?_
 exact bn (tn (aW _ _ (rg rfl (p (ad rfl rfl (bp (by omega))) (p mv (ag ((⟨_,by omega,i+1,xs++ [(dY,an)],vs++ [aw],ay,(by omega),((by rw [List.length_append,hxl]; rfl)),((by rw [show n - (i+1)=n - i - 1 by omega]; exact Y.step (by omega) hex)),dz,hE23,hb12s,((by omega)),rfl,rfl,rfl,(by first | rfl | (rw [← hn0]; rfl)),rfl,rfl,(by first | rfl | (rw [hrw]; rfl)),(by first | rfl | (rw [hrw]; rfl)),rfl,rfl⟩))))))))
 refine ext (te _ (te _ (be (tn (cm _ _ (sq (fun _ aW=>sq (fun _ aX=> ?_))))))))
 obtain ⟨eh,cv,rfl⟩:=bU ar.own
 refine rg rfl (ab (aG C) (p (nc rfl) (p (fa og rfl) (p (ld pk rfl ((aO ar.cells).trans rfl)) (p (ba oT rfl rfl) (ab (aa n) (p (lt rfl rfl) ?_)))))))
 refine ag ((aX _ _ (cd rfl (fun dH=> ?_) (fun dH=> ?_))))
 refine U (fun _ av=>(ab (.slice cc (a6 t).length bA) (p (ba c9 rfl rfl) (p (a9 (((a6 t).length+1:Nat):Int) rfl rfl (aQ (by omega) (by omega))) (e (cl mr (mz ((a6 t).length+1:Nat) 116 wI) rfl fun ev eG di=> ?_))))))
 obtain ⟨rfl,a7⟩:=di
 have hz126:=a7.size
 refine p aj (e (bX fR rfl rfl rfl rfl (Wk.B (I.trans a7) hb5x) (by simp) fun eM dc cP=>ag ((av _ _ (rt (tr (dO rfl dE (c8 (cs:= [.int .i64 2,aa ((a6 t).length+1),.int .i64 116]) rfl iX rfl (fun j hj=>cP.c5 j)) ?_)))))))
 rw [List.drop_eq_nil_of_le (by omega)] at Y
 exact iS.no (Y.ends (by omega)) ((hE31x.trans (I.trans a7)).trans' dc (fun q A h=>by omega))
 refine au (tn (aW _ _ (U (fun _ av=>(ab (aG C) (p (bY (ps:= []) (L:= [.int .i64 0,.int .i64 0,.int .i64 0]) nA rfl (rfl)) (p (bG (aG C) rfl) (e (bX fR rfl rfl rfl rfl (Wk.B I hb5x) (by simp) fun eO bM cS=> ?_)))))))))
 refine ag ((av _ _ (rt (dO rfl dE (c8 (cs:= [.int .i64 0,.int .i64 0,.int .i64 0]) rfl iX rfl (fun j hj=>cS.c5 j)) ?_))))
 rw [List.drop_eq_nil_of_le (by omega),show n - i=0 by omega] at Y
 have hX:=Y.done
 have dw:TF wI [27] (fun q=>q=a4):=TF.eq (cR (Wk.az (hE22.trans (hE31.trans I)) bH)) (by decide)
 unfold iS
 rw [hX]
 exact ⟨⟨wt13_4.heap.size,C,J,_,vs,by omega,rfl,ar.md bM dw (by decide) (fun h=>by omega),by omega,by omega⟩,(hE31x.trans I).trans' bM (fun q A h=>by omega)⟩
end Go.Hb.me
end
section
set_option maxRecDepth 20000
set_option maxHeartbeats 1000000
namespace Go.Hb.mU
open Go.Hb.di
open Go.Proofs
open Go.Hb.eS Go.Hb.fE Go.Hb.fN Go.Hb.j7 Go.Hb.gU Go.Hb.gW Go.Hb.j9 Go.Hb.ly Go.Hb.me
theorem Mk {α:Type} {f:α×Value→List Value} {m c i:Nat} (hf:∀ q,(f q).length=m) (hc:c < m) (hs:∀ a u v,(f (a,u)).set c v=f (a,v)) {rs:List α} {vs:List Value} {v:Value} (hi:i < rs.length) (hv:i < vs.length):((rs.zip vs).flatMap f).set (i*m+c) v=(rs.zip (vs.set i v)).flatMap f:=by
 obtain ⟨r,hr⟩:∃ r,rs[i]? =some r:=⟨_,List.getElem?_eq_getElem hi⟩
 obtain ⟨u,hu⟩:∃ u,vs[i]? =some u:=⟨_,List.getElem?_eq_getElem hv⟩
 have hz:(rs.zip vs)[i]? =some (r,u):=List.getElem?_zip_eq_some.2 ⟨hr,hu⟩
 have hz2:rs.zip (vs.set i v)=(rs.zip vs).set i (r,v):=by
  apply List.ext_getElem?
  intro j
  rw [List.getElem?_set]
  by_cases hj:i=j
  · subst hj
    rw [if_pos rfl,if_pos (List.getElem?_eq_some_iff.1 hz).1]
    exact List.getElem?_zip_eq_some.2 ⟨hr,by simp [hv]⟩
  · rw [if_neg hj]
    cases h1:(rs.zip vs)[j]? with
    | none=>
      rw [List.getElem?_eq_none_iff,List.length_zip] at h1 ⊢
      rw [List.length_set]; exact h1
    | some q=>
      have h2:=List.getElem?_zip_eq_some.1 h1
      exact List.getElem?_zip_eq_some.2 ⟨h2.1,by rw [List.getElem?_set,if_neg hj]; exact h2.2⟩
 have hl:(rs.zip vs).length=min rs.length vs.length:=List.length_zip
 have hcl:((rs.zip vs).flatMap f).length=(rs.zip vs).length*m:=kq hf _
 have hle:i*m+m≤(rs.zip vs).length*m:=by rw [← Nat.succ_mul]; exact Nat.mul_le_mul_right _ (by omega)
 rw [hz2,y2 hf _ (by omega)]
 apply List.ext_getElem?
 intro j
 have hg:=fun c hc=>tg hf (c:=c) hz hc
 have htl:(((rs.zip vs).flatMap f).take (i*m)).length=i*m:=by rw [List.length_take,hcl]; omega
 rw [List.getElem?_set]
 by_cases h1:j < i*m
 · rw [if_neg (by omega),List.append_assoc,List.getElem?_append_left (by omega),List.getElem?_take,if_pos h1]
 · rw [List.append_assoc,List.getElem?_append_right (by omega),htl]
   by_cases h2:j < i*m+m
   · rw [List.getElem?_append_left (by rw [hf]; omega)]
     obtain ⟨d,rfl⟩:∃ d,j=i*m+d:=⟨j - i*m,by omega⟩
     rw [hg d (by omega),show i*m+d - i*m=d by omega,← hs r u v,List.getElem?_set]
     by_cases h3:c=d
     · subst h3; rw [if_pos rfl,if_pos rfl,if_pos (by rw [hcl]; omega),if_pos (by rw [hf]; exact hc)]
     · rw [if_neg (by omega),if_neg h3]
   · rw [if_neg (by omega),List.getElem?_append_right (by rw [hf]; omega),hf,List.getElem?_drop]
     congr 1; omega
theorem Gb {xs:List cV} {vs:List Value} {i:Nat} {v:Value} (hi:i < xs.length) (hv:i < vs.length):(gO (xs.zip vs)).set (i*2 +1) v=gO (xs.zip (vs.set i v)):=Mk (f:=jv) (m:=2) (c:=1) (fun _=>rfl) (by decide) (fun _ _ _=>rfl) hi hv
theorem lN {l:List (cV×Value)} {i:Nat} {q:cV×Value} (h:l[i]? =some q):gO l≠[]:=fun h2=>by
 have h3:=F9 l
 have h4:=(List.getElem?_eq_some_iff.1 h).1
 rw [h2] at h3
 have h5:0=l.length*2:=h3
 omega
theorem CI (l:List Nat):(l.map bq).all Value.oneCell'=true :=by
 rw [List.all_eq_true]; intro v hv; obtain ⟨x,_,rfl⟩:=List.mem_map.1 hv; rfl
theorem Ga {w:World} {B e:Nat} {xs:List cV} {vs:List Value} {ls:List (List Nat)} (h:c4 w B e vs ls):(gO (xs.zip vs)).all Value.oneCell'=true :=by
 rw [List.all_eq_true]
 intro v hv
 obtain ⟨q,a,hv⟩:=List.mem_flatMap.1 hv
 have h1:=List.all_eq_true.1 (rX h) q.2 (List.of_mem_zip a).2
 simp only [jv,List.mem_cons,List.not_mem_nil,or_false] at hv
 rcases hv with rfl | rfl
 · rfl
 · exact h1
def kL (w:World) (B:Nat) (vs:List Value) (ls:List (List Nat)):Prop :=vs.length=ls.length∧∀ (i:Nat) v l,vs[i]? =some v→ls[i]? =some l→World.ownsRow w B 71 1 v l.length (l.map aM)
theorem kL.t {w:World} {B:Nat} {vs:List Value} {ls:List (List Nat)} (h:kL w B vs ls):c4 w B 71 vs ls:=⟨h.1,fun i v l h1 h2=>Tg.fT (h.2 i v l h1 h2)⟩
theorem wg {G:Nat→Prop} {w w':World} {B:Nat} {vs:List Value} {ls:List (List Nat)} (h:kL w B vs ls) (hm:Md G w w') (a:∀ k,G k→∀ cur z,w.heap[k]?≠some (.cells cur 71 z)):kL w' B vs ls:=⟨h.1,fun i v l h1 h2=>bW (h.2 i v l h1 h2) hm (fun k hk hg=>mK (h.2 i v l h1 h2) hk (a k hg))⟩
theorem CK (w:World) (B:Nat):kL w B [] []:=⟨rfl,fun i v l hv=>by simp at hv⟩
theorem CJ {w:World} {B i:Nat} {vs:List Value} {ls:List (List Nat)} {v:Value} (h:kL w B (vs.take i) (ls.take i)) (hi:i < ls.length) (hv:i < vs.length) (p:World.ownsRow w B 71 1 v (ls.getD i []).length ((ls.getD i []).map aM)):kL w B ((vs.set i v).take (i+1)) (ls.take (i+1)):=by
 refine ⟨by simp; have :=h.1; simp at this; omega,fun j u l h1 h2=> ?_⟩
 rw [List.getElem?_take] at h1 h2
 by_cases hj:j < i+1
 · rw [if_pos hj] at h1 h2
   rw [List.getElem?_set] at h1
   by_cases a:i=j
   · subst a
     rw [if_pos rfl,if_pos hv] at h1
     cases h1
     rw [show ls.getD i []=l by rw [List.getD_eq_getElem?_getD,h2]; rfl] at p
     exact p
   · rw [if_neg a] at h1
     exact h.2 j u l (by rw [List.getElem?_take,if_pos (by omega)]; exact h1) (by rw [List.getElem?_take,if_pos (by omega)]; exact h2)
 · rw [if_neg hj] at h1; cases h1
theorem yo (w:World):
 aU Tryz.prog 17 (List.toArray [.pointer none]) w (fun v w'=>v=aa 0∧Wk w w'):=by
 refine enter Tryz.func17 rfl Tryz.ntmps17 rfl ?_
 refine U (fun _ a=>(ae (((a _ _ (sq (fun _ q=>U (fun _ i=> ?_))))))))
 refine ab (.pointer none) (p (ij nE rfl rfl) (ag ((i _ _ (ct (rfl) (U (fun _ j=>(p aj ?_))))))))
 exact ag ((j _ _ (rt (tr (f1 rfl rfl (⟨rfl,Md.refl _ _⟩))))))
theorem yp (B i E:Nat) (G:Value) (vs:List Value) (xs:List cV) (w:World) (j:iR w B i E G vs xs) (I:xs.length≤70000):
 aU Tryz.prog 17 (List.toArray [aG i]) w (fun v w'=>v=aa (xs.length)∧Wk w w'):=by
 obtain ⟨a,c,rfl⟩:=bU j.own
 refine enter Tryz.func17 rfl Tryz.ntmps17 rfl ?_
 refine U (fun _ q=>(ae (((q _ _ (sq (fun _ s=>U (fun _ A=> ?_))))))))
 refine ab (aG i) (p (ij nE rfl rfl) (ag ((A _ _ (cf (rfl) (au (tn (s _ _ (sq (fun _ C=> ?_))))))))))
 refine rg rfl (ab (aG i) (p (nc rfl) (p (fa og rfl) (p (ld pk rfl ((aO j.cells).trans rfl)) (p (ba oT rfl rfl) (p aj (nl ?_)))))))
 exact tn (C _ _ (rt (f1 rfl rfl (⟨rfl,Md.refl _ _⟩))))
theorem yh (s:Tx) (w:World):
 aU Tryz.prog 25 (List.toArray [.pointer none,str s]) w (fun v w'=>v= .slice none 0 0∧Wk w w'):=by
 refine enter Tryz.func25 rfl Tryz.ntmps25 rfl ?_
 refine U (fun _ a=>(ae (((a _ _ (sq (fun _ q=>U (fun _ i=> ?_))))))))
 refine ab (.pointer none) (p (ij nE rfl rfl) (ag ((i _ _ (ct (rfl) (U (fun _ j=>(p aj ?_))))))))
 exact ag ((j _ _ (rt (tr (f1 rfl rfl (⟨rfl,Md.refl _ _⟩))))))
theorem yi (B a G:Nat) (I:Value) (vs:List Value) (xs:List cV) (w:World) (i:iR w B a G I vs xs) (J:xs.length≤70000) (s:Tx):
 aU Tryz.prog 25 (List.toArray [aG a,str s]) w (fun v w'=>World.ownsRow w' w.heap.size 3 1 v (idxs s xs).length ((idxs s xs).map bq)∧Wk w w'):=by
 obtain ⟨f,hf,E⟩:=i.mp
 refine enter Tryz.func25 rfl Tryz.ntmps25 rfl ?_
 refine U (fun _ j=>(ae (((j _ _ (sq (fun _ q=>U (fun _ A=> ?_))))))))
 refine ab (aG a) (p (ij nE rfl rfl) (ag ((A _ _ (cf (rfl) (au (tn (q _ _ (sq (fun _ C=> ?_))))))))))
 refine rg rfl (ab (aG a) (p (nc rfl) (p (fa tp rfl) (p (ld rR rfl ((aO i.cells).trans rfl)) (ab (str s) (p (j0 vc Cg fp (hf) rfl rfl (⟨_,rfl⟩) (rfl)) (e (cl xz (EL _ (idxs s xs).length ((idxs s xs).map bq) w (Rd.fT (E.own s)) (CI _) (by have :=mE s xs; omega)) rfl fun M w13 hR13=> ?_))))))))
 exact ae (((C _ _ (rt (f1 rfl rfl (hR13))))))
theorem FV (B E aL:Nat) (aj:Value) (vs:List Value) (xs:List cV) (w:World) (A:iR w B E aL aj vs xs) (aP:xs.length≤70000) (hl:∀ x∈xs,x.2.length≤64):
 aU Tryz.prog 16 (List.toArray [aG E]) w (fun v w'=>(∃ vs,World.ownsRow w' w.heap.size 56 2 v xs.length (gO (xs.zip vs))∧c4 w' w.heap.size 71 vs (xs.map (·.2))∧kL w' w.heap.size vs (xs.map (·.2)))∧Wk w w'):=by
 refine enter Tryz.func16 rfl Tryz.ntmps16 rfl ?_
 refine U (fun _ al=>(ae (((al _ _ (sq (fun _ an=>U (fun _ ao=> ?_))))))))
 refine ab (aG E) (p (ij nE rfl rfl) (ag ((ao _ _ (cf (rfl) (au (tn (an _ _ (sq (fun _ ap=> ?_))))))))))
 refine rg rfl (ab (aG E) (p (nc rfl) (p (fa og rfl) (p (ld pk rfl ((aO A.cells).trans rfl)) (e (cl D4 (EJ aj xs.length (gO (xs.zip vs)) w (Rd.fT A.own) (Ga A.fl) (by omega)) rfl fun v11 w11 hR11=> ?_))))))
 obtain ⟨ho11,ax⟩:=hR11
 obtain ⟨s,gh,rfl⟩:=bU ho11
 have hsl:vs.length=xs.length:=by have :=A.fl.1; rwa [List.length_map] at this
 refine ae (((ap _ _ (sq (fun _ aq=>U (fun _ ar=>(p mv (p (ba oT rfl rfl) ?_))))))))
 refine p mv (ag ((ar _ _ (az (lp (fun ac G wI=> ∃ (i:Nat) (sa:List Value),(i≤xs.length)∧(sa.length=xs.length)∧(sa.drop i=vs.drop i)∧(kL wI w.heap.size (sa.take i) ((xs.map (·.2)).take i))∧(World.ownsRow wI w.heap.size 56 2 (.slice s xs.length gh) xs.length (gO (xs.zip sa)))∧(Wk w wI)∧(G 3= .slice s xs.length gh)∧(G 13=aa (xs.length))∧(G 14=aa i)∧(xs.length - i=ac)) _ ⟨0,vs,(by omega),hsl,rfl,(CK _ _),ho11,ax,rfl,rfl,rfl,rfl⟩ ?_)))))
 rintro ac G wI ⟨i,sa,hi,aF,ai,hal,a,C,aD,aB,aC,rfl⟩
 refine fx 3 aD (fx 13 aB (fx 14 aC (U (fun _ av=>(p (lt rfl rfl) (ag ((av _ _ (sq (fun _ aw=>cd rfl (fun hc15=> ?_) (fun hc15=> ?_)))))))))))
 refine au (tn (aw _ _ (sq (fun _ I=>az (sq (fun _ am=> ?_))))))
 obtain ⟨aQ,aH,M⟩:=c4.get (A.wk C).fl (show i < (xs.map (·.2)).length by rw [List.length_map]; omega)
 obtain ⟨Z,ci,rfl⟩:=M.slice
 obtain ⟨x,Y⟩:∃ x,xs[i]? =some x:=⟨_,List.getElem?_eq_getElem (by omega)⟩
 have aK:(xs.map (·.2)).getD i []=x.2:=by rw [List.getD_eq_getElem?_getD,List.getElem?_map,Y]; rfl
 have hxl:=hl x (List.mem_of_getElem? Y)
 rw [← aK] at hxl
 have V:(xs.zip sa)[i]? =some (x,.slice Z ((xs.map (·.2)).getD i []).length ci):=List.getElem?_zip_eq_some.2 ⟨Y,(sW ai).trans aH⟩
 refine rg rfl (ab (aa i) (p (bG (aa i) rfl) (ag ((am _ _ (rg rfl (ab (.slice s xs.length gh) (ab (aa i) ?_))))))))
 refine ab (.slice s xs.length gh) (ab (aa i) (p (aJ m9 rfl rfl (by omega) (ak.ok ((aI a).2) (lN V))) (p (fa qu rfl) (p (ld ml rfl (gi (f:=jv) (m:=2) (fun _=>rfl) (aI a).2 V 1 (by decide))) (e (cl pK (pU Z ((xs.map (·.2)).getD i []).length ci (((xs.map (·.2)).getD i []).map aM) wI M.bH.2 (by simp) (fun h=>Tg.qP M (by simp) h) (pA _) (by omega)) rfl fun aN aR ay=> ?_))))))
 obtain ⟨O,hE24⟩:=ay
 have hz24:=hE24.size
 refine p (aJ m9 rfl rfl (by omega) (ak.ok ((aI (aE a hE24)).2) (lN V))) (p (fa qu rfl) (e (nB (j:=i*2 +1) (aE a hE24) p4 rfl rfl (dT O) (by rw [Int.toNat_natCast]; omega) (by omega) fun w7 J ah=> ?_)))
 rw [Gb (by omega) (by omega)] at ah
 have hE7:Wk w w7:=Wk.own (C.trans hE24) (aE a hE24) J (by omega)
 have ho24x:=bW (fZ O (show w.heap.size≤wI.heap.size from C.size)) J (fun q aA=>jh O (aE a hE24) (by decide) aA)
 have hal7:=wg (wg hal hE24 (fun _ hk=>hk.elim)) J (eN (aE a hE24) (by decide))
 refine nl (bn (tn (I _ _ (rg rfl (p (ad rfl rfl (bp (by omega))) (p mv (nl (tn ?_))))))))
 exact ⟨_,by omega,i+1,sa.set i aN,(by omega),((by rw [List.length_set]; exact aF)),(j9.set_drop ai),(CJ hal7 (by rw [List.length_map]; omega) (by omega) ho24x),ah,hE7,rfl,rfl,rfl,rfl⟩
 refine ext (te _ (te _ (be (tn (aq _ _ (U (fun _ I=>(ab (.slice s xs.length gh) ?_))))))))
 refine p (bG (.slice s xs.length gh) rfl) (ag ((I _ _ (rt (f1 rfl rfl ?_)))))
 rw [List.take_of_length_le (by omega),List.take_of_length_le (by rw [List.length_map]; omega)] at hal
 exact ⟨⟨sa,a,hal.t,hal⟩,C⟩
end Go.Hb.mU
end
section
set_option maxRecDepth 20000
set_option maxHeartbeats 1000000
namespace Go.Hb.ke
open Go.Proofs
open Go.Hb.eS Go.Hb.fE Go.Hb.iQ Go.Hb.fN Go.Hb.iw Go.Hb.jN Go.Hb.kK
def jx (c:bV):List Value:= [bq c.flag,.int .i64 (c.kind:Nat),.bool c.dW,.int .i64 (c.first:Nat),.int .i64 (c.count:Nat)]
def lR (l:List bV):List Value:=l.flatMap jx
def k3 (q:eH×Value):List Value:= [.int .i64 (q.1.kind:Nat),bq q.1.flag,.bool q.1.dW,str q.1.strip,str q.1.add,str q.1.cond,q.2,.int .i64 (q.1.line:Nat)]
def jy (l:List (eH×Value)):List Value:=l.flatMap k3
def e9 (w:World) (B e:Nat) (vs:List Value) (ls:List (List Nat)):Prop :=vs.length=ls.length∧∀ (i:Nat) v l,vs[i]? =some v→ls[i]? =some l→Tg w B e l.length v (l.map bq)
theorem e9.nil (w:World) (B e:Nat):e9 w B e [] []:=⟨rfl,fun i v l hv=>by simp at hv⟩
theorem e9.md {F:Nat→Prop} {w w':World} {B e:Nat} {vs:List Value} {ls:List (List Nat)} (h:e9 w B e vs ls) (hm:Md F w w') (hF:∀ k,F k→∀ cur z,w.heap[k]?≠some (.cells cur e z)):e9 w' B e vs ls:=⟨h.1,fun i v l h1 h2=>(h.2 i v l h1 h2).md hm hF⟩
theorem e9.wk {w w':World} {B e:Nat} {vs:List Value} {ls:List (List Nat)} (h:e9 w B e vs ls) (hm:Wk w w'):e9 w' B e vs ls:=h.md hm fun _ hk=>hk.elim
theorem e9.snoc {w:World} {B e:Nat} {vs:List Value} {ls:List (List Nat)} {v:Value} {l:List Nat} (ha:e9 w B e vs ls) (a:Tg w B e l.length v (l.map bq)):e9 w B e (vs++ [v]) (ls++ [l]):=by
 refine ⟨by rw [List.length_append,List.length_append,ha.1]; rfl,fun i p q h1 h2=> ?_⟩
 have hl:=ha.1
 by_cases hi:i < vs.length
 · rw [List.getElem?_append_left hi] at h1
   rw [List.getElem?_append_left (by omega)] at h2
   exact ha.2 i p q h1 h2
 · rw [List.getElem?_append_right (by omega)] at h1
   rw [List.getElem?_append_right (by omega),← hl] at h2
   cases hj:i - vs.length with
   | zero=>rw [hj] at h1 h2; cases h1; cases h2; exact a
   | succ j=>rw [hj] at h1; simp at h1
theorem e9.get {w:World} {B e i:Nat} {vs:List Value} {ls:List (List Nat)} (h:e9 w B e vs ls) (hi:i < ls.length):∃ v,vs[i]? =some v∧Tg w B e (ls.getD i []).length v ((ls.getD i []).map bq):=by
 have h1:i < vs.length:=by rw [h.1]; exact hi
 refine ⟨vs[i],List.getElem?_eq_getElem h1,h.2 i _ _ (List.getElem?_eq_getElem h1) ?_⟩
 rw [List.getD_eq_getElem?_getD,List.getElem?_eq_getElem hi]; rfl
structure dZ where
 rb:Nat
 fb:Nat
 eof:Nat
 vr:Value
 vs:List (Nat×Value)
 rows:List Rw
structure ff where
 v9:Value
 v10:Value
 v11:Value
 cB:Value
 sa:List Value
 rn:List Value
def jX (F:aH) (V:ff):List Value:= [.int .i64 (F.kind:Nat),str F.mx,str F.tr,bq (F.sp.getD 0 0),bq (F.sp.getD 1 0),bq (F.sp.getD 2 0),bq (F.sp.getD 3 0),bq (F.sp.getD 4 0),.int .i64 (F.least:Nat),V.v9,V.v10,V.v11,V.cB]
def zw (H:dZ) (k:Nat) (vh:Value) (ln:Nat):List Value:= [.pointer (some ⟨H.fb,0,none⟩),H.vr,.int .i64 (k:Nat),.int .i64 (H.eof:Nat),vh,.int .i64 (ln:Nat)]
structure dz (w:World) (B B0 fb:Nat) (F:aH) (V:ff):Prop where
 cells:w.heap[fb]? =some (.cells (jX F V).toArray 120 (0,0))
 o9:World.ownsRow w B 219 2 V.v9 F.bL.length (gS F.bL)
 dH:World.ownsRow w B 64 1 V.v10 F.aliases.length V.sa
 al:e9 w B0 3 V.sa F.aliases
 dp:World.ownsRow w B 129 5 V.v11 F.aX.length (lR F.aX)
 cM:World.ownsRow w B 127 8 V.cB F.rules.length (jy (F.rules.zip V.rn))
 nx:e9 w B0 3 V.rn (F.rules.map (·.next))
 lo:B≤fb
 ee:F.sp.length=5
theorem dz.md {G:Nat→Prop} {w w':World} {B B0 fb:Nat} {F:aH} {V:ff} (h:dz w B B0 fb F V) (hm:Md G w w') {L:List Nat} (hT:TF w L G) (a:(L.contains 122 || L.contains 221 || L.contains 66 || L.contains 5 || L.contains 131 || L.contains 129)=false):dz w' B B0 fb F V:=by
 simp only [Bool.or_eq_false_iff] at a
 obtain ⟨⟨⟨⟨⟨h1,h2⟩,h3⟩,h4⟩,h5⟩,h6⟩:=a
 have hfl:∀ k,G k→∀ cur z,w.heap[k]?≠some (.cells cur 3 z):=fun k hk cur z hg=>hT.no (cR hg) h4 hk
 exact ⟨hm.gp hT h.cells h1,bE h.o9 hm hT h2,bE h.dH hm hT h3,h.al.md hm hfl,bE h.dp hm hT h5,bE h.cM hm hT h6,h.nx.md hm hfl,h.lo,h.ee⟩
theorem dz.wk {w w':World} {B B0 fb:Nat} {F:aH} {V:ff} (h:dz w B B0 fb F V) (hm:Wk w w'):dz w' B B0 fb F V:=h.md (L:= []) hm (fun _ hk=>hk.elim) rfl
structure jO (w:World) (B B0 fb:Nat) (F:aH) (V:ff):Prop where
 cells:w.heap[fb]? =some (.cells (jX F V).toArray 120 (0,0))
 dH:World.ownsRow w B 64 1 V.v10 F.aliases.length V.sa
 al:e9 w B0 3 V.sa F.aliases
theorem dz.r {w:World} {B B0 fb:Nat} {F:aH} {V:ff} (h:dz w B B0 fb F V):jO w B B0 fb F V:=⟨h.cells,h.dH,h.al⟩
theorem jO.md {G:Nat→Prop} {w w':World} {B B0 fb:Nat} {F:aH} {V:ff} (h:jO w B B0 fb F V) (hm:Md G w w') {L:List Nat} (hT:TF w L G) (a:(L.contains 122 || L.contains 66 || L.contains 5)=false):jO w' B B0 fb F V:=by
 simp only [Bool.or_eq_false_iff] at a
 obtain ⟨⟨h1,h3⟩,h4⟩:=a
 exact ⟨hm.gp hT h.cells h1,bE h.dH hm hT h3,h.al.md hm (fun k hk cur z hg=>hT.no (cR hg) h4 hk)⟩
theorem jO.wk {w w':World} {B B0 fb:Nat} {F:aH} {V:ff} (h:jO w B B0 fb F V) (hm:Wk w w'):jO w' B B0 fb F V:=h.md (L:= []) hm (fun _ hk=>hk.elim) rfl
theorem dz.put {w w':World} {B B0 fb:Nat} {F F':aH} {V:ff} (h:dz w B B0 fb F V) (hm:Md (fun k=>k=fb) w w') (hc:w'.heap[fb]? =some (.cells (jX F' V).toArray 120 (0,0))) (h1:F'.bL=F.bL) (h2:F'.aliases=F.aliases) (h3:F'.aX=F.aX) (h4:F'.rules=F.rules) (h5:F'.sp.length=5):dz w' B B0 fb F' V:=by
 have hT:TF w [122] (fun k=>k=fb):=TF.eq (cR h.cells) (by decide)
 have hfl:∀ k,k=fb→∀ cur z,w.heap[k]?≠some (.cells cur 3 z):=dK h.cells (by decide)
 exact ⟨hc,h1 ▸ bE h.o9 hm hT (by decide),h2 ▸ bE h.dH hm hT (by decide),h2 ▸ h.al.md hm hfl,h3 ▸ bE h.dp hm hT (by decide),h4 ▸ bE h.cM hm hT (by decide),h4 ▸ h.nx.md hm hfl,h.lo,h5⟩
theorem dz.r3 {w w1 i:World} {B B0 fb:Nat} {F:aH} {V:ff} {v:Value} {x:Tx×Tx} (h:dz w B B0 fb F V) (hm:Md (fun k=>V.v9.ownBlock=some k) w w1) (p:World.ownsRow w1 B 219 2 v (F.bL++ [x]).length (gS (F.bL++ [x]))) (a:Md (fun k=>k=fb) w1 i) (hc:i.heap[fb]? =some (.cells (jX {F with bL:=F.bL++ [x]} {V with v9:=v}).toArray 120 (0,0))):dz i B B0 fb {F with bL:=F.bL++ [x]} {V with v9:=v} :=by
 have hT:TF w [221] (fun k=>V.v9.ownBlock=some k):=TF.own h.o9 (by decide)
 have hcl:=hm.gp hT h.cells (by decide)
 have hT2:TF w1 [122] (fun k=>k=fb):=TF.eq (cR hcl) (by decide)
 have hfl:∀ k,V.v9.ownBlock=some k→∀ cur z,w.heap[k]?≠some (.cells cur 3 z):=eN h.o9 (by decide)
 have j:∀ k,k=fb→∀ cur z,w1.heap[k]?≠some (.cells cur 3 z):=dK hcl (by decide)
 exact ⟨hc,bW p a (fun k hk hf=>cg p hcl (by decide) (hf ▸ hk)),bE (bE h.dH hm hT (by decide)) a hT2 (by decide),(h.al.md hm hfl).md a j,bE (bE h.dp hm hT (by decide)) a hT2 (by decide),bE (bE h.cM hm hT (by decide)) a hT2 (by decide),(h.nx.md hm hfl).md a j,h.lo,h.ee⟩
theorem dz.rY {w w1 j:World} {B B0 fb:Nat} {F:aH} {V:ff} {v:Value} {x:List Nat} {vx:Value} (h:dz w B B0 fb F V) (q:Tg w B0 3 x.length vx (x.map bq)) (hm:Md (fun k=>V.v10.ownBlock=some k) w w1) (p:World.ownsRow w1 B 64 1 v (F.aliases++ [x]).length ((V.sa++ [vx]))) (a:Md (fun k=>k=fb) w1 j) (hc:j.heap[fb]? =some (.cells (jX {F with aliases:=F.aliases++ [x]} {V with v10:=v,sa:=V.sa++ [vx]}).toArray 120 (0,0))):dz j B B0 fb {F with aliases:=F.aliases++ [x]} {V with v10:=v,sa:=V.sa++ [vx]} :=by
 have hT:TF w [66] (fun k=>V.v10.ownBlock=some k):=TF.own h.dH (by decide)
 have hcl:=hm.gp hT h.cells (by decide)
 have hT2:TF w1 [122] (fun k=>k=fb):=TF.eq (cR hcl) (by decide)
 have hfl:∀ k,V.v10.ownBlock=some k→∀ cur z,w.heap[k]?≠some (.cells cur 3 z):=eN h.dH (by decide)
 have i:∀ k,k=fb→∀ cur z,w1.heap[k]?≠some (.cells cur 3 z):=dK hcl (by decide)
 exact ⟨hc,bE (bE h.o9 hm hT (by decide)) a hT2 (by decide),bW p a (fun k hk hf=>cg p hcl (by decide) (hf ▸ hk)),((h.al.md hm hfl).md a i).snoc ((q.md hm hfl).md a i),bE (bE h.dp hm hT (by decide)) a hT2 (by decide),bE (bE h.cM hm hT (by decide)) a hT2 (by decide),(h.nx.md hm hfl).md a i,h.lo,h.ee⟩
theorem dz.rZ {w w1 i:World} {B B0 fb:Nat} {F:aH} {V:ff} {v:Value} {x:bV} (h:dz w B B0 fb F V) (hm:Md (fun k=>V.v11.ownBlock=some k) w w1) (p:World.ownsRow w1 B 129 5 v (F.aX++ [x]).length (lR (F.aX++ [x]))) (a:Md (fun k=>k=fb) w1 i) (hc:i.heap[fb]? =some (.cells (jX {F with aX:=F.aX++ [x]} {V with v11:=v}).toArray 120 (0,0))):dz i B B0 fb {F with aX:=F.aX++ [x]} {V with v11:=v} :=by
 have hT:TF w [131] (fun k=>V.v11.ownBlock=some k):=TF.own h.dp (by decide)
 have hcl:=hm.gp hT h.cells (by decide)
 have hT2:TF w1 [122] (fun k=>k=fb):=TF.eq (cR hcl) (by decide)
 have hfl:∀ k,V.v11.ownBlock=some k→∀ cur z,w.heap[k]?≠some (.cells cur 3 z):=eN h.dp (by decide)
 have j:∀ k,k=fb→∀ cur z,w1.heap[k]?≠some (.cells cur 3 z):=dK hcl (by decide)
 exact ⟨hc,bE (bE h.o9 hm hT (by decide)) a hT2 (by decide),bE (bE h.dH hm hT (by decide)) a hT2 (by decide),(h.al.md hm hfl).md a j,bW p a (fun k hk hf=>cg p hcl (by decide) (hf ▸ hk)),bE (bE h.cM hm hT (by decide)) a hT2 (by decide),(h.nx.md hm hfl).md a j,h.lo,h.ee⟩
theorem dz.pB {w w1 j:World} {B B0 fb:Nat} {F:aH} {V:ff} {v:Value} {x:eH} {vx:Value} (h:dz w B B0 fb F V) (q:Tg w B0 3 x.next.length vx (x.next.map bq)) (hm:Md (fun k=>V.cB.ownBlock=some k) w w1) (p:World.ownsRow w1 B 127 8 v (F.rules++ [x]).length (jy ((F.rules++ [x]).zip (V.rn++ [vx])))) (a:Md (fun k=>k=fb) w1 j) (hc:j.heap[fb]? =some (.cells (jX {F with rules:=F.rules++ [x]} {V with cB:=v,rn:=V.rn++ [vx]}).toArray 120 (0,0))):dz j B B0 fb {F with rules:=F.rules++ [x]} {V with cB:=v,rn:=V.rn++ [vx]} :=by
 have hT:TF w [129] (fun k=>V.cB.ownBlock=some k):=TF.own h.cM (by decide)
 have hcl:=hm.gp hT h.cells (by decide)
 have hT2:TF w1 [122] (fun k=>k=fb):=TF.eq (cR hcl) (by decide)
 have hfl:∀ k,V.cB.ownBlock=some k→∀ cur z,w.heap[k]?≠some (.cells cur 3 z):=eN h.cM (by decide)
 have i:∀ k,k=fb→∀ cur z,w1.heap[k]?≠some (.cells cur 3 z):=dK hcl (by decide)
 exact ⟨hc,bE (bE h.o9 hm hT (by decide)) a hT2 (by decide),bE (bE h.dH hm hT (by decide)) a hT2 (by decide),(h.al.md hm hfl).md a i,bE (bE h.dp hm hT (by decide)) a hT2 (by decide),bW p a (fun k hk hf=>cg p hcl (by decide) (hf ▸ hk)),(by rw [List.map_append]; exact ((h.nx.md hm hfl).md a i).snoc ((q.md hm hfl).md a i)),h.lo,h.ee⟩
structure eG (w:World) (B:Nat) (H:dZ) (k ln:Nat) (seen:List Tx) (vh:Value):Prop where
 cells:w.heap[H.rb]? =some (.cells (zw H k vh ln).toArray 122 (0,0))
 hd:World.ownsRow w B 9 1 vh seen.length (seen.map str)
 lo:B≤H.rb
section
variable {w w':World} {B k ln:Nat} {H:dZ} {seen:List Tx} {vh:Value}
theorem eG.md {G:Nat→Prop} (h:eG w B H k ln seen vh) (hm:Md G w w') {L:List Nat} (hT:TF w L G) (a:(L.contains 124 || L.contains 11)=false):eG w' B H k ln seen vh:=by
 simp only [Bool.or_eq_false_iff] at a
 exact ⟨hm.gp hT h.cells a.1,bE h.hd hm hT a.2,h.lo⟩
theorem eG.wk (h:eG w B H k ln seen vh) (hm:Wk w w'):eG w' B H k ln seen vh:=h.md (L:= []) hm (fun _ hk=>hk.elim) rfl
theorem eG.fb {B0:Nat} {a:aH} {V:ff} (h:eG w B H k ln seen vh) (hF:dz w B B0 H.fb a V) (hm:Md (fun k=>k=H.fb) w w'):eG w' B H k ln seen vh:=h.md hm (TF.eq (L:= [122]) (cR hF.cells) (by decide)) (by decide)
theorem eG.own {a e s n:Nat} {v:Value} {xs:List Value} (h:eG w B H k ln seen vh) (j:World.ownsRow w a e s v n xs) (hm:Md (fun k=>v.ownBlock=some k) w w') (i:([e+2].contains 124 || [e+2].contains 11)=false):eG w' B H k ln seen vh:=h.md hm (TF.own (L:= [e+2]) j (by simp)) i
theorem eG.ko {cs:Array Value} {z:Nat×Nat} (h:eG w B H k ln seen vh) (hc:w.heap[H.fb]? =some (.cells cs 120 z)) (hm:Md (fun k=>k=H.fb) w w'):eG w' B H k ln seen vh:=h.md hm (TF.eq (L:= [122]) (cR hc) (by decide)) (by decide)
theorem eG.cT {k' ln':Nat} (h:eG w B H k ln seen vh) (hm:Md (fun k=>k=H.rb) w w') (hc:w'.heap[H.rb]? =some (.cells (zw H k' vh ln').toArray 122 (0,0))):eG w' B H k' ln' seen vh:=⟨hc,bE h.hd hm (TF.eq (L:= [124]) (cR h.cells) (by decide)) (by decide),h.lo⟩
theorem dz.rb {B0:Nat} {a:aH} {V:ff} (h:dz w B B0 H.fb a V) (i:eG w B H k ln seen vh) (hm:Md (fun k=>k=H.rb) w w'):dz w' B B0 H.fb a V:=h.md hm (TF.eq (L:= [124]) (cR i.cells) (by decide)) (by decide)
end
structure j8 (F:aH) (rows:List Rw) (seen:List Tx):Prop where
 len:F.bL.length+F.aliases.length+F.aX.length+F.rules.length+rows.length≤70000
 sl:seen.length+rows.length≤70000
 row:∀ q∈rows,q.2≠[]∧q.2.length≤70000∧∀ x∈q.2,x.length≤70000
 kd:F.kind=1∨F.kind=2∨F.kind=3
def GS (w1:World) (H:dZ):Prop := ∃ B0,Tg w1 B0 50 H.rows.length H.vr (gJ H.vs)∧eI w1 B0 9 H.vs H.rows∧H.rows.length≤70000
def iT (w1 w:World) (H:dZ) (F:aH) (k ln:Nat) (seen:List Tx):Prop := ∃ V vh,dz w w1.heap.size 0 H.fb F V∧eG w w1.heap.size H k ln seen vh∧j8 F (H.rows.drop k) seen∧Wk w1 w∧k≤H.rows.length
def Co (w':World) (H:dZ) (X:Except (Nat×Nat) (aH×List Rw)) (v:Value):Prop := ∃ l e:Nat,X= .error (l,e)∧e≠0∧v= .int .i64 (e:Nat)∧Hb.aC w'.heap H.rb 5=some (.int .i64 (l:Nat))
def dR (w1:World) (H:dZ) (seen:List Tx) (X:Except (Nat×Nat) (aH×List Rw)) (v:Value) (w':World):Prop :=((∃ F' k' ln',X= .ok (F',H.rows.drop k')∧v= .int .i64 (0:Nat)∧iT w1 w' H F' k' ln' seen)∨Co w' H X v)∧Wk w1 w'
theorem j8.kV {F:aH} {q:Rw} {rest:List Rw} {seen:List Tx} (h:j8 F (q::rest) seen):j8 F rest seen:=⟨by have :=h.len; simp only [List.length_cons] at this; omega,by have :=h.sl; simp only [List.length_cons] at this; omega,fun q2 h2=>h.row q2 (List.mem_cons_of_mem _ h2),h.kd⟩
theorem eG.bK {w:World} {B:Nat} {H:dZ} {k ln:Nat} {seen:List Tx} {vh:Value} (h:eG w B H k ln seen vh):Hb.aC w.heap H.rb 5=some (.int .i64 (ln:Nat)):=(aO h.cells).trans rfl
theorem GS.get {w1 w:World} {H:dZ} {k:Nat} (h:GS w1 H) (hm:Wk w1 w) (hk:k < H.rows.length):∃ n r i j a c,H.rows.drop k=(n,r)::H.rows.drop (k+1)∧H.vr= .slice a H.rows.length c∧ak w.heap a (gJ H.vs)∧H.vs[k]? =some (n,.slice i r.length j)∧(∃ B0,Tg w1 B0 9 r.length (.slice i r.length j) (r.map str))∧H.vs.length=H.rows.length:=by
 obtain ⟨B0,h1,h2,_⟩:=h
 obtain ⟨a,c,hv⟩:=h1.slice
 have hvl:=h2.1
 obtain ⟨q,A⟩:∃ q,H.rows[k]? =some q:=⟨_,List.getElem?_eq_getElem hk⟩
 obtain ⟨n,r⟩:=q
 obtain ⟨p,hp⟩:∃ p,H.vs[k]? =some p:=⟨_,List.getElem?_eq_getElem (by omega)⟩
 obtain ⟨C,s⟩:=h2.2 k p (n,r) hp A
 obtain ⟨pn,E⟩:=p
 simp only at C s
 subst C
 obtain ⟨i,j,rfl⟩:=s.slice
 rw [hv] at h1
 refine ⟨pn,r,i,j,a,c,?_,hv,(h1.wk hm).bH.2,hp,⟨B0,s⟩,hvl⟩
 rw [List.drop_eq_getElem_cons hk]
 rw [List.getElem?_eq_getElem hk] at A
 rw [Option.some.inj A]
end Go.Hb.ke
end
section
set_option maxRecDepth 20000
set_option maxHeartbeats 1000000
namespace Go.Hb.mW
open Go.Hb.di
open Go.Proofs
open Go.Hb.kg
theorem I8 {l:List UInt8} {j:Nat} {b:UInt8} (h:j < l.length):b∈l.take (j+1)↔b∈l.take j∨l.getD j 0=b:=by
 rw [ef l j 0 h,List.mem_append,List.mem_singleton,eq_comm (a:=b)]
theorem oH (s:List UInt8) (w:World) (hs:s.length≤1048576):
 aU Tryz.prog 52 (List.toArray [str s]) w (fun v w'=>v= .bool (eh s)∧Wk w w'):=by
 refine enter Tryz.func52 rfl Tryz.ntmps52 rfl ?_
 refine U (fun _ I=>(ae (((I _ _ (sq (fun _ J=>U (fun _ M=> ?_))))))))
 refine ae (((M _ _ (az (lp (fun G C wI=> ∃ (i:Nat),(i≤s.length)∧(∀ j,j < i→fj (s.getD j 0)=true)∧(Wk w wI)∧(C 0=str s)∧(C 3= .int .i64 i)∧(s.length - i=G)) _ ⟨0,(by omega),((fun j hj=>by omega)),(Md.refl _ _),rfl,rfl,rfl⟩ ?_)))))
 rintro G C wI ⟨i,hi,hp,a,ac,ah,rfl⟩
 refine fx 0 ac (fx 3 ah (sq (fun _ O=>U (fun _ V=>(ab (.int .i64 i) (ab (str s) (p (bI u9 rfl rfl) (p (lt rfl rfl) ?_))))))))
 refine ag ((V _ _ (cd rfl (fun Z=> ?_) (fun Z=> ?_))))
 refine au (tn (O _ _ (sq (fun _ q=>az (U (fun _ E=>(ab (str s) (ab (.int .i64 i) ?_))))))))
 refine p (dA u9 rfl rfl (by omega)) (p (lt rfl rfl) (p mv (gs (t:=14) rfl (fun aa=> ?_) (fun aa=> ?_))))
 refine sk rfl rfl rfl rfl (sk rfl rfl rfl rfl (sk rfl rfl rfl rfl (sk rfl rfl rfl rfl (p (bf rfl) (ag ((E _ _ (ct rfl ?_))))))))
 refine U (fun _ A=>(ae (((A _ _ (rt (br (tr ?_))))))))
 exact tr (br (tr (f1 rfl rfl (⟨by show Value.bool false =_; rw [m6 (i:=i) (by omega) (ta (by omega))],a⟩))))
 refine pg rfl rfl rfl (aB (str s) rfl) (pg rfl rfl rfl (aB (.int .i64 i) rfl) (pg rfl rfl rfl (dA u9 rfl rfl (by omega)) (pg rfl rfl rfl (a8 rfl rfl) (p (a4 rfl) (ag ((E _ _ (cd rfl (fun Y=> ?_) (fun Y=> ?_)))))))))
 refine U (fun _ A=>(ae (((A _ _ (rt (br (tr ?_))))))))
 exact tr (br (tr (f1 rfl rfl (⟨by show Value.bool false =_; rw [m6 (i:=i) (by omega) (ta (by omega))],a⟩))))
 have ai:fj (s.getD i 0)=true :=GI (by omega) (by omega)
 refine au (bn (tn (q _ _ (rg rfl (ab (.int .i64 i) (p (ad rfl rfl (bp (by omega))) (p aj (nl ?_))))))))
 exact tn (⟨_,by omega,i+1,(by omega),((fun j hj=>by rcases Nat.lt_or_ge j i with h | h <;> first | exact hp j h | (rw [show j=i by omega]; exact ai))),a,rfl,rfl,rfl⟩)
 refine ext (te _ (te _ (be (tn (J _ _ (U (fun _ q=>(p aj ?_))))))))
 exact ag ((q _ _ (rt (f1 rfl rfl (⟨by show Value.bool true =_; rw [nY (fun j hj=>hp j (by omega))],a⟩)))))
theorem q8 (s:List UInt8) (w:World) (hs:s.length≤1048576):
 aU Tryz.prog 84 (List.toArray [str s]) w (fun v w'=>v=AQ (aV s)∧Wk w w'):=by
 refine enter Tryz.func84 rfl Tryz.ntmps84 rfl ?_
 refine U (fun _ ah=>(p aj (p aj (p aj (ae (((ah _ _ ?_))))))))
 refine U (fun _ ao=>(e (iY eQ fun b8 w8 hb8 aG aC=> ?_)))
 have aW:World.ownsRow w8 w.heap.size 5 1 (.slice (some ⟨b8,0,none⟩) 0 0) (([]:List UInt8)).length (U8 (([]:List UInt8))):=aC _ (by omega)
 refine ae (((ao _ _ (U (fun _ aq=>(ae (((aq _ _ ?_)))))))))
 refine sq (fun _ ar=>az (lp (fun Z J wI=> ∃ (i:Nat) (acc:List UInt8) (Y:Value),(i≤s.length∧acc.length≤i)∧(World.ownsRow wI w.heap.size 5 1 (Y) (acc).length (U8 (acc)))∧(Wk w wI)∧(fM acc (s.drop i)=aV s)∧(J 0=str s)∧(J 6=Y)∧(J 7= .int .i64 i)∧(s.length - i=Z)) _ ⟨0,[],.slice (some ⟨b8,0,none⟩) 0 0,(by simp),aW,aG.md,rfl,rfl,rfl,rfl,rfl⟩ ?_))
 rintro Z J wI ⟨i,acc,Y,hi,q,j,hd,aX,aY,aZ,rfl⟩
 refine fx 0 aX (fx 6 aY (fx 7 aZ ?_))
 obtain ⟨E,G,rfl⟩:=bU q
 refine sq (fun _ av=>U (fun _ aw=>(ab (.int .i64 i) (ab (str s) (p (bI u9 rfl rfl) (p (lt rfl rfl) (nl ?_)))))))
 refine tn (aw _ _ (cd rfl (fun aK=> ?_) (fun aK=> ?_)))
 refine au (tn (av _ _ (az (sq (fun _ O=>U (fun _ ax=>(ab (str s) (ab (.int .i64 i) ?_))))))))
 refine p (dA u9 rfl rfl (by omega)) (p (a8 rfl rfl) (ag ((ax _ _ (cd rfl (fun aL=> ?_) (fun aL=> ?_))))))
 have aJ:(s.getD i 0).toNat=47:=by omega
 refine sq (fun _ C=> ?_)
 have a:(fun w'=>Wk wI w') wI.drew:=(Md.refl _ _).drew
 refine bC (fun w'=>Wk wI w') rfl wide a (bo 0 rfl (.slice E acc.length G) a (bo 2 rfl (str s) a (bo 3 rfl (.int .i64 i) a (aA 4 rfl (fun _ _=>a9 ((i+1:Nat):Int) rfl rfl (aQ (by omega) (by omega))) a (aA 5 rfl (fun _ _=>kB u9 rfl rfl (by omega)) a (aA 1 rfl (fun w' aH=>jt jq rfl ((aI (aE q aH)).2) (rfl)) a (aA 6 rfl (fun _ _=>aj) a ?_)))))))
 refine aA 7 rfl (fun _ _=>aj) a (aA 8 rfl (fun _ _=>aj) a (aA 9 rfl (fun _ _=>aj) a (hn (by kernel_rfl) (tn (C _ _ (rt (tr (br ?_))))))))
 refine tr (br (tr (f4 rfl rfl rfl rfl rfl ?_)))
 exact ⟨by rw [← hd,drop_cons 0 (by omega :i < s.length),vu aJ]; rfl,Md.trans j (Md.refl _ _).drew⟩
 refine au (tn (O _ _ ?_))
 refine cX (fun M wC=> ∃ (k:Nat),(k < s.length∧i≤k∧k≤i+1)∧(Wk w wC)∧(World.ownsRow wC w.heap.size 5 1 (.slice E acc.length G) (acc).length (U8 (acc)))∧(fM (acc++ [s.getD k 0]) (s.drop (k+1))=aV s)∧(M 0=str s)∧(M 6= .slice E acc.length G)∧(M 7= .int .i64 k)) ?_ ?_
 refine U (fun _ C=>(ab (str s) (ab (.int .i64 i) (p (dA u9 rfl rfl (by omega)) (p (a8 rfl rfl) (ag ((C _ _ ?_))))))))
 refine cd rfl (fun aM=> ?_) (fun aM=> ?_)
 have I:(s.getD i 0).toNat=92:=by omega
 refine U (fun _ ai=>(ab (.int .i64 i) (p (a9 ((i+1:Nat):Int) rfl rfl (aQ (by omega) (by omega))) (ae (((ai _ _ (sq (fun _ al=> ?_)))))))))
 refine U (fun _ am=>(p mv (ab (str s) (p (bI u9 rfl rfl) (p (ge rfl rfl) (ag ((am _ _ ?_))))))))
 refine cd rfl (fun aN=> ?_) (fun aN=> ?_)
 refine U (fun _ A=>(p aj (p aj (p aj (ae (((A _ _ ?_))))))))
 refine rt (tr (tr (br (tr (br (tr (f4 rfl rfl rfl rfl rfl ?_)))))))
 exact ⟨by rw [← hd,drop_cons 0 (by omega :i < s.length),List.drop_eq_nil_of_le (by omega),vp I]; rfl,j⟩
 refine au (tn (al _ _ (U (fun _ A=>(ab (str s) (p mv (p (dA u9 rfl rfl (by omega)) (p (bP rfl rfl) ?_))))))))
 refine p mv (gs (t:=37) rfl (fun aR=> ?_) (fun aR=> ?_))
 refine pg rfl rfl rfl (aB (str s) rfl) (pg rfl rfl rfl mv (pg rfl rfl rfl (dA u9 rfl rfl (by omega)) (pg rfl rfl rfl (bP rfl rfl) (p (bf rfl) (p mv (gs (t:=43) rfl (fun aS=> ?_) (fun aS=> ?_)))))))
 refine pg rfl rfl rfl (aB (str s) rfl) (pg rfl rfl rfl mv (pg rfl rfl rfl (dA u9 rfl rfl (by omega)) (pg rfl rfl rfl (bP rfl rfl) (p (bf rfl) (ag ((A _ _ (cd rfl (fun aO=> ?_) (fun aO=> ?_)))))))))
 refine U (fun _ an=>(p aj (p aj (p aj (ae (((an _ _ ?_))))))))
 refine rt (tr (br (tr (br (tr (f4 rfl rfl rfl rfl rfl ?_))))))
 exact ⟨by rw [← hd,drop_cons 0 (by omega :i < s.length),drop_cons 0 (by omega :i+1 < s.length),vq I (by rw [g3]; exact decide_eq_false (by omega))]; rfl,j⟩
 exact au (tn (⟨i+1,(by omega),j,q,((by rw [← hd,drop_cons 0 (by omega :i < s.length),drop_cons 0 (by omega :i+1 < s.length),oW I (by rw [g3]; exact decide_eq_true (by omega))])),rfl,rfl,rfl⟩))
 refine sk rfl rfl rfl rfl (sk rfl rfl rfl rfl (sk rfl rfl rfl rfl (sk rfl rfl rfl rfl (p (a4 rfl) (ag ((A _ _ (cf rfl ?_))))))))
 exact au (tn (⟨i+1,(by omega),j,q,((by rw [← hd,drop_cons 0 (by omega :i < s.length),drop_cons 0 (by omega :i+1 < s.length),oW I (by rw [g3]; exact decide_eq_true (by omega))])),rfl,rfl,rfl⟩))
 refine sk rfl rfl rfl rfl (sk rfl rfl rfl rfl (sk rfl rfl rfl rfl (sk rfl rfl rfl rfl (p (a4 rfl) (p mv (sk rfl rfl rfl rfl (sk rfl rfl rfl rfl ?_)))))))
 refine sk rfl rfl rfl rfl (sk rfl rfl rfl rfl (p (a4 rfl) (ag ((A _ _ (cf rfl (au (tn ?_))))))))
 exact ⟨i+1,(by omega),j,q,((by rw [← hd,drop_cons 0 (by omega :i < s.length),drop_cons 0 (by omega :i+1 < s.length),oW I (by rw [g3]; exact decide_eq_true (by omega))])),rfl,rfl,rfl⟩
 exact au (tn (⟨i,(by omega),j,q,((by rw [← hd,drop_cons 0 (by omega :i < s.length),vt (by omega) (by omega)])),rfl,rfl,rfl⟩))
 rintro M wC ⟨k,hk,aD,ac,aP,a0,a1,a2⟩
 refine fx 0 a0 (fx 6 a1 (fx 7 a2 (U (fun _ C=>(ab (.slice E acc.length G) (ab (str s) (ab (.int .i64 k) (p (dA u9 rfl rfl (by omega)) (e (ea eQ rfl rfl fun a5 w53 a6 V ay=> ?_))))))))))
 have aa:Wk w w53:=Md.trans aD V.md
 refine e (ap eQ (aE ac V.md) rfl (by have :=aa.size; omega) rfl (ak.cQ ay) (rfl) (rfl) (by omega) (by omega) fun a3 bb aT aF ba a7=> ?_)
 have hE54:=Wk.own aa (aE ac V.md) aF (Nat.le_refl _)
 have ho54x:=l1 aT
 refine ae (((C _ _ (rg rfl (ab (.int .i64 k) (p (a9 ((k+1:Nat):Int) rfl rfl (aQ (by omega) (by omega))) (p aj (nl ?_))))))))
 exact bn (tn (⟨_,by omega,k+1,acc++ [s.getD k 0],a3,(by rw [List.length_append,List.length_singleton]; omega),ho54x,hE54,aP,rfl,rfl,rfl,rfl⟩))
 refine ext (te _ (te _ (be (tn (ar _ _ (U (fun _ O=>(ab (.slice E acc.length G) ?_))))))))
 refine p (jt jq rfl ((aI q).2) (rfl)) (p aj (p aj (p aj (ae (((O _ _ (rt ?_))))))))
 refine f4 rfl rfl rfl rfl rfl ?_
 exact ⟨by rw [← hd,List.drop_eq_nil_of_le (by omega),rK]; rfl,j⟩
theorem Kr (s:List UInt8) (w:World) (hs:s.length≤1048576):
 aU Tryz.prog 81 (List.toArray [str s]) w (fun v w'=>v= .tuple #[str (letE s).1,.int .i64 (letE s).2]∧Wk w w'):=by
 refine enter Tryz.func81 rfl Tryz.ntmps81 rfl ?_
 refine U (fun _ aL=>(p aj (ae (((aL _ _ (U (fun _ aP=> ?_))))))))
 refine ab (str s) (e (cl nZ (oH s _ hs) rfl fun v10 w10 hR10=> ?_))
 obtain ⟨rfl,al⟩:=hR10
 refine ae (((aP _ _ (sq (fun _ aQ=>U (fun _ aH=>(ab (str s) (p (bI u9 rfl rfl) ?_))))))))
 refine p (a8 rfl rfl) (p mv (gs (t:=14) rfl (fun aw=> ?_) (fun aw=> ?_)))
 refine sk rfl rfl rfl rfl (sk rfl rfl rfl rfl (p (bf rfl) (ag ((aH _ _ (ct rfl (U (fun _ Y=> ?_))))))))
 exact p aj (ae (((Y _ _ (rt (tr (f2 rfl rfl rfl (⟨by show Value.tuple #[str [],.int .i64 21]=_; unfold letE; rw [if_pos (.inl (List.length_eq_zero_iff.1 (by omega)))]; rfl,al⟩))))))))
 refine pg rfl rfl rfl mv (pg rfl rfl rfl (no rfl) (p (a4 rfl) (ag ((aH _ _ (cb rfl (fun am=> ?_) (fun am=> ?_)))))))
 refine U (fun _ Y=>(p aj (ae (((Y _ _ (rt (tr ?_))))))))
 exact f2 rfl rfl rfl (⟨by show Value.tuple #[str [],.int .i64 21]=_; unfold letE; rw [if_pos (.inr (by simpa using am))]; rfl,al⟩)
 refine au (tn (aQ _ _ (U (fun _ Y=>(e (iY eQ fun aK w18 bk aY hB18=> ?_))))))
 have a5:World.ownsRow w18 w.heap.size 5 1 (.slice (some ⟨aK,0,none⟩) 0 0) (([]:List UInt8)).length (U8 (([]:List UInt8))):=hB18 _ (by have :=al.size; omega)
 have aX:Wk w w18:=Md.trans al aY.md
 refine ae (((Y _ _ (sq (fun _ aR=>U (fun _ aS=>(p aj (nl ?_))))))))
 refine tn (aS _ _ (az (lp (fun Z ao wI=> ∃ (i:Nat) (ay:Value),(i≤s.length)∧(World.ownsRow wI w.heap.size 5 1 (ay) ((lets (s.take i))).length (U8 ((lets (s.take i)))))∧(Wk w wI)∧(ao 0=str s)∧(ao 5=ay)∧(ao 6= .int .i64 i)∧(s.length - i=Z)) _ ⟨0,.slice (some ⟨aK,0,none⟩) 0 0,(by omega),a5,aX,rfl,rfl,rfl,rfl⟩ ?_)))
 rintro Z ao wI ⟨i,ay,hi,A,aa,a6,a7,a9,rfl⟩
 refine fx 0 a6 (fx 5 a7 (fx 6 a9 ?_))
 obtain ⟨C,E,rfl⟩:=bU A
 have hll:=tX (s.take i)
 rw [List.length_take] at hll
 refine sq (fun _ aT=>U (fun _ aV=>(ab (.int .i64 i) (ab (str s) (p (bI u9 rfl rfl) (p (lt rfl rfl) (nl ?_)))))))
 refine tn (aV _ _ (cd rfl (fun a1=> ?_) (fun a1=> ?_)))
 refine au (tn (aT _ _ (sq (fun _ M=>az (U (fun _ aM=>(p aj (nl ?_))))))))
 refine tn (aM _ _ (sq (fun _ aF=>U (fun _ aN=>(ae (((aN _ _ (az ?_)))))))))
 refine lp (fun Z O ai=> ∃ (j:Nat) (ob:Bool),(j≤(lets (s.take i)).length)∧(ob=decide (s.getD i 0∈(lets (s.take i)).take j))∧(Wk wI ai)∧(O 0=str s)∧(O 5= .slice C (lets (s.take i)).length E)∧(O 6= .int .i64 i)∧(O 7= .bool ob)∧(O 8= .int .i64 j)∧((lets (s.take i)).length - j=Z)) _ ⟨0,false,(by omega),rfl,(Md.refl _ _),rfl,rfl,rfl,rfl,rfl,rfl⟩ ?_
 rintro Z O ai ⟨j,ob,hj,an,a,bb,bc,bd,bg,bh,rfl⟩
 refine fx 0 bb (fx 5 bc (fx 6 bd (fx 7 bg (fx 8 bh (sq (fun _ aO=>U (fun _ aG=>(ab (.int .i64 j) (ab (.slice C (lets (s.take i)).length E) (p (ba jn rfl rfl) (p (lt rfl rfl) ?_)))))))))))
 refine p mv (gs (t:=29) rfl (fun hlt=> ?_) (fun hlt=> ?_))
 refine pg rfl rfl rfl (aB (.bool ob) rfl) (pg rfl rfl rfl (no rfl) (p (bf rfl) (ag ((aG _ _ (cb rfl (fun av=> ?_) (fun av=> ?_)))))))
 have a3:¬s.getD i 0∈(lets (s.take i)).take j:=of_decide_eq_false (by rw [← an]; simpa using av)
 refine au (tn (aO _ _ (sq (fun _ V=>az ?_))))
 have q:(fun w'=>Wk ai w') ai.drew:=(Md.refl _ _).drew
 refine bC (fun w'=>Wk ai w') rfl wide q (bo 0 rfl (.slice C (lets (s.take i)).length E) q (bo 1 rfl (.int .i64 j) q (aA 2 rfl (fun _ _=>aJ iK rfl rfl (by omega) (ak.ok ((aI (aE A a)).2) (lh (by omega)))) q (aA 3 rfl (fun w' aZ=>ld kQ rfl (Wk.aC aZ (lg (i:=j) (aI (aE A a)).2 (by omega)))) q (bo 4 rfl (str s) q (bo 5 rfl (.int .i64 i) q (aA 6 rfl (fun _ _=>dA u9 rfl rfl (by omega)) q ?_)))))))
 refine aA 7 rfl (fun _ _=>a8 rfl rfl) q (aA 8 rfl (fun _ _=>aj) q (hn (by kernel_rfl) (bn (tn (V _ _ (rg rfl (ab (.int .i64 j) (p (ad rfl rfl (bp (by omega))) ?_))))))))
 exact ae (((⟨_,by omega,j+1,decide (((lets (s.take i)).getD j 0).toNat=((s.getD i 0).toNat:Int)),(by omega),((decide_eq_decide.2 (by rw [I8 (by omega)]; constructor <;> intro h <;> first | exact .inr (UInt8.toNat_inj.1 (by omega)) | (rcases h with h | h <;> first | exact absurd h a3 | (rw [h]))))),(Md.trans a (Md.refl _ _).drew),rfl,rfl,rfl,rfl,rfl,rfl⟩)))
 have ah:ob=decide (s.getD i 0∈lets (s.take i)):=by
  have h1:ob=true :=by simpa using av
  rw [h1] at an
  rw [h1]; exact (decide_eq_true (List.mem_of_mem_take (of_decide_eq_true an.symm))).symm
 refine ext (te _ (te _ (be (tn (aF _ _ (U (fun _ V=>(ab (.bool ob) ?_))))))))
 refine p (no rfl) (ag ((V _ _ (cb rfl (fun I=> ?_) (fun I=> ?_)))))
 have J:¬s.getD i 0∈lets (s.take i):=of_decide_eq_false (by rw [← ah]; simpa using I)
 refine rg rfl (ab (.slice C (lets (s.take i)).length E) (ab (str s) (ab (.int .i64 i) (p (dA u9 rfl rfl (by omega)) (e (ea eQ rfl rfl fun aW w49 a0 G aq=> ?_))))))
 have ac:Wk w w49:=Md.trans (Md.trans aa a) G.md
 refine e (ap eQ (aE (aE A a) G.md) rfl (by have :=ac.size; omega) rfl (ak.cQ aq) (rfl) (rfl) (by omega) (by omega) fun aD bj ax ar bi a2=> ?_)
 have hE50:=Wk.own ac (aE (aE A a) G.md) ar (Nat.le_refl _)
 have ho50x:=l1 ax
 refine p aj (nl (bn (tn (M _ _ (rg rfl (ab (.int .i64 i) (p (ad rfl rfl (bp (by omega))) (p aj ?_))))))))
 exact ag ((⟨_,by omega,i+1,aD,(by omega),((by rw [lW (by omega),if_neg J]; exact ho50x)),hE50,rfl,rfl,rfl,rfl⟩))
 have J:s.getD i 0∈lets (s.take i):=of_decide_eq_true (by rw [← ah]; simpa using I)
 refine au (bn (tn (M _ _ (rg rfl (ab (.int .i64 i) (p (ad rfl rfl (bp (by omega))) (p aj (nl ?_))))))))
 exact tn (⟨_,by omega,i+1,.slice C (lets (s.take i)).length E,(by omega),((by rw [lW (by omega),if_pos J]; exact aE A a)),(Md.trans aa a),rfl,rfl,rfl,rfl⟩)
 have ah:ob=decide (s.getD i 0∈lets (s.take i)):=by rw [an,List.take_of_length_le (by omega)]
 refine sk rfl rfl rfl rfl (sk rfl rfl rfl rfl (p (a4 rfl) (ag ((aG _ _ (cf rfl (ext (te _ ?_))))))))
 refine te _ (be (tn (aF _ _ (U (fun _ V=>(ab (.bool ob) (p (no rfl) (nl ?_))))))))
 refine tn (V _ _ (cb rfl (fun I=> ?_) (fun I=> ?_)))
 have J:¬s.getD i 0∈lets (s.take i):=of_decide_eq_false (by rw [← ah]; simpa using I)
 refine rg rfl (ab (.slice C (lets (s.take i)).length E) (ab (str s) (ab (.int .i64 i) (p (dA u9 rfl rfl (by omega)) (e (ea eQ rfl rfl fun aW w49 a0 G aq=> ?_))))))
 have ac:Wk w w49:=Md.trans (Md.trans aa a) G.md
 refine e (ap eQ (aE (aE A a) G.md) rfl (by have :=ac.size; omega) rfl (ak.cQ aq) (rfl) (rfl) (by omega) (by omega) fun aD bj ax ar bi a2=> ?_)
 have hE50:=Wk.own ac (aE (aE A a) G.md) ar (Nat.le_refl _)
 have ho50x:=l1 ax
 refine p aj (nl (bn (tn (M _ _ (rg rfl (ab (.int .i64 i) (p (ad rfl rfl (bp (by omega))) (p aj ?_))))))))
 exact ag ((⟨_,by omega,i+1,aD,(by omega),((by rw [lW (by omega),if_neg J]; exact ho50x)),hE50,rfl,rfl,rfl,rfl⟩))
 have J:s.getD i 0∈lets (s.take i):=of_decide_eq_true (by rw [← ah]; simpa using I)
 refine au (bn (tn (M _ _ (rg rfl (ab (.int .i64 i) (p (ad rfl rfl (bp (by omega))) (p aj (nl ?_))))))))
 exact tn (⟨_,by omega,i+1,.slice C (lets (s.take i)).length E,(by omega),((by rw [lW (by omega),if_pos J]; exact aE A a)),(Md.trans aa a),rfl,rfl,rfl,rfl⟩)
 refine ext (te _ (te _ (be (tn (aR _ _ (U (fun _ M=>(ab (.slice C (lets (s.take i)).length E) ?_))))))))
 exact p (jt jq rfl ((aI A).2) (rfl)) (p aj (ae (((M _ _ (rt (f2 rfl rfl rfl (⟨by show Value.tuple #[str (lets (s.take i)),.int .i64 0]=_; unfold letE; rw [if_neg (fun h=>h.elim (fun h=>by rw [h] at aw; exact aw rfl) (fun h=>by rw [h] at am; cases am)),show s.take i=s from List.take_of_length_le (by omega)]; rfl,aa⟩))))))))
end Go.Hb.mW
end
