/-
  Walks and plain laws that the law rests on, laid together. No conditions but those that each theorem names.
-/
import Derived.Test.YtkiemnnhcilhpaaGreatDoorMnDicReads4
set_option linter.unusedVariables false
section
set_option maxRecDepth 20000
set_option maxHeartbeats 1000000
namespace Go.Hb.vj
open Go.Hb.du
open Go.Proofs
open Go.Hb.ff Go.Hb.fM Go.Hb.iS Go.Hb.fV Go.Hb.iw Go.Hb.jM Go.Hb.kH Go.Hb.hY
theorem Hs (B:Nat) (H:bO) (F:aH) (rows:List Rw) (ln:Nat) (seen:List Tx) (r:List Tx) (j:Nat) (a:Option Addr) (i:Nat) (w:World) (p:St w B H F rows ln seen) (hT:Tg w j 9 r.length (.slice a r.length i) (r.map str)) (hrl:∀ x∈r,x.length≤70000) (hw:r.length=width (r.getD 0 [])) (A:gC F seen) (s:width (r.getD 0 [])=2→r.getD 0 []∉seen) (q:F.bN.length+F.aliases.length+F.a3.length+F.rules.length+rows.length < 70000) (hk:r.getD 0 []=eQ):dO Tryz.prog 58 (List.toArray [.pointer (some ⟨H.rb,0,none⟩),.slice a r.length i]) w (fO B H seen (bw H.eof F seen rows ln r) w) (fN B H (bw H.eof F seen rows ln r) w):=by
 have h:=Il B H F rows ln seen r j a i w p hT (by rw [hw,hk]; decide) hrl
 rw [show bw H.eof F seen rows ln r=gR F seen rows ln r from by unfold bw; rw [hk]; rfl]
 exact h
theorem HA (B:Nat) (H:bO) (F:aH) (rows:List Rw) (ln:Nat) (seen:List Tx) (r:List Tx) (j:Nat) (a:Option Addr) (i:Nat) (w:World) (p:St w B H F rows ln seen) (hT:Tg w j 9 r.length (.slice a r.length i) (r.map str)) (hrl:∀ x∈r,x.length≤70000) (hw:r.length=width (r.getD 0 [])) (A:gC F seen) (s:width (r.getD 0 [])=2→r.getD 0 []∉seen) (q:F.bN.length+F.aliases.length+F.a3.length+F.rules.length+rows.length < 70000) (hk:r.getD 0 []=e5):dO Tryz.prog 59 (List.toArray [.pointer (some ⟨H.rb,0,none⟩),.slice a r.length i]) w (fO B H seen (bw H.eof F seen rows ln r) w) (fN B H (bw H.eof F seen rows ln r) w):=by
 have h:=El B H F rows ln seen r j a i w p hT (by rw [hw,hk]; decide) hrl
 rw [show bw H.eof F seen rows ln r=jG F rows ln r from by unfold bw; rw [hk]; rfl]
 exact h
theorem HC (B:Nat) (H:bO) (F:aH) (rows:List Rw) (ln:Nat) (seen:List Tx) (r:List Tx) (j:Nat) (a:Option Addr) (i:Nat) (w:World) (p:St w B H F rows ln seen) (hT:Tg w j 9 r.length (.slice a r.length i) (r.map str)) (hrl:∀ x∈r,x.length≤70000) (hw:r.length=width (r.getD 0 [])) (A:gC F seen) (s:width (r.getD 0 [])=2→r.getD 0 []∉seen) (q:F.bN.length+F.aliases.length+F.a3.length+F.rules.length+rows.length < 70000) (hk:r.getD 0 []=fp):dO Tryz.prog 60 (List.toArray [.pointer (some ⟨H.rb,0,none⟩),.slice a r.length i]) w (fO B H seen (bw H.eof F seen rows ln r) w) (fN B H (bw H.eof F seen rows ln r) w):=by
 have h:=Lz B H F rows ln seen r j a i w p hT (by rw [hw,hk]; decide) hrl
 rw [show bw H.eof F seen rows ln r=jK F rows ln r from by unfold bw; rw [hk]; rfl]
 exact h
theorem Hw (B:Nat) (H:bO) (F:aH) (rows:List Rw) (ln:Nat) (seen:List Tx) (r:List Tx) (j:Nat) (a:Option Addr) (i:Nat) (w:World) (p:St w B H F rows ln seen) (hT:Tg w j 9 r.length (.slice a r.length i) (r.map str)) (hrl:∀ x∈r,x.length≤70000) (hw:r.length=width (r.getD 0 [])) (s:gC F seen) (q:width (r.getD 0 [])=2→r.getD 0 []∉seen) (A:F.bN.length+F.aliases.length+F.a3.length+F.rules.length+rows.length < 70000) (hk:r.getD 0 []=gw):dO Tryz.prog 61 (List.toArray [.pointer (some ⟨H.rb,0,none⟩),.slice a r.length i]) w (fO B H seen (bw H.eof F seen rows ln r) w) (fN B H (bw H.eof F seen rows ln r) w):=by
 have h:=oR B H F rows ln seen r j a i w p hT (by rw [hw,hk]; decide) hrl (by rw [hk]; decide) (s _ (by rw [hk]; decide) (q (by rw [hk]; decide)))
 rw [show bw H.eof F seen rows ln r=gL F rows ln r from by unfold bw; rw [hk]; rfl]
 exact h
theorem Ht (B:Nat) (H:bO) (F:aH) (rows:List Rw) (ln:Nat) (seen:List Tx) (r:List Tx) (j:Nat) (a:Option Addr) (i:Nat) (w:World) (p:St w B H F rows ln seen) (hT:Tg w j 9 r.length (.slice a r.length i) (r.map str)) (hrl:∀ x∈r,x.length≤70000) (hw:r.length=width (r.getD 0 [])) (s:gC F seen) (q:width (r.getD 0 [])=2→r.getD 0 []∉seen) (A:F.bN.length+F.aliases.length+F.a3.length+F.rules.length+rows.length < 70000) (hk:r.getD 0 []=gG):dO Tryz.prog 61 (List.toArray [.pointer (some ⟨H.rb,0,none⟩),.slice a r.length i]) w (fO B H seen (bw H.eof F seen rows ln r) w) (fN B H (bw H.eof F seen rows ln r) w):=by
 have h:=oR B H F rows ln seen r j a i w p hT (by rw [hw,hk]; decide) hrl (by rw [hk]; decide) (s _ (by rw [hk]; decide) (q (by rw [hk]; decide)))
 rw [show bw H.eof F seen rows ln r=gL F rows ln r from by unfold bw; rw [hk]; rfl]
 exact h
theorem Hu (B:Nat) (H:bO) (F:aH) (rows:List Rw) (ln:Nat) (seen:List Tx) (r:List Tx) (j:Nat) (a:Option Addr) (i:Nat) (w:World) (p:St w B H F rows ln seen) (hT:Tg w j 9 r.length (.slice a r.length i) (r.map str)) (hrl:∀ x∈r,x.length≤70000) (hw:r.length=width (r.getD 0 [])) (s:gC F seen) (q:width (r.getD 0 [])=2→r.getD 0 []∉seen) (A:F.bN.length+F.aliases.length+F.a3.length+F.rules.length+rows.length < 70000) (hk:r.getD 0 []=gQ):dO Tryz.prog 61 (List.toArray [.pointer (some ⟨H.rb,0,none⟩),.slice a r.length i]) w (fO B H seen (bw H.eof F seen rows ln r) w) (fN B H (bw H.eof F seen rows ln r) w):=by
 have h:=oR B H F rows ln seen r j a i w p hT (by rw [hw,hk]; decide) hrl (by rw [hk]; decide) (s _ (by rw [hk]; decide) (q (by rw [hk]; decide)))
 rw [show bw H.eof F seen rows ln r=gL F rows ln r from by unfold bw; rw [hk]; rfl]
 exact h
theorem Hr (B:Nat) (H:bO) (F:aH) (rows:List Rw) (ln:Nat) (seen:List Tx) (r:List Tx) (j:Nat) (a:Option Addr) (i:Nat) (w:World) (p:St w B H F rows ln seen) (hT:Tg w j 9 r.length (.slice a r.length i) (r.map str)) (hrl:∀ x∈r,x.length≤70000) (hw:r.length=width (r.getD 0 [])) (s:gC F seen) (q:width (r.getD 0 [])=2→r.getD 0 []∉seen) (A:F.bN.length+F.aliases.length+F.a3.length+F.rules.length+rows.length < 70000) (hk:r.getD 0 []=g5):dO Tryz.prog 61 (List.toArray [.pointer (some ⟨H.rb,0,none⟩),.slice a r.length i]) w (fO B H seen (bw H.eof F seen rows ln r) w) (fN B H (bw H.eof F seen rows ln r) w):=by
 have h:=oR B H F rows ln seen r j a i w p hT (by rw [hw,hk]; decide) hrl (by rw [hk]; decide) (s _ (by rw [hk]; decide) (q (by rw [hk]; decide)))
 rw [show bw H.eof F seen rows ln r=gL F rows ln r from by unfold bw; rw [hk]; rfl]
 exact h
theorem Hx (B:Nat) (H:bO) (F:aH) (rows:List Rw) (ln:Nat) (seen:List Tx) (r:List Tx) (j:Nat) (a:Option Addr) (i:Nat) (w:World) (p:St w B H F rows ln seen) (hT:Tg w j 9 r.length (.slice a r.length i) (r.map str)) (hrl:∀ x∈r,x.length≤70000) (hw:r.length=width (r.getD 0 [])) (s:gC F seen) (q:width (r.getD 0 [])=2→r.getD 0 []∉seen) (A:F.bN.length+F.aliases.length+F.a3.length+F.rules.length+rows.length < 70000) (hk:r.getD 0 []=im):dO Tryz.prog 61 (List.toArray [.pointer (some ⟨H.rb,0,none⟩),.slice a r.length i]) w (fO B H seen (bw H.eof F seen rows ln r) w) (fN B H (bw H.eof F seen rows ln r) w):=by
 have h:=oR B H F rows ln seen r j a i w p hT (by rw [hw,hk]; decide) hrl (by rw [hk]; decide) (s _ (by rw [hk]; decide) (q (by rw [hk]; decide)))
 rw [show bw H.eof F seen rows ln r=gL F rows ln r from by unfold bw; rw [hk]; rfl]
 exact h
theorem Hv (B:Nat) (H:bO) (F:aH) (rows:List Rw) (ln:Nat) (seen:List Tx) (r:List Tx) (j:Nat) (a:Option Addr) (i:Nat) (w:World) (p:St w B H F rows ln seen) (hT:Tg w j 9 r.length (.slice a r.length i) (r.map str)) (hrl:∀ x∈r,x.length≤70000) (hw:r.length=width (r.getD 0 [])) (A:gC F seen) (s:width (r.getD 0 [])=2→r.getD 0 []∉seen) (q:F.bN.length+F.aliases.length+F.a3.length+F.rules.length+rows.length < 70000) (hk:r.getD 0 []=gv):dO Tryz.prog 62 (List.toArray [.pointer (some ⟨H.rb,0,none⟩),.slice a r.length i]) w (fO B H seen (bw H.eof F seen rows ln r) w) (fN B H (bw H.eof F seen rows ln r) w):=by
 have h:=Iq B H F rows ln seen r j a i w p hT (by rw [hw,hk]; decide) hrl
 rw [show bw H.eof F seen rows ln r=g7 F rows ln r from by unfold bw; rw [hk]; rfl]
 exact h
theorem Hz (B:Nat) (H:bO) (F:aH) (rows:List Rw) (ln:Nat) (seen:List Tx) (r:List Tx) (j:Nat) (a:Option Addr) (i:Nat) (w:World) (p:St w B H F rows ln seen) (hT:Tg w j 9 r.length (.slice a r.length i) (r.map str)) (hrl:∀ x∈r,x.length≤70000) (hw:r.length=width (r.getD 0 [])) (A:gC F seen) (s:width (r.getD 0 [])=2→r.getD 0 []∉seen) (q:F.bN.length+F.aliases.length+F.a3.length+F.rules.length+rows.length < 70000) (hk:r.getD 0 []=dE):dO Tryz.prog 63 (List.toArray [.pointer (some ⟨H.rb,0,none⟩),.slice a r.length i]) w (fO B H seen (bw H.eof F seen rows ln r) w) (fN B H (bw H.eof F seen rows ln r) w):=by
 have h:=J0 B H F rows ln seen r j a i w p hT (by rw [hw,hk]; decide) hrl
 rw [show bw H.eof F seen rows ln r=gJ H.eof F rows ln r from by unfold bw; rw [hk]; rfl]
 exact h
theorem Hq (B:Nat) (H:bO) (F:aH) (rows:List Rw) (ln:Nat) (seen:List Tx) (r:List Tx) (j:Nat) (a:Option Addr) (i:Nat) (w:World) (p:St w B H F rows ln seen) (hT:Tg w j 9 r.length (.slice a r.length i) (r.map str)) (hrl:∀ x∈r,x.length≤70000) (hw:r.length=width (r.getD 0 [])) (A:gC F seen) (s:width (r.getD 0 [])=2→r.getD 0 []∉seen) (q:F.bN.length+F.aliases.length+F.a3.length+F.rules.length+rows.length < 70000) (hk:r.getD 0 []=db):dO Tryz.prog 64 (List.toArray [.pointer (some ⟨H.rb,0,none⟩),.slice a r.length i]) w (fO B H seen (bw H.eof F seen rows ln r) w) (fN B H (bw H.eof F seen rows ln r) w):=by
 have h:=Cy B H F rows ln seen r j a i w p hT (by rw [hw,hk]; decide) hrl
 rw [show bw H.eof F seen rows ln r=gp H.eof F seen rows ln r from by unfold bw; rw [hk]; rfl]
 exact h
theorem Hy (B:Nat) (H:bO) (F:aH) (rows:List Rw) (ln:Nat) (seen:List Tx) (r:List Tx) (j:Nat) (a:Option Addr) (i:Nat) (w:World) (p:St w B H F rows ln seen) (hT:Tg w j 9 r.length (.slice a r.length i) (r.map str)) (hrl:∀ x∈r,x.length≤70000) (hw:r.length=width (r.getD 0 [])) (A:gC F seen) (s:width (r.getD 0 [])=2→r.getD 0 []∉seen) (q:F.bN.length+F.aliases.length+F.a3.length+F.rules.length+rows.length < 70000) (hk:r.getD 0 []=dQ):dO Tryz.prog 65 (List.toArray [.pointer (some ⟨H.rb,0,none⟩),.slice a r.length i]) w (fO B H seen (bw H.eof F seen rows ln r) w) (fN B H (bw H.eof F seen rows ln r) w):=by
 have h:=xE B H F rows ln seen r j a i w p hT (by rw [hw,hk]; decide) hrl q
 rw [show bw H.eof F seen rows ln r=eM H.eof F rows ln r from by unfold bw; rw [hk]; rfl]
 exact h
theorem HB (B:Nat) (H:bO) (F:aH) (rows:List Rw) (ln:Nat) (seen:List Tx) (r:List Tx) (j:Nat) (a:Option Addr) (i:Nat) (w:World) (p:St w B H F rows ln seen) (hT:Tg w j 9 r.length (.slice a r.length i) (r.map str)) (hrl:∀ x∈r,x.length≤70000) (hw:r.length=width (r.getD 0 [])) (A:gC F seen) (s:width (r.getD 0 [])=2→r.getD 0 []∉seen) (q:F.bN.length+F.aliases.length+F.a3.length+F.rules.length+rows.length < 70000) (hk:r.getD 0 []=bQ):dO Tryz.prog 65 (List.toArray [.pointer (some ⟨H.rb,0,none⟩),.slice a r.length i]) w (fO B H seen (bw H.eof F seen rows ln r) w) (fN B H (bw H.eof F seen rows ln r) w):=by
 have h:=xE B H F rows ln seen r j a i w p hT (by rw [hw,hk]; decide) hrl q
 rw [show bw H.eof F seen rows ln r=eM H.eof F rows ln r from by unfold bw; rw [hk]; rfl]
 exact h
theorem zE (B:Nat) (H:bO) (F:aH) (rows:List Rw) (ln:Nat) (seen:List Tx) (r:List Tx) (j:Nat) (a:Option Addr) (i:Nat) (w:World) (p:St w B H F rows ln seen) (hT:Tg w j 9 r.length (.slice a r.length i) (r.map str)) (hrl:∀ x∈r,x.length≤70000) (hw:r.length=width (r.getD 0 [])) (A:gC F seen) (s:width (r.getD 0 [])=2→r.getD 0 []∉seen) (q:F.bN.length+F.aliases.length+F.a3.length+F.rules.length+rows.length < 70000) {v:Value} (hv:e4 (r.getD 0 [])=some v):∃ f:Nat,v= .agg [.int .i64 (width (r.getD 0 []):Nat),.func (.func f) #[] #[]].toArray∧aU Tryz.prog f∧dO Tryz.prog f (List.toArray [.pointer (some ⟨H.rb,0,none⟩),.slice a r.length i]) w (fO B H seen (bw H.eof F seen rows ln r) w) (fN B H (bw H.eof F seen rows ln r) w):=by
 unfold e4 at hv
 by_cases hk:r.getD 0 []=bQ
 · rw [if_pos hk] at hv; cases hv; exact ⟨_,by rw [hk]; rfl,xp,HB B H F rows ln seen r j a i w p hT hrl hw A s q hk⟩
 · rw [if_neg hk] at hv; clear hk
   by_cases hk:r.getD 0 []=dQ
   · rw [if_pos hk] at hv; cases hv; exact ⟨_,by rw [hk]; rfl,xp,Hy B H F rows ln seen r j a i w p hT hrl hw A s q hk⟩
   · rw [if_neg hk] at hv; clear hk
     by_cases hk:r.getD 0 []=db
     · rw [if_pos hk] at hv; cases hv; exact ⟨_,by rw [hk]; rfl,D5,Hq B H F rows ln seen r j a i w p hT hrl hw A s q hk⟩
     · rw [if_neg hk] at hv; clear hk
       by_cases hk:r.getD 0 []=dE
       · rw [if_pos hk] at hv; cases hv; exact ⟨_,by rw [hk]; rfl,D4,Hz B H F rows ln seen r j a i w p hT hrl hw A s q hk⟩
       · rw [if_neg hk] at hv; clear hk
         by_cases hk:r.getD 0 []=gv
         · rw [if_pos hk] at hv; cases hv; exact ⟨_,by rw [hk]; rfl,D3,Hv B H F rows ln seen r j a i w p hT hrl hw A s q hk⟩
         · rw [if_neg hk] at hv; clear hk
           by_cases hk:r.getD 0 []=im
           · rw [if_pos hk] at hv; cases hv; exact ⟨_,by rw [hk]; rfl,nZ,Hx B H F rows ln seen r j a i w p hT hrl hw A s q hk⟩
           · rw [if_neg hk] at hv; clear hk
             by_cases hk:r.getD 0 []=g5
             · rw [if_pos hk] at hv; cases hv; exact ⟨_,by rw [hk]; rfl,nZ,Hr B H F rows ln seen r j a i w p hT hrl hw A s q hk⟩
             · rw [if_neg hk] at hv; clear hk
               by_cases hk:r.getD 0 []=gQ
               · rw [if_pos hk] at hv; cases hv; exact ⟨_,by rw [hk]; rfl,nZ,Hu B H F rows ln seen r j a i w p hT hrl hw A s q hk⟩
               · rw [if_neg hk] at hv; clear hk
                 by_cases hk:r.getD 0 []=gG
                 · rw [if_pos hk] at hv; cases hv; exact ⟨_,by rw [hk]; rfl,nZ,Ht B H F rows ln seen r j a i w p hT hrl hw A s q hk⟩
                 · rw [if_neg hk] at hv; clear hk
                   by_cases hk:r.getD 0 []=gw
                   · rw [if_pos hk] at hv; cases hv; exact ⟨_,by rw [hk]; rfl,nZ,Hw B H F rows ln seen r j a i w p hT hrl hw A s q hk⟩
                   · rw [if_neg hk] at hv; clear hk
                     by_cases hk:r.getD 0 []=fp
                     · rw [if_pos hk] at hv; cases hv; exact ⟨_,by rw [hk]; rfl,D2,HC B H F rows ln seen r j a i w p hT hrl hw A s q hk⟩
                     · rw [if_neg hk] at hv; clear hk
                       by_cases hk:r.getD 0 []=e5
                       · rw [if_pos hk] at hv; cases hv; exact ⟨_,by rw [hk]; rfl,D1,HA B H F rows ln seen r j a i w p hT hrl hw A s q hk⟩
                       · rw [if_neg hk] at hv; clear hk
                         by_cases hk:r.getD 0 []=eQ
                         · rw [if_pos hk] at hv; cases hv; exact ⟨_,by rw [hk]; rfl,D0,Hs B H F rows ln seen r j a i w p hT hrl hw A s q hk⟩
                         · rw [if_neg hk] at hv; clear hk
                           cases hv
theorem zC {s:Tx} (hv:e4 s=none):width s=0:=by
 unfold e4 at hv
 by_cases M:s=bQ
 · rw [if_pos M] at hv; cases hv
 · rw [if_neg M] at hv
   by_cases G:s=dQ
   · rw [if_pos G] at hv; cases hv
   · rw [if_neg G] at hv
     by_cases a:s=db
     · rw [if_pos a] at hv; cases hv
     · rw [if_neg a] at hv
       by_cases I:s=dE
       · rw [if_pos I] at hv; cases hv
       · rw [if_neg I] at hv
         by_cases A:s=gv
         · rw [if_pos A] at hv; cases hv
         · rw [if_neg A] at hv
           by_cases E:s=im
           · rw [if_pos E] at hv; cases hv
           · rw [if_neg E] at hv
             by_cases i:s=g5
             · rw [if_pos i] at hv; cases hv
             · rw [if_neg i] at hv
               by_cases q:s=gQ
               · rw [if_pos q] at hv; cases hv
               · rw [if_neg q] at hv
                 by_cases p:s=gG
                 · rw [if_pos p] at hv; cases hv
                 · rw [if_neg p] at hv
                   by_cases C:s=gw
                   · rw [if_pos C] at hv; cases hv
                   · rw [if_neg C] at hv
                     by_cases O:s=fp
                     · rw [if_pos O] at hv; cases hv
                     · rw [if_neg O] at hv
                       by_cases J:s=e5
                       · rw [if_pos J] at hv; cases hv
                       · rw [if_neg J] at hv
                         by_cases j:s=eQ
                         · rw [if_pos j] at hv; cases hv
                         · rw [if_neg j] at hv
                           unfold width cJ; simp [j,J,O,C,p,q,i,E,A,I,a,G,M]
theorem tz (s:Tx):e4 s=none∨∃ (wd f:Nat),e4 s=some (Value.agg #[.int .i64 (wd:Nat),.func (.func f) #[] #[]])∧width s=wd∧wd≠0:=by
 by_cases a:s=bQ
 · exact .inr ⟨4,65,by unfold e4; rw [if_pos a],by rw [a]; decide,by decide⟩
 by_cases i:s=dQ
 · exact .inr ⟨4,65,by unfold e4; rw [if_neg a,if_pos i],by rw [i]; decide,by decide⟩
 by_cases j:s=db
 · exact .inr ⟨2,64,by unfold e4; rw [if_neg a,if_neg i,if_pos j],by rw [j]; decide,by decide⟩
 by_cases p:s=dE
 · exact .inr ⟨2,63,by unfold e4; rw [if_neg a,if_neg i,if_neg j,if_pos p],by rw [p]; decide,by decide⟩
 by_cases q:s=gv
 · exact .inr ⟨2,62,by unfold e4; rw [if_neg a,if_neg i,if_neg j,if_neg p,if_pos q],by rw [q]; decide,by decide⟩
 by_cases A:s=im
 · exact .inr ⟨2,61,by unfold e4; rw [if_neg a,if_neg i,if_neg j,if_neg p,if_neg q,if_pos A],by rw [A]; decide,by decide⟩
 by_cases C:s=g5
 · exact .inr ⟨2,61,by unfold e4; rw [if_neg a,if_neg i,if_neg j,if_neg p,if_neg q,if_neg A,if_pos C],by rw [C]; decide,by decide⟩
 by_cases E:s=gQ
 · exact .inr ⟨2,61,by unfold e4; rw [if_neg a,if_neg i,if_neg j,if_neg p,if_neg q,if_neg A,if_neg C,if_pos E],by rw [E]; decide,by decide⟩
 by_cases G:s=gG
 · exact .inr ⟨2,61,by unfold e4; rw [if_neg a,if_neg i,if_neg j,if_neg p,if_neg q,if_neg A,if_neg C,if_neg E,if_pos G],by rw [G]; decide,by decide⟩
 by_cases I:s=gw
 · exact .inr ⟨2,61,by unfold e4; rw [if_neg a,if_neg i,if_neg j,if_neg p,if_neg q,if_neg A,if_neg C,if_neg E,if_neg G,if_pos I],by rw [I]; decide,by decide⟩
 by_cases J:s=fp
 · exact .inr ⟨2,60,by unfold e4; rw [if_neg a,if_neg i,if_neg j,if_neg p,if_neg q,if_neg A,if_neg C,if_neg E,if_neg G,if_neg I,if_pos J],by rw [J]; decide,by decide⟩
 by_cases M:s=e5
 · exact .inr ⟨2,59,by unfold e4; rw [if_neg a,if_neg i,if_neg j,if_neg p,if_neg q,if_neg A,if_neg C,if_neg E,if_neg G,if_neg I,if_neg J,if_pos M],by rw [M]; decide,by decide⟩
 by_cases O:s=eQ
 · exact .inr ⟨2,58,by unfold e4; rw [if_neg a,if_neg i,if_neg j,if_neg p,if_neg q,if_neg A,if_neg C,if_neg E,if_neg G,if_neg I,if_neg J,if_neg M,if_pos O],by rw [O]; decide,by decide⟩
 refine .inl ?_
 unfold e4
 rw [if_neg a,if_neg i,if_neg j,if_neg p,if_neg q,if_neg A,if_neg C,if_neg E,if_neg G,if_neg I,if_neg J,if_neg M,if_neg O]
end Go.Hb.vj
end
section
set_option maxRecDepth 20000
set_option maxHeartbeats 1000000
namespace Go.Hb.oY
open Go.Hb.du
open Go.Proofs
open Go.Hb.gn Go.Hb.fP
theorem G4 {α:Type} {l:List α} {i:Nat} {d:α} (h:i < l.length):l.getD i d∈l:=by
 rw [List.getD_eq_getElem?_getD,List.getElem?_eq_getElem h]; exact List.getElem_mem h
def gl (n:Nat) (ls:List (List UInt8)):List (Nat×List UInt8):=(ls.zipIdx n).map fun q=>(q.2,q.1)
theorem Jc (n:Nat) (l:List UInt8) (ls:List (List UInt8)):gl n (l::ls)=(n,l)::gl (n+1) ls:=by simp [gl,List.zipIdx_cons]
theorem Jd (n:Nat):gl n []= []:=rfl
theorem tT (n:Nat) (ls:List (List UInt8)):(gl n ls).map Prod.snd=ls:=by
 unfold gl; rw [List.map_map]; exact List.zipIdx_map_fst n ls
theorem Aj (n:Nat) (ls:List (List UInt8)):(gl n ls).length=ls.length:=by simp [gl]
def pY (x:Nat×List UInt8):Array Value:= #[.int .i64 x.1,str x.2]
theorem tS {ls:List (List UInt8)} {n:Nat} {pre:List (Nat×List UInt8)} {x:Nat×List UInt8} {rest:List (Nat×List UInt8)} (h:gl n ls=pre++x::rest):pre.length < ls.length∧x.1=n+pre.length∧ls=pre.map Prod.snd++x.2::rest.map Prod.snd:=by
 have h1:=congrArg List.length h
 rw [Aj,List.length_append,List.length_cons] at h1
 have h2:=congrArg (List.map Prod.snd) h
 rw [tT,List.map_append,List.map_cons] at h2
 refine ⟨by omega,?_,h2⟩
 have h3:=congrArg (fun l=>l[pre.length]?) h
 simp only [gl,List.getElem?_map,List.getElem?_zipIdx,List.getElem?_append_right (Nat.le_refl _),Nat.sub_self,List.getElem?_cons_zero] at h3
 cases h4:ls[pre.length]? with
 | none=>rw [h4] at h3; cases h3
 | some q=>rw [h4] at h3; cases h3; rfl
theorem yf (s:List UInt8) (w:World):
 aV Tryz.prog 56 (List.toArray [str s]) w (fun v w'=> ∃ b,v= .func (.func 88) #[] #[aI b]∧w.heap.size≤b∧w'.heap[b]? =some (.cells [str s].toArray 9 (0,0))∧Wk w w'):=by
 refine enter Tryz.func56 rfl Tryz.ntmps56 rfl ?_
 refine U (fun _ a=>(e (CT rfl rfl fun j w1 A q hB1=>aj (((a _ _ (U (fun _ i=> ?_))))))))
 exact p IW (aj (((i _ _ (rt (f1 rfl rfl (⟨j,rfl,by omega,hB1,q.md⟩)))))))
theorem FW (s:List UInt8) (b:Nat) (hs:s.length≤65536) (l:Nat) (a:List (Nat×List UInt8)→World→Prop) (w:World) (h0:a [] w) (ao:∀ pre W,a pre W→W.heap[b]? =some (.cells [str s].toArray 9 (0,0))) (bD:∀ pre W1 A,a pre W1→Wk W1 A→a pre A) (hy:∀ pre x rest W1,(gl 1 (a7 s))=pre++x::rest→a pre W1→YieldAt Fence.wide 0 Tryz.prog l (pY x) W1 fun e W'=>e= .returned (.bool true)∧a (pre++ [x]) W'):
 aV Tryz.prog 88 (List.toArray [.func (.yield l) #[] #[],aI b]) w (fun v w'=>a (gl 1 (a7 s)) w'):=by
 have hb0:=ao _ _ h0
 refine enter Tryz.func88 rfl Tryz.ntmps88 rfl ?_
 refine sq (fun _ I=>U (fun _ M=>(p (ld bz rfl ((aR hb0).trans rfl)) (p (bK u9 rfl rfl) (p (gt rfl rfl) (au ((M _ _ ?_))))))))
 refine cd rfl (fun h=>absurd h (by omega)) (fun hc10=> ?_)
 refine az (tn (I _ _ (U (fun _ O=>(p (ld bz rfl ((aR hb0).trans rfl)) (e (cl Ef (Lw s lY _ (by omega) (by decide)) rfl fun cC w12 ai=> ?_)))))))
 obtain ⟨rfl,hE12⟩:=ai
 refine aj (((O _ _ (U (fun _ V=>(aj (((V _ _ ?_)))))))))
 refine aA (lp (fun C j wI=> ∃ (r:List UInt8) (pre:List (Nat×List UInt8)),(r.length≤s.length)∧((gl 1 (a7 s))=pre++gl (pre.length+1) (dY [] r))∧(a pre wI)∧(pre.length≤s.length)∧(j 0= .func (.yield l) #[] #[])∧(j 3=str r)∧(j 4=ae (pre.length+1))∧(r.length=C)) _ ⟨gU s,[],(rq s),rfl,(bD _ _ _ h0 hE12),(Nat.zero_le _),rfl,rfl,(iv (by first | rfl | (rw [List.length_append]; rfl))),rfl⟩ ?_)
 rintro C j wI ⟨r,pre,aw,G,E,hpl,aq,ar,av,rfl⟩
 refine fx 0 aq (fx 3 ar (fx 4 av (sq (fun _ Y=>U (fun _ Z=>(ag (str r) (p (jZ rfl rfl) (au ((Z _ _ ?_))))))))))
 refine cd rfl (fun i=> ?_) (fun i=> ?_)
 have q:(gl 1 (a7 s))=pre++(pre.length+1,fX (jb 10 r))::gl (pre.length+2) (dY [] (jS 10 r)):=by rw [G,IF i,Jc]
 have hrl:=Fk (c:=10) i
 have hal:=Fg 10 r
 refine az (tn (Y _ _ (sq (fun _ aa=>aA (U (fun _ ab=>(ag (str r) (e (cl Eg (Fl r 10 _ (by omega)) rfl fun ax w19 al=> ?_)))))))))
 obtain ⟨rfl,ah⟩:=al
 refine p mv (p (xt rfl rfl) (p (xt rfl rfl) (p (xt rfl rfl) (p ak (p ak (p ak (nl ?_)))))))
 refine tn (ab _ _ (U (fun _ ac=>(p mv (aj (((ac _ _ (sq (fun _ J=> ?_))))))))))
 refine Kf ?_
 refine py rfl (aC (.func (.yield l) #[] #[]) rfl) ?_
 refine py rfl (aC (ae (pre.length+1)) rfl) ?_
 refine py rfl mv ?_
 refine ey rfl (cl Eh (Ly (jb 10 r) _ (by omega)) rfl fun ay aB am=> ?_)
 obtain ⟨rfl,hE27⟩:=am
 have hJ27:=bD _ _ _ E (Md.trans ah hE27)
 refine Ma rfl rfl (hy pre (pre.length+1,fX (jb 10 r)) _ _ q hJ27) (fun w28 an=> ?_)
 refine py rfl (no rfl) ?_
 refine I7 ?_
 refine tn (J _ _ (cf (rfl) (az (bn (tn (aa _ _ (rg rfl (ag (ae (pre.length+1)) (p (ba ((pre.length+2:Nat):Int) rfl rfl (aQ (by omega) (by omega))) ?_)))))))))
 exact aj (((⟨_,by omega,jS 10 r,pre++ [(pre.length+1,fX (jb 10 r))],(by omega),((by rw [q,List.append_assoc,List.length_append]; rfl)),an,((by have h1:=tS q; have h2:=jY s; rw [List.length_append,List.length_singleton]; omega)),rfl,rfl,(iv (by first | rfl | (rw [List.length_append]; rfl))),rfl⟩)))
 refine ext (te _ (te _ (be (f0 rfl ?_))))
 show a (gl 1 (a7 s)) wI
 have ap:r= []:=Decidable.of_not_not i
 rw [G,ap,tM,Jd,List.append_nil]
 exact E
theorem ye (s:List UInt8) (b:Nat) (hs:s.length≤65536):vo Tryz.prog 88 #[.pointer (some ⟨b,0,none⟩)] pY (gl 1 (a7 s)) (fun W=>W.heap[b]? =some (.cells [str s].toArray 9 (0,0))):=
 fun l a W h0 i bD hy=>Calls.mono (FW s b hs l a W h0 i bD hy) fun e w' ⟨v,he,j⟩=>⟨⟨v,he⟩,j⟩
theorem Bo (s:List UInt8) (w:World) (hs:s.length≤1048576):
 aV Tryz.prog 30 (List.toArray [str s]) w (fun v w'=>(∃ a,v= .tuple #[a,.int .i64 (if 65536 < s.length then 10 else 0)]∧(if 65536 < s.length then a= .slice none 0 0 else World.ownsRow w' w.heap.size 9 1 (a) ((a7 s)).length (((a7 s)).map str)))∧Wk w w'):=by
 refine yp [] Tryz.func30 rfl Tryz.ntmps30 rfl ?_
 refine e7 ?_
 refine fK ?_
 refine rg rfl (p ak (p ak (nl (fq ?_))))
 refine e7 ?_
 refine e7 ?_
 refine fK ?_
 refine rg rfl (p (aC (str s) rfl) (p (bK u9 rfl rfl) (p (gt rfl rfl) (nl (fq ?_)))))
 refine fK ?_
 refine cd rfl (fun am=> ?_) (fun am=> ?_)
 refine sq (fun aq aj=>rg rfl (p ak (p ak (nl (tn (aj _ _ (rt (uq ?_))))))))
 refine yv rfl rfl rfl ?_
 have hl:65536 < s.length:=by omega
 exact ⟨⟨.slice none 0 0,by show Value.tuple #[.slice none 0 0,.int .i64 10]=_; rw [if_pos hl],by rw [if_pos hl]⟩,Md.refl _ _⟩
 refine az (fq ?_)
 refine e7 ?_
 refine fK ?_
 refine rg rfl (e (fQ Mg fun aa w4 av al ac=>nl (fq ?_)))
 refine e7 ?_
 refine e7 ?_
 refine fK ?_
 refine rg rfl (p (aC (str s) rfl) (e (cl xo (yf s _) rfl fun v11 w11 hR11=> ?_)))
 obtain ⟨O,rfl,hb11,ab,ae⟩:=hR11
 have E:Wk w w11:=Md.trans al.md ae
 have hb4x:=ae.aA ac
 have hb11l:=(Array.getElem?_eq_some_iff.1 ab).1
 have ay:aa < w4.heap.size:=(Array.getElem?_eq_some_iff.1 ac).1
 have hl:s.length≤65536:=by omega
 refine nl (fq ?_)
 apply AS (pY) ((gl 1 (a7 s))) (fun W=>W.heap[O]? =some (.cells [str s].toArray 9 (0,0))) (fun pre q=> ∃ v,q.heap[aa]? =some (.cells [v].toArray 48 (0,0))∧World.ownsRow q w11.heap.size 9 1 v pre.length ((pre.map Prod.snd).map str)∧q.heap[O]? =some (.cells [str s].toArray 9 (0,0))∧w11.heap.size≤q.heap.size∧Wk w q) rfl xy (fun _=>rfl) (ye s O hl) (⟨.slice none 0 0,hb4x,World.ownsRow_nil _ _ _ _,ab,Nat.le_refl _,E⟩) (fun _ _ ⟨_,_,_,h,_⟩=>h) (fun pre A C F ⟨v,h1,h2,h3,h5,h4⟩ hm hF=>⟨v,q8 h1 hm hF,Bu h2 hm hF,q8 h3 hm hF,Nat.le_trans h5 hm.size,Bv h4 hm E.size hF⟩)
 intro l x q K G
 exact rg rfl (p (bJ (str x.2) rfl) (nl (tn (G))))
 intro l pre x rest q an V
 obtain ⟨v,M,j,Y,hsz,U⟩:=V
 obtain ⟨hpl,hx1,aB⟩:=tS an
 have hll:=jY s
 have hsR:=(Array.getElem?_eq_some_iff.1 Y).1
 refine aA (rg rfl (p (ld gi rfl ((aR M).trans rfl)) (p mv (e (ef dV rfl rfl fun ar w16 hb16 i ag=> ?_)))))
 have ah:Wk w w16:=Md.trans U i.md
 have hb16:=i.md.aA M
 refine e (ap dV (aG j i.md) rfl (Nat.le_trans hsz i.md.size) rfl (aw.cV ag) (rfl) (rfl) (by omega) (by omega) fun ao w17 Z I aD ax=> ?_)
 have hE17:=Wk.own ah (aG j i.md) I E.size
 have hbt17:=I.aA (i.md.aA Y) (fun h=>by have :=c7 (aG j i.md) h; omega)
 have hb17:=I.aA hb16 (fun h=>cw (aG j i.md) hb16 (by decide) h)
 refine e (cj xS rfl rfl (dU Z) hb17 (by simp) fun w6 J hB6=> ?_)
 have ai:Wk w w6:=Md.trans' hE17 J (fun k hk h=>by omega)
 exact nl (bn (⟨(gA.wk i.md).trans ((gA.md I (oF (aG j i.md))).trans (gA.md J (fun k hk=>⟨_,_,_,hk ▸ hb17⟩))),ao,hB6,bX (by rw [List.map_append,List.map_append,List.length_append]; exact Z) J (fun k hk h=>cw Z hb17 (by decide) (h ▸ hk)),J.aA hbt17 (fun h=>by omega),Nat.le_trans hsz (Nat.le_trans i.md.size (Nat.le_trans I.size J.size)),ai⟩))
 intro D q au V G
 obtain ⟨v,M,j,Y,hsz,U⟩:=V
 have hlt:=(Array.getElem?_eq_some_iff.1 G).1
 refine fq ?_
 refine e7 ?_
 refine fK ?_
 refine rg rfl (p (ld gi rfl ((aR M).trans rfl)) (p ak (p ak (nl (fq ?_)))))
 refine uB ?_
 refine yw rfl rfl rfl G ?_
 have hl:¬65536 < s.length:=by omega
 rw [tT,Aj] at j
 exact ⟨⟨v,by show Value.tuple #[v,.int .i64 0]=_; rw [if_neg hl],by rw [if_neg hl]; exact ga (bX j (nr _ _ _) (fun k hk h=>by obtain ⟨c,e,z,h1⟩:=oF j k hk; rw [h,G] at h1; cases h1)) E.size⟩,Md.trans' U (nr _ _ _) (fun k hk h=>by have :=E.size; omega)⟩
end Go.Hb.oY
end
section
set_option maxRecDepth 20000
set_option maxHeartbeats 1000000
namespace Go.Hb.o0
open Go.Hb.du
open Go.Proofs
open Go.Hb.gn Go.Hb.fP Go.Hb.oY
set_option maxHeartbeats 1000000 in
theorem AT (s:List UInt8) (w:World) (hs:s.length≤1048576):
 aV Tryz.prog 29 (List.toArray [str s]) w (fun v w'=>(∃ a,v= .tuple #[a,.int .i64 (if 65536 < s.length then 10 else 0)]∧(if 65536 < s.length then a= .slice none 0 0 else ∃ vs,World.ownsRow w' w.heap.size 105 2 a (bf s).length (gK vs)∧eK w' w.heap.size 9 vs (bf s)))∧Wk w w'):=by
 refine yp [] Tryz.func29 rfl Tryz.ntmps29 rfl ?_
 refine e7 ?_
 refine fK ?_
 refine rg rfl (p ak (p ak (nl (fq ?_))))
 refine e7 ?_
 refine e7 ?_
 refine fK ?_
 refine rg rfl (p (aC (str s) rfl) (p (bK u9 rfl rfl) (p (gt rfl rfl) (nl (fq ?_)))))
 refine fK ?_
 refine cd rfl (fun a0=> ?_) (fun a0=> ?_)
 refine sq (fun av Z=>rg rfl (p ak (p ak (nl (tn (Z _ _ (rt (uq ?_))))))))
 refine yv rfl rfl rfl ?_
 have hl:65536 < s.length:=by omega
 exact ⟨⟨.slice none 0 0,by show Value.tuple #[.slice none 0 0,.int .i64 10]=_; rw [if_pos hl],by rw [if_pos hl]⟩,Md.refl _ _⟩
 refine az (fq ?_)
 refine e7 ?_
 refine fK ?_
 refine rg rfl (e (fQ Mh fun ae w4 bx aX aB=>nl (fq ?_)))
 refine e7 ?_
 refine e7 ?_
 refine fK ?_
 refine rg rfl (p (aC (str s) rfl) (e (cl xo (yf s _) rfl fun bG w14 aY=> ?_)))
 obtain ⟨ai,rfl,hb14,ay,hE14⟩:=aY
 have U:Wk w w14:=Md.trans aX.md hE14
 have bD:ae < w4.heap.size:=(Array.getElem?_eq_some_iff.1 aB).1
 have hb4x:=hE14.aA aB
 have hb14l:=(Array.getElem?_eq_some_iff.1 ay).1
 have hl:s.length≤65536:=by omega
 refine nl (fq ?_)
 apply AS (pY) ((gl 1 (a7 s))) (fun W=>W.heap[ai]? =some (.cells [str s].toArray 9 (0,0))) (fun pre I=> ∃ v vs,I.heap[ae]? =some (.cells [v].toArray 74 (0,0))∧World.ownsRow I w14.heap.size 105 2 v (hU 1 (pre.map Prod.snd)).length (gK vs)∧eK I w14.heap.size 9 vs (hU 1 (pre.map Prod.snd))∧I.heap[ai]? =some (.cells [str s].toArray 9 (0,0))∧w14.heap.size≤I.heap.size∧Wk w I) rfl xy (fun _=>rfl) (ye s ai hl) (⟨.slice none 0 0,[],hb4x,World.ownsRow_nil _ _ _ _,eK.nil _ _ _,ay,Nat.le_refl _,U⟩) (fun _ _ ⟨_,_,_,_,_,h,_⟩=>h) (fun pre A C F ⟨v,vs,h1,h2,aI,h3,h5,h4⟩ hm hF=>⟨v,vs,q8 h1 hm hF,Bu h2 hm hF,aI.md hm (fun k hk cur z=>(hF k hk).2 cur _ z),q8 h3 hm hF,Nat.le_trans h5 hm.size,Bv h4 hm U.size hF⟩)
 intro l x I K V
 refine sq (fun av Z=>rg rfl (p (bJ (.int .i64 x.1) rfl) (nl (tn (Z _ _ (rg rfl (p (bJ (str x.2) rfl) (nl ?_))))))))
 exact tn (V)
 intro l pre x rest I bj am
 obtain ⟨v,vs,aq,ab,hrw,ao,hsz,al⟩:=am
 obtain ⟨hpl,hx1,bk⟩:=tS bj
 have hll:=jY s
 have hsR:=(Array.getElem?_eq_some_iff.1 ao).1
 have hxl:x.2.length≤s.length:=tJ (by rw [bk]; simp)
 have hfl:=od x.2 []
 have hrl:=uy (pre.map Prod.snd) 1
 rw [List.length_map] at hrl
 refine aA (sq (fun av Z=>rg rfl (p mv (e (cl DZ (Gn x.2 _ (by omega)) rfl fun bH w18 aZ=> ?_)))))
 obtain ⟨aa,aN⟩:=aZ
 obtain ⟨j,ag,rfl⟩:=b0 aa
 have hS18:=(aM aa).2
 have hc18:=(aM aa).1
 refine p ak (nl (tn (Z _ _ ?_)))
 refine c6 (fun ah wC=> ∃ (n cp:Nat),(n≤(bB [] x.2).length)∧(n≤cp)∧(jX (bB [] x.2)=(bB [] x.2).take n)∧(Wk w18 wC)∧(ah 4= .pointer (some ⟨ae,0,none⟩))∧(ah 5= .int .i64 x.1)∧(ah 7= .slice j n cp)) ?_ ?_
 refine sq (fun aF an=>rg rfl (p mv (p (bg dy rfl rfl) (p mv (nl (tn (an _ _ (aA ?_))))))))
 refine lp (fun ax O wI=> ∃ (i:Nat),(i≤(bB [] x.2).length)∧(∀ q,q < i→oL ((bB [] x.2).getD q [])=false)∧(Wk w18 wI)∧(O 4= .pointer (some ⟨ae,0,none⟩))∧(O 5= .int .i64 x.1)∧(O 7= .slice j (bB [] x.2).length ag)∧(O 19= .slice j (bB [] x.2).length ag)∧(O 20= .int .i64 (bB [] x.2).length)∧(O 21= .int .i64 i)∧((bB [] x.2).length - i=ax)) _ ⟨0,(by omega),((fun q a4=>by omega)),(Md.refl _ _),rfl,rfl,rfl,rfl,rfl,rfl,rfl⟩ ?_
 rintro ax O wI ⟨i,hi,au,Y,bc,bh,bi,a9,ba,bb,rfl⟩
 refine fx 4 bc (fx 5 bh (fx 7 bi (fx 19 a9 (fx 20 ba (fx 21 bb (sq (fun bm aP=>rg rfl (p (lt rfl rfl) (nl (tn (aP _ _ (sq (fun bq aQ=>cd rfl (fun a1=> ?_) (fun a1=> ?_))))))))))))))
 refine az (tn (aQ _ _ (sq (fun br aS=>aA (sq (fun bs aT=>rg rfl (p (aC (.int .i64 i) rfl) (p (aJ bC rfl rfl (by omega) (aw.ok (hS18.wk Y) (bo (by omega)))) ?_))))))))
 refine p (ld bz rfl (bp.get (i:=i) (hS18.wk Y) (by omega))) (p (bJ (.int .i64 i) rfl) (p ak (nl (tn (aT _ _ (sq (fun bt aU=>rg rfl (p mv ?_))))))))
 refine p (fz 0 u9 rfl rfl (List.length_pos_iff.2 (sW _ _ _ (G4 (by omega))).1)) (p (bd rfl rfl) (nl (tn (aU _ _ (cd rfl (fun a2=> ?_) (fun a2=> ?_))))))
 refine sq (fun bv aW=>rg rfl (p (aC (.slice j (bB [] x.2).length ag) rfl) (p (aC (.int .i64 i) rfl) (p (aC (.int .i64 i) rfl) (p (Ey bC rfl rfl rfl (by omega)) (p ak (nl ?_)))))))
 exact tn (aW _ _ (ext (kg (by decide) (te _ (te _ (be (tn (⟨i,i,hi,(Nat.le_refl _),(qy hi au (.inr (decide_eq_true (by omega)))),Y,rfl,rfl,rfl⟩))))))))
 refine az (bn (tn (aS _ _ (rg rfl (p (ad rfl rfl (bu (by omega))) (p mv (nl (tn ?_))))))))
 exact ⟨_,by omega,i+1,(by omega),((fun q a4=>by rcases Nat.lt_or_ge q i with h | h <;> first | exact au q h | (rw [show q=i by omega]; exact decide_eq_false (by omega)))),Y,rfl,rfl,rfl,rfl,rfl,rfl,rfl⟩
 exact ext (te _ (te _ (be (tn (⟨(bB [] x.2).length,ag,(Nat.le_refl _),hc18,((by have h:=qy hi au (.inl (by omega)); rwa [show i=(bB [] x.2).length from by omega] at h)),Y,rfl,rfl,rfl⟩)))))
 rintro ah wC ⟨n,cp,hn,hcp,aE,aj,a5,a6,a8⟩
 refine fx 4 a5 (fx 5 a6 (fx 7 a8 ?_))
 have E:Wk I wC:=Md.trans aN aj
 have hbC:=E.aA aq
 have hovC:=aG ab E
 have hrwC:=hrw.wk E
 have hbtC:=E.aA ao
 have aD:Wk w wC:=Md.trans al E
 refine sq (fun aF an=>rg rfl (p (aC (.slice j n cp) rfl) (p (bg dy rfl rfl) (p (gt rfl rfl) (nl (tn (an _ _ (cd rfl (fun a3=> ?_) (fun a3=> ?_)))))))))
 have ac:g6 x.2 (1 +pre.length)= [(x.1,(bB [] x.2).take n)]:=by unfold g6; rw [aE,if_neg (fun h=>by have h:=congrArg List.length h; rw [List.length_take,List.length_nil] at h; omega),← hx1]
 refine rg rfl (p (ld m3 rfl ((aR hbC).trans rfl)) (p (aC (.int .i64 x.1) rfl) (p (aC (.slice j n cp) rfl) (p (bV (ps:= [(0,.int .i64 x.1),(1,.slice j n cp)]) (L:= [.int .i64 x.1,.slice j n cp]) KY rfl (rfl)) (e (ic Bj rfl rfl rfl fun aH w41 hb41 G aK=> ?_))))))
 have aL:bE w41.heap aH [.int .i64 x.1,.slice j n cp]:=aK
 have hE41:Wk w w41:=Md.trans aD G.md
 have hov41:=aG hovC G.md
 have hb41:=G.md.aA hbC
 refine e (ap Bj (hov41) rfl (by have :=G.size; have :=E.size; omega) rfl (aw.cV aL) (rfl) (rfl) (by omega) (by omega) fun bl w42 ar J bF bA=> ?_)
 have hE42:=Wk.own hE41 hov41 J U.size
 have hbt42:=J.aA (G.md.aA hbtC) (fun h=>by have :=c7 hov41 h; omega)
 have hb42:=J.aA hb41 (fun h=>cw hov41 hb41 (by decide) h)
 have hrw42:=(hrwC.wk G.md).md J (eR hov41 (by decide))
 have ho42f:=bX (aG (aG aa aj) G.md) J (fun k hk=>jg (aG (aG aa aj) G.md) hov41 (by decide) hk)
 refine e (cj xU rfl rfl (dU ar) hb42 (by simp) fun w6 M hB6=> ?_)
 have aO:Wk w w6:=Md.trans' hE42 M (fun k hk h=>by omega)
 have hrw6:=(hrw42.md M (dM hb42 (by decide))).snoc (n:=x.1) (r:=(bB [] x.2).take n) (v:= .slice j n cp) (by rw [List.length_take,Nat.min_eq_left hn,List.map_take]; exact (Tg.fZ (ga (bX ho42f M (fun k hk h=>cw ho42f hb42 (by decide) (h ▸ hk))) hsz)).clip hcp)
 exact nl (bn (⟨(gA.wk E).trans ((gA.wk G.md).trans ((gA.md J (oF hov41)).trans (gA.md M (fun k hk=>⟨_,_,_,hk ▸ hb42⟩)))),bl,vs++ [(x.1,.slice j n cp)],hB6,(by rw [List.map_append,show [x].map Prod.snd= [x.2] from rfl,jD,List.length_map,ac]; rw [List.length_append,uD]; exact bX ar M (fun k hk h=>cw ar hb42 (by decide) (h ▸ hk))),(by rw [List.map_append,show [x].map Prod.snd= [x.2] from rfl,jD,List.length_map,ac]; exact hrw6),M.aA hbt42 (fun h=>by omega),Nat.le_trans hsz (Nat.le_trans E.size (Nat.le_trans G.md.size (Nat.le_trans J.size M.size))),aO⟩))
 have ac:g6 x.2 (1 +pre.length)= []:=by unfold g6; rw [aE,if_pos (by rw [show n=0 by omega]; rfl)]
 exact az (bn (⟨gA.wk E,v,vs,hbC,(by rw [List.map_append,show [x].map Prod.snd= [x.2] from rfl,jD,List.length_map,ac]; rw [List.append_nil]; exact hovC),(by rw [List.map_append,show [x].map Prod.snd= [x.2] from rfl,jD,List.length_map,ac]; rw [List.append_nil]; exact hrwC),hbtC,Nat.le_trans hsz E.size,aD⟩))
 intro D I bw am V
 obtain ⟨v,vs,aq,ab,hrw,ao,hsz,al⟩:=am
 have hlt:=(Array.getElem?_eq_some_iff.1 V).1
 refine fq ?_
 refine e7 ?_
 refine fK ?_
 refine rg rfl (p (ld m3 rfl ((aR aq).trans rfl)) (p ak (p ak (nl (fq ?_)))))
 refine uB ?_
 refine yw rfl rfl rfl V ?_
 have hl:¬65536 < s.length:=by omega
 rw [tT] at ab hrw
 exact ⟨⟨v,by show Value.tuple #[v,.int .i64 0]=_; rw [if_neg hl],by rw [if_neg hl]; exact ⟨vs,ga (bX ab (nr _ _ _) (fun k hk h=>by obtain ⟨c,e,z,h1⟩:=oF ab k hk; rw [h,V] at h1; cases h1)) U.size,(hrw.md (nr _ _ _) (fun k hk cur z=>by rw [hk,V]; simp)).mono U.size⟩⟩,Md.trans' al (nr _ _ _) (fun k hk h=>by have :=U.size; omega)⟩
end Go.Hb.o0
end
section
set_option maxRecDepth 20000
set_option maxHeartbeats 1000000
namespace Go.Hb.ma
open Go.Hb.du
open Go.Proofs
open Go.Hb.ff Go.Hb.fM Go.Hb.iS Go.Hb.fV Go.Hb.iw Go.Hb.jM Go.Hb.kI Go.Hb.kH Go.Hb.vg Go.Hb.hY Go.Hb.vj Go.Hb.o0 Go.Hb.oY Go.Hb.gn Go.Hb.fP
theorem lT {eof ln:Nat} {F F':aH} {hs:List Tx} {rows rows':List Rw} {row:List Tx} (a:bw eof F hs rows ln row= .ok (F',rows')):rows'.length≤rows.length:=by
 unfold bw at a
 repeat' split at a
 · unfold gL at a; split at a; cases a; cases a; exact Nat.le_refl _
 · unfold gR at a; repeat' split at a
   all_goals first | (cases a; done) | (cases a; exact Nat.le_refl _)
 · unfold jG at a; split at a; cases a; cases a; exact Nat.le_refl _
 · unfold jK at a; split at a; cases a; cases a; exact Nat.le_refl _
 · unfold g7 at a; repeat' split at a
   all_goals first | (cases a; done) | (cases a; exact Nat.le_refl _)
 · unfold gJ at a; repeat' split at a
   all_goals first | (cases a; done) | (cases a; exact (tu _ _ _ (by assumption)).1)
 · unfold gp at a; repeat' split at a
   all_goals first | (cases a; done) | (cases a; exact (tu _ _ _ (by assumption)).1)
 · unfold eM at a; repeat' split at a
   all_goals first | (cases a; done) | (cases a; exact (tu _ _ _ (by assumption)).1)
theorem ny {eof k:Nat} {F:aH} {hs:List Tx} :eG eof k F hs []= .ok F:=by cases k <;> simp [eG]
section
variable {eof k n:Nat} {F:aH} {hs:List Tx} {r:List Tx} {rest:List Rw} {T:Except (Nat×Nat) aH} (h:eG eof k F hs ((n,r)::rest)=T) (hk:rest.length+1≤k)
include h hk
theorem AK (h0:width (r.getD 0 [])=0):T= .error (n,110):=by
 obtain ⟨m,rfl⟩:∃ m,k=m+1:=⟨k - 1,by omega⟩
 rw [← h,eG,if_pos h0]
theorem AL (h0:width (r.getD 0 [])≠0) (h1:r.length≠width (r.getD 0 [])):T= .error (n,111):=by
 obtain ⟨m,rfl⟩:∃ m,k=m+1:=⟨k - 1,by omega⟩
 rw [← h,eG,if_neg h0,if_pos h1]
theorem uu (h0:width (r.getD 0 [])≠0) (h1:r.length=width (r.getD 0 [])) (h2:width (r.getD 0 [])≠4) (h3:r.getD 0 []∈hs):T= .error (n,112):=by
 obtain ⟨m,rfl⟩:∃ m,k=m+1:=⟨k - 1,by omega⟩
 have hw:width (r.getD 0 [])=2:=by
  unfold width at h0 h2 ⊢
  split
  · rfl
  · rename_i hn
    rw [if_neg hn] at h0 h2
    split at h2
    · exact absurd rfl h2
    · rename_i a; rw [if_neg a] at h0; exact absurd rfl h0
 rw [← h,eG,if_neg h0,if_neg (fun h4=>h4 h1),if_pos ⟨hw,h3⟩]
theorem uv {e:Nat×Nat} (h0:width (r.getD 0 [])≠0) (h1:r.length=width (r.getD 0 [])) (h2:width (r.getD 0 [])=2→r.getD 0 []∉hs) (h3:bw eof F hs rest n r= .error e):T= .error e:=by
 obtain ⟨m,rfl⟩:∃ m,k=m+1:=⟨k - 1,by omega⟩
 rw [← h,eG,if_neg h0,if_neg (fun h4=>h4 h1),if_neg (fun h4=>h2 h4.1 h4.2),h3]
theorem uw {F':aH} {rows':List Rw} (h0:width (r.getD 0 [])≠0) (h1:r.length=width (r.getD 0 [])) (h2:width (r.getD 0 [])=2→r.getD 0 []∉hs) (h3:bw eof F hs rest n r= .ok (F',rows')):eG eof (k - 1) F' (hs++ [r.getD 0 []]) rows'=T∧rows'.length≤k - 1:=by
 obtain ⟨m,rfl⟩:∃ m,k=m+1:=⟨k - 1,by omega⟩
 refine ⟨?_,by have :=lT h3; omega⟩
 rw [← h,eG,if_neg h0,if_neg (fun h4=>h4 h1),if_neg (fun h4=>h2 h4.1 h4.2),h3]; rfl
end
theorem vD {s:Tx} (h:65536 < s.length):eL s= .error (0,10):=by unfold eL; rw [if_pos h]
theorem kb {s:Tx} {e:Nat×Nat} (h:¬65536 < s.length) (h1:eG ((a7 s).length+1) (bf s).length fG [] (bf s)= .error e):eL s= .error e:=by unfold eL; rw [if_neg h,h1]
theorem rE {s:Tx} {F:aH} {q:eJ} (h:¬65536 < s.length) (h1:eG ((a7 s).length+1) (bf s).length fG [] (bf s)= .ok F) (h2:F.rules.find? (jP F)=some q):eL s= .error (q.line,118):=by unfold eL; rw [if_neg h,h1]; simp only; rw [h2]
theorem vF {s:Tx} {F:aH} (h:¬65536 < s.length) (h1:eG ((a7 s).length+1) (bf s).length fG [] (bf s)= .ok F) (h2:F.rules.find? (jP F)=none):eL s= .ok F:=by unfold eL; rw [if_neg h,h1]; simp only; rw [h2]
def lV (s:Tx):Value:=match e4 s with | some (.agg cs)=>cs.getD 1 .nilFunc | _=> .nilFunc
theorem HG (s:Tx):(e4 s).getD (.agg #[.int .i64 0,.nilFunc])= .agg [.int .i64 (width s:Nat),lV s].toArray∧(e4 s).isSome=decide (width s≠0):=by
 rcases tz s with h | ⟨wd,f,h,hw,h0⟩
 · have h0:=zC h
   unfold lV
   rw [h,h0]; exact ⟨rfl,rfl⟩
 · unfold lV
   rw [h,hw,decide_eq_true h0]; exact ⟨rfl,rfl⟩
theorem HM (s:Tx):[Value.int .i64 (width s:Nat),lV s].all Value.oneCell'=true :=by
 rcases tz s with h | ⟨wd,f,h,hw,h0⟩ <;> unfold lV <;> rw [h] <;> rfl
theorem zB {s:Tx} (h:width s≠0):∃ v,e4 s=some v∧∀ (wd:Nat) (f:Nat),v= .agg [.int .i64 (wd:Nat),.func (.func f) #[] #[]].toArray→lV s= .func (.func f) #[] #[]:=by
 rcases tz s with h1 | ⟨wd,f,h1,hw,h0⟩
 · exact absurd (zC h1) h
 · refine ⟨_,h1,fun i a he=> ?_⟩
   unfold lV
   rw [h1,he]; rfl
theorem A2 {f:Value→Option Value} {seen:List Tx} (k:Tx) (hf:∀ s:Tx,(f (str s)).getD (.int .i64 0)= .int .i64 (seen.count s:Nat)) (s:Tx):(bh f (str k) (.int .i64 (seen.count k+1:Nat)) (str s)).getD (.int .i64 0)= .int .i64 ((seen++ [k]).count s:Nat):=by
 rw [List.count_append]
 by_cases h:s=k
 · subst h; rw [oH]; simp
 · rw [nw (fun h2=>h (str_inj.1 h2)),hf s,List.count_singleton,show (k==s)=false from by simpa using fun h2=>h h2.symm]; rfl
theorem bS.A1 {w w':World} {B:Nat} {H:bO} {F:aH} {R:eH} {rows:List Rw} {ln:Nat} {seen seen':List Tx} {f:Value→Option Value} (h:bS w B H F R rows ln seen) (hm:Md (fun k=>k=H.ms) w w') (hf:bP w'.heap H.ms fJ f) (hd:∀ s:Tx,(f (str s)).getD (.int .i64 0)= .int .i64 (seen'.count s:Nat)):bS w' B H F R rows ln seen':=by
 obtain ⟨g,hg,hg2⟩:=h.tm
 obtain ⟨f0,i,_⟩:=h.sm
 have hT:TF w [1] (fun k=>k=H.ms):=TF.eq (dt i) (by decide)
 exact ⟨hm.gq hT h.cells (by decide),h.rws.md hm (fun k hk cur z a=>hT.no (cR a) (by decide) hk),h.rt.md hm (fun k hk cur z a=>hT.no (cR a) (by decide) hk),⟨f,hf,hd⟩,⟨g,hg.md hm (fun h2=>h.ne.1 h2.symm),hg2⟩,bG h.on hm hT (by decide),h.lo,h.ne⟩
theorem cD.ms {w w':World} {B:Nat} {H:bO} {F a:aH} {V:dW} {R:eH} {rows:List Rw} {ln:Nat} {seen:List Tx} (h:cD w B H.fb H.mc a V) (i:bS w B H F R rows ln seen) (hm:Md (fun k=>k=H.ms) w w'):cD w' B H.fb H.mc a V:=by
 obtain ⟨g,hg,_⟩:=i.sm
 exact h.md (L:= [1]) hm (TF.eq (dt hg) (by decide)) (by decide) (fun h=>i.ne.2.1 h.symm)
theorem dN.ms {w w':World} {B:Nat} {H:bO} {F:aH} {R:eH} {rows:List Rw} {ln:Nat} {seen:List Tx} (a:bS w B H F R rows ln seen) (hm:Md (fun k=>k=H.ms) w w'):dN B H w w':=hm.mono fun k _ hk=>⟨hk ▸ a.lo.2.1,.inl hk⟩
structure kK (w0 w:World) (H:bO) (b2 b3 bt:Nat):Prop where
 c2:w.heap[b2]? =some (.cells [.pointer none].toArray 22 (0,0))
 c3:w.heap[b3]? =some (.cells [.int .i64 0,.int .i64 0,.int .i64 0].toArray 25 (0,0))
 lo:w0.heap.size≤b2∧w0.heap.size≤b3∧b2≠b3
 tb:∃ f,bP w.heap bt fJ f∧∀ s,f (str s)=e4 s
 ne:bt≠H.ms∧bt≠H.mt∧bt≠H.mc
 wk:Wk w0 w
theorem kK.md {j w w':World} {H:bO} {a i bt:Nat} (h:kK j w H a i bt) (hm:Wk w w'):kK j w' H a i bt:=by
 obtain ⟨f,hf,p⟩:=h.tb
 exact ⟨Wk.aA hm h.c2,Wk.aA hm h.c3,h.lo,⟨f,hf.wk hm,p⟩,h.ne,h.wk.trans hm⟩
theorem kK.mw {a w w':World} {H:bO} {i j bt:Nat} {F:aH} {R:eH} {V:dW} {rows:List Rw} {ln:Nat} {seen:List Tx} (h:kK a w H i j bt) (hF:cD w a.heap.size H.fb H.mc F V) (p:bS w a.heap.size H F R rows ln seen) (hm:dN a.heap.size H w w'):kK a w' H i j bt:=by
 obtain ⟨f,hf,q⟩:=h.tb
 obtain ⟨f1,hf1,_⟩:=p.sm
 obtain ⟨f2,s,_⟩:=p.tm
 obtain ⟨f3,A,_⟩:=hF.cm
 have hn:=fun e (hl:([94,91,165,56,159,157,5]:List Nat).contains (e+2)=false)=>Wr.ne (B:=a.heap.size) (dt hf1) (dt s) (dt A) hl
 refine ⟨hm.aA h.c2 (fun hk=>hn 22 (by decide) _ hk _ _ h.c2),hm.aA h.c3 (fun hk=>hn 25 (by decide) _ hk _ _ h.c3),h.lo,⟨f,hf.md hm ?_,q⟩,h.ne,hm.wk h.wk (Nat.le_refl _)⟩
 rintro ⟨_,h1 | h1 | h1 | h1⟩
 · exact h.ne.1 h1
 · exact h.ne.2.1 h1
 · exact h.ne.2.2 h1
 · rw [dt hf] at h1; exact absurd h1 (by decide)
def Cb (w':World) (B:Nat) (F:aH) (v:Value):Prop := ∃ fb mc V,v= .tuple #[.pointer (some ⟨fb,0,none⟩),.agg [.int .i64 0,.int .i64 0,.int .i64 0].toArray]∧cD w' B fb mc F V∧(∃ seen,hZ F [] seen)∧Nx F
def Ca (e:Nat×Nat) (v:Value):Prop :=v= .tuple #[.pointer none,.agg [.int .i64 1,.int .i64 (e.1:Nat),.int .i64 (e.2:Nat)].toArray]
def lA (s:Tx) (w:World) (v:Value) (w':World):Prop :=(match eL s with | .ok F=>Cb w' w.heap.size F v | .error e=>Ca e v)∧Wk w w'
theorem lA.no {s:Tx} {w w':World} {l e:Nat} (h:eL s= .error (l,e)) (hm:Wk w w'):lA s w (.tuple #[.pointer none,.agg [.int .i64 1,.int .i64 (l:Nat),.int .i64 (e:Nat)].toArray]) w':=by
 unfold lA; rw [h]; exact ⟨rfl,hm⟩
theorem mJ {n:Nat} {G:List Nat} {fn:Func} {σ:Nat→Value} {s:Tx} {w W:World} {H:bO} {i j bt l e:Nat} (p:fn.results= #[.cell 2 22,.cell 3 25]) (hlt:3 < n) (q:σ 2= .pointer (some ⟨i,0,none⟩)) (A:σ 3= .pointer (some ⟨j,0,none⟩)) (a:kK w W H i j bt) (C:eL s= .error (l,e)):qb ⟨n,[{target:= .fn (.func 31) #[.pointer (some ⟨i,0,none⟩),.pointer (some ⟨j,0,none⟩)],args:= #[]}],G,none⟩ (lx Tryz.prog fn (lA s w)) (.panic (fI 25 l (e:Nat))) σ W:=
 JS p hlt q A ⟨_,a.c2⟩ ⟨_,rfl,a.c3⟩ a.lo.2.2 (fun w' hm=>lA.no C (a.wk.trans' hm (fun k hk h=>by rcases h with rfl | rfl; have :=a.lo.1; omega; have :=a.lo.2.1; omega)))
theorem FF {x:Nat} (h:x≠0):dx fG x=false :=by
 unfold dx fG dK
 simp [h]
theorem Wk.dr {w:World} :Wk w w.drew:=(Md.refl _ _).drew
theorem pd (s:Tx) (w:World) (hs:s.length≤1048576):
 aV Tryz.prog 10 (List.toArray [str s]) w (lA s w):=by
 refine F3 [2,3] Tryz.func10 rfl Tryz.ntmps10 rfl ?_
 refine e7 ?_
 refine fK ?_
 refine rg rfl (e (fQ Mc fun ai dK hb2 bK hB2=>e (fQ iR fun aj w3 dn aU cb=> ?_)))
 have hz2:=bK.size
 have hz3:=aU.size
 have ci:Wk w w3:=bK.md.trans aU.md
 have hp2:=Wk.aA aU.md hB2
 refine nl (fq ?_)
 refine e7 ?_
 refine fK ?_
 refine rg rfl (p (aC (str s) rfl) (e (cl xk (AT s _ hs) rfl fun dC w15 hR15=> ?_)))
 obtain ⟨⟨dg,rfl,hcs⟩,hE15⟩:=hR15
 have hE15x:=ci.trans hE15
 have hq2:=Wk.aA hE15 hp2
 have hq3:=Wk.aA hE15 cb
 have hz15:=hE15.size
 refine p mv (p (xt rfl rfl) (p (xt rfl rfl) (p ak (p ak (nl (fq ?_))))))
 refine e7 ?_
 refine e7 ?_
 refine fK ?_
 refine rg rfl (p mv (p (bH rfl rfl) (nl (fq ?_))))
 refine fK ?_
 refine cd rfl (fun a1=> ?_) (fun a1=> ?_)
 have bQ:65536 < s.length:=Classical.byContradiction fun h=>a1 (by rw [if_neg h])
 refine sq (fun bY aN=>rg rfl (p mv (p (bV (ps:= [(0,.int .i64 1),(2,.int .i64 (if 65536 < s.length then 10 else 0))]) (L:= [.int .i64 1,.int .i64 0,.int .i64 (if 65536 < s.length then 10 else 0)]) lf rfl (rfl)) (e (cj sy rfl rfl (v:= .pointer none) rfl hq2 (by decide) fun w5 bI cf=>e (gd fR rfl rfl rfl rfl (bI.aA hq3 (fun h=>by omega)) (by decide) fun w6 bJ hB6=>nl (tn (aN _ _ ?_))))))))
 refine rt (uq ?_)
 exact Gk (qQ rfl (jF (uz rfl rfl ((aR (bJ.aA cf (fun h=>by omega))).trans rfl))) (jF (c8 rfl rfl rfl (fun j dv=>by rw [Nat.zero_add,aR hB6,if_pos bQ]; simp)))) (lA.no (vD bQ) ((hE15x.trans' bI (fun k hk h=>by omega)).trans' bJ (fun k hk h=>by omega)))
 have aa:¬65536 < s.length:=fun h=>a1 (by rw [if_pos h]; decide)
 rw [if_neg aa] at hcs
 obtain ⟨vs,bW,cQ⟩:=hcs
 obtain ⟨aG,aI,rfl⟩:=b0 bW
 refine az (fq ?_)
 refine e7 ?_
 refine fK ?_
 refine rg rfl (p (aC (str s) rfl) (e (cl xl (Bo s _ hs) rfl fun dD bX cx=> ?_)))
 obtain ⟨⟨dh,rfl,bR⟩,hE24⟩:=cx
 rw [if_neg aa] at bR
 obtain ⟨dx,di,rfl⟩:=b0 bR
 have hE24x:=hE15x.trans hE24
 have hll:=jY s
 have hz24:=hE24.size
 refine p mv (p (xt rfl rfl) (p (xt rfl rfl) (p ak (p ak (nl (fq ?_))))))
 refine e7 ?_
 refine fK ?_
 refine rg rfl (e (oA fun I dL dl bL b9=> ?_))
 have hz27:=bL.size
 refine p (bV (ps:= [(1,.map (some I))]) (L:= [.int .i64 0,.string ⟨⟨[]⟩⟩,.string ⟨⟨[]⟩⟩,.int .u16 0,.int .u16 0,.int .u16 0,.int .u16 0,.int .u16 0,.int .i64 0,.slice none 0 0,.slice none 0 0,.slice none 0 0,.slice none 0 0,.map (some I)]) Lf rfl (rfl)) (e (nV rfl fun E w29 dm aT ca=> ?_))
 have hz29:=aT.size
 refine p mv (p mv (p (bg dy rfl rfl) (p (ba (((a7 s).length+1:Nat):Int) rfl rfl (aQ (by omega) (by omega))) (e (oA fun J dM dp aK cc=> ?_)))))
 have hz34:=aK.size
 refine e (oA fun M w35 dq ar ce=> ?_)
 have hz35:=ar.size
 refine p (bV (ps:= [(0,.pointer (some ⟨E,0,none⟩)),(1,.slice aG (bf s).length aI),(3,.int .i64 ((a7 s).length+1:Nat)),(4,.map (some J)),(5,.map (some M))]) (L:= [.pointer (some ⟨E,0,none⟩),.slice aG (bf s).length aI,.int .i64 0,.int .i64 ((a7 s).length+1:Nat),.map (some J),.map (some M),.slice none 0 0]) Lg rfl (rfl)) (e (nV rfl fun A w37 ds ao aM=> ?_))
 have hz37:=ao.size
 have hf37:=Wk.aA (aK.md.trans (ar.md.trans ao.md)) ca
 refine p ak (nl (fq ?_))
 refine e7 ?_
 refine fK ?_
 have Y:(fun w'=>Md (fun k=>k=E) w37 w') w37.drew:=(Md.refl _ _).drew
 refine bD (fun w'=>Md (fun k=>k=E) w37 w') rfl wide Y (hp 0 rfl (by kernel_rfl) (fun _ _=>mv) Y (hp 1 rfl (by kernel_rfl) (fun _ _=>nc rfl) Y (hp 2 rfl (by kernel_rfl) (fun _ _=>fa eO rfl) Y (hp 3 rfl (by kernel_rfl) (fun w' G=>ld eu rfl (Md.aE G ((aR aM).trans rfl) (fun h=>by omega))) Y (hp 4 rfl (by kernel_rfl) (fun _ _=>mv) Y (hp 5 rfl (by kernel_rfl) (fun _ _=>nc rfl) Y (hp 6 rfl (by kernel_rfl) (fun _ _=>fa eO rfl) Y ?_)))))))
 refine hp 7 rfl (by kernel_rfl) (fun w' G=>ld eu rfl (Md.aE G ((aR aM).trans rfl) (fun h=>by omega))) Y (hp 8 rfl (by kernel_rfl) (fun _ _=>nc rfl) Y (hp 9 rfl (by kernel_rfl) (fun _ _=>fa ez rfl) Y (hp 10 rfl (by kernel_rfl) (fun _ _=>fa ni rfl) Y (he 11 rfl (by kernel_rfl) (cj fW rfl rfl (v:= .int .i64 (1:Nat)) rfl hf37 (by show 0 +0 +0 < 14; decide) fun w8 cu cg=> ?_)))))
 have au:(fun w'=>Md (fun k=>k=E) w37 w') w8:=Y.trans' cu (fun _ _ h=>h)
 refine ⟨au,?_⟩
 refine hp 12 rfl (by kernel_rfl) (fun _ _=>nc rfl) au (hp 13 rfl (by kernel_rfl) (fun _ _=>fa ez rfl) au (hp 14 rfl (by kernel_rfl) (fun _ _=>fa s9 rfl) au (he 15 rfl (by kernel_rfl) (cj fW rfl rfl (v:= .int .i64 (3:Nat)) rfl cg (by show _ < 14; decide) fun w9 hM9 ch=> ?_))))
 have a0:(fun w'=>Md (fun k=>k=E) w37 w') w9:=au.trans' hM9 (fun _ _ h=>h)
 refine ⟨a0,?_⟩
 refine hn (by kernel_rfl) (fq ?_)
 refine e7 ?_
 refine FM Iv #[.pointer (some ⟨ai,0,none⟩),.pointer (some ⟨aj,0,none⟩)] rfl (by decide) ?_
 refine e7 ?_
 refine fK ?_
 refine rg rfl (e (cl DM (HK _) rfl fun dE w53 cy=> ?_))
 obtain ⟨bt,rfl,du,c0,bw⟩:=cy
 have ck:Wk bX w37:=bL.md.trans (aT.md.trans (aK.md.trans (ar.md.trans ao.md)))
 have an:Md (fun k=>k=E) w37 w53:=a0.trans' bw (fun _ _ h=>h.elim)
 have aq:Wk bX w53:=Md.trans' ck an (fun k hk h=>by omega)
 have hsz53:=an.size
 have hE53x:=hE24x.trans aq
 have cG:w53.heap[E]? =some (.cells (ko fG ⟨.slice none 0 0,.slice none 0 0,.slice none 0 0,.slice none 0 0,[],[]⟩ I).toArray 89 (0,0)):=Wk.aA bw ch
 have hcr:w53.heap[A]? =some (.cells (oK (⟨A,E,J,M,I,(a7 s).length+1⟩:bO) ⟨.slice aG (bf s).length aI,vs,.slice none 0 0⟩ 0).toArray 92 (0,0)):=an.aA aM (fun h=>by omega)
 have cL:bP w53.heap I (k4 .u16) (fun _=>none):=bP.md (bP.wk (bP.nil b9) (aT.md.trans (aK.md.trans (ar.md.trans ao.md)))) an (fun h=>by omega)
 have cM:bP w53.heap J fJ (fun _=>none):=bP.md (bP.wk (bP.nil cc) (ar.md.trans ao.md)) an (fun h=>by omega)
 have cN:bP w53.heap M (k4 .u16) (fun _=>none):=bP.md (bP.wk (bP.nil ce) ao.md) an (fun h=>by omega)
 have cn:cD w53 w.heap.size E I fG ⟨.slice none 0 0,.slice none 0 0,.slice none 0 0,.slice none 0 0,[],[]⟩:=⟨cG,World.ownsRow_nil _ _ _ _,World.ownsRow_nil _ _ _ _,cX.nil _ _ _,World.ownsRow_nil _ _ _ _,World.ownsRow_nil _ _ _ _,cX.nil _ _ _,⟨_,cL,fun _=>rfl⟩,⟨by omega,by omega⟩,rfl⟩
 have hR0:bS w53 w.heap.size (⟨A,E,J,M,I,(a7 s).length+1⟩:bO) fG ⟨.slice aG (bf s).length aI,vs,.slice none 0 0⟩ (bf s) 0 []:=⟨hcr,(((Tg.fZ bW).mono (by omega)).wk (hE24.trans aq)).Lq,(cQ.mono (by omega)).wk (hE24.trans aq),⟨_,cM,fun _=>rfl⟩,⟨_,cN,fun x bm=>by rw [FF bm]; rfl⟩,World.ownsRow_nil _ _ _ _,⟨by show w.heap.size≤A; omega,by show w.heap.size≤J; omega,by show w.heap.size≤M; omega⟩,⟨by show J≠M; omega,by show J≠I; omega,by show M≠I; omega⟩⟩
 have hrl:=qO s
 have cF:St w53 w.heap.size (⟨A,E,J,M,I,(a7 s).length+1⟩:bO) fG (bf s) 0 []:=⟨_,_,cn,hR0,⟨by show 0 +0 +0 +0 +(bf s).length≤70000; omega,by show 0 +(bf s).length≤70000; omega,fun q bi=>by have h:=qP bi; exact ⟨h.2.2.1,by omega,fun x bm=>by have :=(h.2.2.2.2 x bm).2; omega⟩,.inl rfl,fun l hl=>by cases hl⟩⟩
 have cZ:gC fG []:=fun k hk _=>by have h:∀ k∈cJ,fG.sp.getD (cJ.idxOf k) 0=0:=by decide
                                  exact h k hk
 have cO:Nx fG:=⟨fun l hl=>(by cases hl),fun l hl=>(by cases hl)⟩
 have hsz9:=a0.size
 have cP:kK w w53 (⟨A,E,J,M,I,(a7 s).length+1⟩:bO) ai aj bt:=⟨Wk.aA (hE24.trans aq) hq2,Wk.aA (hE24.trans aq) hq3,⟨by omega,by omega,by omega⟩,c0,⟨by show bt≠J; omega,by show bt≠M; omega,by show bt≠I; omega⟩,hE53x⟩
 refine p ak (nl (fq ?_))
 refine e7 ?_
 refine fK ?_
 refine aA (lp (fun bv aF wI=> ∃ (k:Nat) (F:aH) (rows:List Rw) (ln:Nat) (seen:List Tx),(eG (⟨A,E,J,M,I,(a7 s).length+1⟩:bO).eof k F seen rows=eG ((a7 s).length+1) (bf s).length fG [] (bf s))∧(rows.length≤k)∧(St wI w.heap.size (⟨A,E,J,M,I,(a7 s).length+1⟩:bO) F rows ln seen)∧(gC F seen)∧(Nx F)∧(kK w wI (⟨A,E,J,M,I,(a7 s).length+1⟩:bO) ai aj bt)∧(aF 2= .pointer (some ⟨ai,0,none⟩))∧(aF 3= .pointer (some ⟨aj,0,none⟩))∧(aF 8= .pointer (some ⟨A,0,none⟩))∧(aF 9= .map (some bt))∧(rows.length=bv)) _ ⟨(bf s).length,fG,bf s,0,[],rfl,(Nat.le_refl _),cF,cZ,cO,cP,rfl,rfl,rfl,rfl,rfl⟩ ?_)
 rintro bv aF wI ⟨k,F,rows,ln,seen,hX,hk,G,hsp,hnx,bh,cS,cT,cU,cV,rfl⟩
 refine fx 2 cS (fx 3 cT (fx 8 cU (fx 9 cV ?_)))
 obtain ⟨V,R,hF,ae,am⟩:=G
 obtain ⟨vr,vs,vn⟩:=R
 obtain ⟨bs,cr1,hv⟩:=ae.rws.slice
 obtain rfl :vr= .slice bs rows.length cr1:=hv
 refine sq (fun bY aN=>sq (fun c9 co=>rg rfl (p (aC (.pointer (some ⟨A,0,none⟩)) rfl) (p (nc rfl) (p (fa ot rfl) (p (ld m3 rfl ((aR ae.cells).trans rfl)) (p (bg rk rfl rfl) ?_)))))))
 refine p (gt rfl rfl) (nl (tn (co _ _ (cd rfl (fun a2=> ?_) (fun a2=> ?_)))))
 obtain ⟨⟨n,r⟩,rest,rfl⟩:∃ q rest,rows=q::rest:=by
  cases rows with
  | nil=>exact absurd a2 (by simp)
  | cons q rest=>exact ⟨q,rest,rfl⟩
 have hrow:=am.row (n,r) (List.mem_cons_self ..)
 have hbl:=am.len
 have hbs:=am.sl
 simp only [List.length_cons] at hbl hbs hk
 refine az (tn (aN _ _ (aA (sq (fun da cp=>rg rfl (p (aC (.pointer (some ⟨A,0,none⟩)) rfl) (e (cl xm (By w.heap.size (⟨A,E,J,M,I,(a7 s).length+1⟩:bO) F ⟨.slice bs (rest.length+1) cr1,vs,vn⟩ n r rest ln seen wI ae) rfl fun dF w61 cA=> ?_))))))))
 obtain ⟨⟨R1,hR1⟩,hT1,hM1⟩:=cA
 obtain ⟨br,bu,rfl⟩:=hT1.slice
 have hF1:=hF.rb ae hM1
 have hob1:=bh.mw hF ae (dN.rb ae hM1)
 have dw:0 < r.length:=List.length_pos_iff.2 hrow.1
 have hB1:=hZ.kV am
 have hval:=HG (r.getD 0 [])
 obtain ⟨dk,cK,bT⟩:=hob1.tb
 refine p ak (nl (tn (cp _ _ (sq (fun db cq=>rg rfl (p (aC (.map (some bt)) rfl) (p mv (p (aJ bC rfl rfl (by omega) (aw.ok (hT1.bF.2) (bo (by omega)))) ?_))))))))
 refine p (ld bz rfl (bp.get (i:=0) hT1.bF.2 (by omega))) (p (z3 iQ Mq fA (cK) rfl rfl (⟨_,rfl⟩) ((congrArg (fun o=>Option.getD o _) (bT (r.getD 0 []))).trans hval.1) ((congrArg Option.isSome (bT (r.getD 0 []))).trans hval.2)) (p mv (p (xt rfl rfl) (p (xt rfl rfl) (e (fQ Mk fun b3 w11 hb11 cv b6=>e (gd FA rfl rfl rfl (HM _) b6 (by decide) fun w12 ct hB12=> ?_)))))))
 have hE12:Wk w61 w12:=cv.md.trans' ct (fun k hk h=>by omega)
 have hb12:w12.heap[b3]? =some (.cells [.int .i64 (width (r.getD 0 []):Nat),lV (r.getD 0 [])].toArray 99 (0,0)):=hB12
 have hF2:=hF1.wk hE12
 have hR2:=hR1.wk hE12
 have hT2:=hT1.wk hE12
 have hob2:=hob1.md hE12
 refine p ak (nl (tn (cq _ _ (sq (fun dc cr=>rg rfl (p (aC (.pointer (some ⟨A,0,none⟩)) rfl) (p mv ?_)))))))
 refine eP rfl (cz eW (e6 A n _ 110 w12 hR2.bM (by decide)) rfl fun dI c7 cB=> ?_) (fun c w' U ap hF=>by
  obtain ⟨rfl,hb,rfl⟩:=U
  exact mJ rfl (by decide) ((hF 2 (.head _)).trans rfl) ((hF 3 (.tail _ (.head _))).trans rfl) hob2 (kb aa (AK hX hk (Classical.not_not.1 (of_decide_eq_false hb)))))
 obtain ⟨rfl,Z,rfl⟩:=cB
 have Z:width (r.getD 0 [])≠0:=of_decide_eq_true Z
 refine nl (tn (cr _ _ (sq (fun dd cs=>rg rfl (p (aC (.pointer (some ⟨A,0,none⟩)) rfl) (p mv (p (bg dy rfl rfl) (p (fa y4 rfl) ?_))))))))
 refine p (ld bU rfl ((aR hb12).trans rfl)) (p (bd rfl rfl) ?_)
 refine eP rfl (cz eW (e6 A n _ 111 c7 hR2.bM (by decide)) rfl fun dJ w79 cC=> ?_) (fun c w' U ap hF=>by
  obtain ⟨rfl,hb,rfl⟩:=U
  exact mJ rfl (by decide) ((hF 2 (.head _)).trans rfl) ((hF 3 (.tail _ (.head _))).trans rfl) hob2 (kb aa (AL hX hk Z (fun h=>of_decide_eq_false hb (by rw [h])))))
 obtain ⟨rfl,ab,rfl⟩:=cC
 have ab:r.length=width (r.getD 0 []):=by have :=of_decide_eq_true ab; omega
 refine nl (tn (cs _ _ (sq (fun de bA=> ?_))))
 obtain ⟨dA,cW,cY⟩:=hR2.sm
 have hS14:(fun w'=>Wk w79 w') w79.drew:=(Md.refl _ _).drew
 refine bD (fun w'=>Wk w79 w') rfl wide hS14 (hp 0 rfl (by kernel_rfl) (fun _ _=>aC (.pointer (some ⟨A,0,none⟩)) rfl) hS14 (hp 1 rfl (by kernel_rfl) (fun _ _=>fa y4 rfl) hS14 (hp 2 rfl (by kernel_rfl) (fun w' G=>ld bU rfl (Wk.aE G ((aR hb12).trans rfl))) hS14 (hp 3 rfl (by kernel_rfl) (fun _ _=>bd rfl rfl) hS14 (hp 4 rfl (by kernel_rfl) (fun _ _=>mv) hS14 (iN (t:=84) rfl (fun ay=> ?_) (fun ay=> ?_)))))))
 refine a9 5 rfl (by kernel_rfl) rfl rfl rfl rfl hS14 ?_
 refine a9 6 rfl (by kernel_rfl) rfl rfl rfl rfl hS14 ?_
 refine a9 7 rfl (by kernel_rfl) rfl rfl rfl rfl hS14 ?_
 refine a9 8 rfl (by kernel_rfl) rfl rfl rfl rfl hS14 ?_
 refine a9 9 rfl (by kernel_rfl) rfl rfl rfl rfl hS14 ?_
 refine a9 10 rfl (by kernel_rfl) rfl rfl rfl rfl hS14 ?_
 refine a9 11 rfl (by kernel_rfl) rfl rfl rfl rfl hS14 ?_
 refine a9 12 rfl (by kernel_rfl) rfl rfl rfl rfl hS14 ?_
 refine a9 13 rfl (by kernel_rfl) rfl rfl rfl rfl hS14 ?_
 refine hp 14 rfl (by kernel_rfl) (fun _ _=>bc rfl) hS14 ?_
 refine nm 15 rfl (by kernel_rfl) rfl (cz eW (e6 A n _ 112 w79.drew (Wk.aE hS14 hR2.bM) (by decide)) rfl fun c6 w95 aY=> ?_) (fun c w' U ap hF=>by
  obtain ⟨rfl,hb,rfl⟩:=U
  first
   | exact absurd hb (by decide)
   | exact mJ rfl (by decide) ((hF 2 (.head _)).trans rfl) ((hF 3 (.tail _ (.head _))).trans rfl) (hob2.md Wk.dr) (kb aa (uu hX hk Z ab (fun h=>ay (by rw [h]; rfl)) (Classical.not_not.1 fun h=>of_decide_eq_false hb (by rw [List.count_eq_zero.2 h]; rfl)))))
 obtain ⟨rfl,bq,aB⟩:=aY
 have ag:width (r.getD 0 [])=2→r.getD 0 []∉seen:=by
  first
   | exact fun h=>absurd ay (by omega)
   | exact fun _=>List.count_eq_zero.1 (by have :=of_decide_eq_true bq; omega)
 have hE95:Wk w79 w95:=by rw [aB]; exact Wk.dr
 obtain ⟨c1,bb,a5⟩:=zB Z
 obtain ⟨b4,bl,a3,a4⟩:=zE w.heap.size (⟨A,E,J,M,I,(a7 s).length+1⟩:bO) F rest n seen r w.heap.size br bu w95 ⟨_,_,hF2.wk hE95,hR2.wk hE95,hB1⟩ (hT2.wk hE95) hrow.2.2 ab hsp ag (by omega) bb
 have hfv:=a5 _ _ bl
 have aZ:(fun w'=>Wk w79 w') w95:=by rw [aB]; exact hS14
 refine ⟨aZ,?_⟩
 refine hn (by kernel_rfl) (tn (bA _ _ (sq (fun bZ aO=>rg rfl (p (fa y5 rfl) (p (ld vL rfl ((aR (Wk.aA hE95 hb12)).trans (congrArg some hfv))) (p (aC (.pointer (some ⟨A,0,none⟩)) rfl) (p mv ?_))))))))
 refine eP rfl (BZ a3 rfl a4 rfl fun c5 ah aX=> ?_) (fun c w' U ap hF=>by
  obtain ⟨l,e,O,rfl,hMw3⟩:=U
  exact mJ rfl (by decide) ((hF 2 (.head _)).trans rfl) ((hF 3 (.tail _ (.head _))).trans rfl) ((hob2.md hE95).mw (hF2.wk hE95) (hR2.wk hE95) hMw3) (kb aa (uv hX hk Z ab ag O)))
 obtain ⟨rfl,F',rows',ln',O,⟨b1,aL,hF3,hR3,ac⟩,hMw3⟩:=aX
 have hob3:=(hob2.md hE95).mw (hF2.wk hE95) (hR2.wk hE95) hMw3
 obtain ⟨q1,hq1,_⟩:=hR2.sm
 obtain ⟨q2,bj,_⟩:=hR2.tm
 obtain ⟨c4,bk,_⟩:=hF2.cm
 have hT3:=(hT2.wk hE95).md hMw3 (Wr.ne (dt (hq1.wk hE95)) (dt (bj.wk hE95)) (dt (bk.wk hE95)) (by decide))
 obtain ⟨b5,av,ax⟩:=hR3.sm
 have hcl:=List.count_le_length (a:=r.getD 0 []) (l:=seen)
 have hXn:=uw hX hk Z ab ag O
 refine nl (tn (aO _ _ ?_))
 have C:(fun w'=>Wk ah w') ah.drew:=(Md.refl _ _).drew
 refine dH (fun w'=>Wk ah w') 9 rfl wide C (lq 0 rfl (by kernel_rfl) (fun _ _=>aC (.pointer (some ⟨A,0,none⟩)) rfl) C (lq 1 rfl (by kernel_rfl) (fun _ _=>nc rfl) C (lq 2 rfl (by kernel_rfl) (fun _ _=>fa nk rfl) C (lq 3 rfl (by kernel_rfl) (fun w' G=>ld m4 rfl (Wk.aE G ((aR hR3.cells).trans rfl))) C (lq 4 rfl (by kernel_rfl) (fun _ _=>mv) C (lq 5 rfl (by kernel_rfl) (fun _ _=>aJ bC rfl rfl (by omega) (aw.ok (aw.wk hT3.bF.2 C) (bo (by omega)))) C (lq 6 rfl (by kernel_rfl) (fun w' G=>ld bz rfl (Wk.aE G (bp.get (i:=0) hT3.bF.2 (by omega)))) C ?_)))))))
 refine lq 7 rfl (by kernel_rfl) (fun w' G=>kr l8 kG fA (bP.md (av) G id) rfl rfl (⟨_,rfl⟩) (ax (r.getD 0 []))) C (lq 8 rfl (by kernel_rfl) (fun _ _=>ba ((seen.count (r.getD 0 [])+1:Nat):Int) rfl rfl (aQ (by omega) (by omega))) C (cE 9 rfl (by kernel_rfl) (by kernel_rfl) (nH l8 fA (av.wk C) rfl rfl rfl (⟨_,rfl⟩) fun aD aP aW=> ?_)))
 have hM16:=e8 aP
 have hR16:bS aD w.heap.size (⟨A,E,J,M,I,(a7 s).length+1⟩:bO) F' aL rows' ln' (seen++ [r.getD 0 []]):=bS.A1 hR3 hM16 aW (A2 _ ax)
 have hF16:=cD.ms hF3 hR3 hM16
 have hob16:=hob3.mw hF3 hR3 (dN.ms hR3 hM16)
 have hrw:=lT O
 have C:St aD w.heap.size (⟨A,E,J,M,I,(a7 s).length+1⟩:bO) F' rows' ln' (seen++ [r.getD 0 []]):=⟨_,_,hF16,hR16,⟨ac.len,by rw [List.length_append,List.length_singleton]; omega,ac.row,ac.kd,ac.al⟩⟩
 have hsp16:=zD hsp O
 have hnx16:=qu hnx O
 refine dG (by kernel_rfl) ?_
 exact bn (tn (⟨_,by simp only [List.length_cons]; have :=lT O; omega,k - 1,F',rows',ln',seen++ [r.getD 0 []],hXn.1,hXn.2,C,hsp16,hnx16,hob16,rfl,rfl,rfl,rfl,rfl⟩))
 refine a8 5 rfl (by kernel_rfl) rfl rfl rfl (fun _ _=>aC (.pointer (some ⟨A,0,none⟩)) rfl) hS14 (a8 6 rfl (by kernel_rfl) rfl rfl rfl (fun _ _=>nc rfl) hS14 (a8 7 rfl (by kernel_rfl) rfl rfl rfl (fun _ _=>fa nk rfl) hS14 (a8 8 rfl (by kernel_rfl) rfl rfl rfl (fun w' G=>ld m4 rfl (Wk.aE G ((aR hR2.cells).trans rfl))) hS14 (a8 9 rfl (by kernel_rfl) rfl rfl rfl (fun _ _=>mv) hS14 (a8 10 rfl (by kernel_rfl) rfl rfl rfl (fun _ _=>aJ bC rfl rfl (by omega) (aw.ok (aw.wk hT2.bF.2 hS14) (bo (by omega)))) hS14 (a8 11 rfl (by kernel_rfl) rfl rfl rfl (fun w' G=>ld bz rfl (Wk.aE G (bp.get (i:=0) hT2.bF.2 (by omega)))) hS14 (a8 12 rfl (by kernel_rfl) rfl rfl rfl (fun w' G=>kr l8 kG fA (bP.md (cW) G id) rfl rfl (⟨_,rfl⟩) (cY (r.getD 0 []))) hS14 ?_)))))))
 refine a8 13 rfl (by kernel_rfl) rfl rfl rfl (fun _ _=>bd rfl rfl) hS14 (hp 14 rfl (by kernel_rfl) (fun _ _=>a6 rfl) hS14 ?_)
 refine nm 15 rfl (by kernel_rfl) rfl (cz eW (e6 A n _ 112 w79.drew (Wk.aE hS14 hR2.bM) (by decide)) rfl fun c6 w95 aY=> ?_) (fun c w' U ap hF=>by
  obtain ⟨rfl,hb,rfl⟩:=U
  first
   | exact absurd hb (by decide)
   | exact mJ rfl (by decide) ((hF 2 (.head _)).trans rfl) ((hF 3 (.tail _ (.head _))).trans rfl) (hob2.md Wk.dr) (kb aa (uu hX hk Z ab (fun h=>ay (by rw [h]; rfl)) (Classical.not_not.1 fun h=>of_decide_eq_false hb (by rw [List.count_eq_zero.2 h]; rfl)))))
 obtain ⟨rfl,bq,aB⟩:=aY
 have ag:width (r.getD 0 [])=2→r.getD 0 []∉seen:=by
  first
   | exact fun h=>absurd ay (by omega)
   | exact fun _=>List.count_eq_zero.1 (by have :=of_decide_eq_true bq; omega)
 have hE95:Wk w79 w95:=by rw [aB]; exact Wk.dr
 obtain ⟨c1,bb,a5⟩:=zB Z
 obtain ⟨b4,bl,a3,a4⟩:=zE w.heap.size (⟨A,E,J,M,I,(a7 s).length+1⟩:bO) F rest n seen r w.heap.size br bu w95 ⟨_,_,hF2.wk hE95,hR2.wk hE95,hB1⟩ (hT2.wk hE95) hrow.2.2 ab hsp ag (by omega) bb
 have hfv:=a5 _ _ bl
 have aZ:(fun w'=>Wk w79 w') w95:=by rw [aB]; exact hS14
 refine ⟨aZ,?_⟩
 refine hn (by kernel_rfl) (tn (bA _ _ (sq (fun bZ aO=>rg rfl (p (fa y5 rfl) (p (ld vL rfl ((aR (Wk.aA hE95 hb12)).trans (congrArg some hfv))) (p (aC (.pointer (some ⟨A,0,none⟩)) rfl) (p mv ?_))))))))
 refine eP rfl (BZ a3 rfl a4 rfl fun c5 ah aX=> ?_) (fun c w' U ap hF=>by
  obtain ⟨l,e,O,rfl,hMw3⟩:=U
  exact mJ rfl (by decide) ((hF 2 (.head _)).trans rfl) ((hF 3 (.tail _ (.head _))).trans rfl) ((hob2.md hE95).mw (hF2.wk hE95) (hR2.wk hE95) hMw3) (kb aa (uv hX hk Z ab ag O)))
 obtain ⟨rfl,F',rows',ln',O,⟨b1,aL,hF3,hR3,ac⟩,hMw3⟩:=aX
 have hob3:=(hob2.md hE95).mw (hF2.wk hE95) (hR2.wk hE95) hMw3
 obtain ⟨q1,hq1,_⟩:=hR2.sm
 obtain ⟨q2,bj,_⟩:=hR2.tm
 obtain ⟨c4,bk,_⟩:=hF2.cm
 have hT3:=(hT2.wk hE95).md hMw3 (Wr.ne (dt (hq1.wk hE95)) (dt (bj.wk hE95)) (dt (bk.wk hE95)) (by decide))
 obtain ⟨b5,av,ax⟩:=hR3.sm
 have hcl:=List.count_le_length (a:=r.getD 0 []) (l:=seen)
 have hXn:=uw hX hk Z ab ag O
 refine nl (tn (aO _ _ ?_))
 have C:(fun w'=>Wk ah w') ah.drew:=(Md.refl _ _).drew
 refine dH (fun w'=>Wk ah w') 9 rfl wide C (lq 0 rfl (by kernel_rfl) (fun _ _=>aC (.pointer (some ⟨A,0,none⟩)) rfl) C (lq 1 rfl (by kernel_rfl) (fun _ _=>nc rfl) C (lq 2 rfl (by kernel_rfl) (fun _ _=>fa nk rfl) C (lq 3 rfl (by kernel_rfl) (fun w' G=>ld m4 rfl (Wk.aE G ((aR hR3.cells).trans rfl))) C (lq 4 rfl (by kernel_rfl) (fun _ _=>mv) C (lq 5 rfl (by kernel_rfl) (fun _ _=>aJ bC rfl rfl (by omega) (aw.ok (aw.wk hT3.bF.2 C) (bo (by omega)))) C (lq 6 rfl (by kernel_rfl) (fun w' G=>ld bz rfl (Wk.aE G (bp.get (i:=0) hT3.bF.2 (by omega)))) C ?_)))))))
 refine lq 7 rfl (by kernel_rfl) (fun w' G=>kr l8 kG fA (bP.md (av) G id) rfl rfl (⟨_,rfl⟩) (ax (r.getD 0 []))) C (lq 8 rfl (by kernel_rfl) (fun _ _=>ba ((seen.count (r.getD 0 [])+1:Nat):Int) rfl rfl (aQ (by omega) (by omega))) C (cE 9 rfl (by kernel_rfl) (by kernel_rfl) (nH l8 fA (av.wk C) rfl rfl rfl (⟨_,rfl⟩) fun aD aP aW=> ?_)))
 have hM16:=e8 aP
 have hR16:bS aD w.heap.size (⟨A,E,J,M,I,(a7 s).length+1⟩:bO) F' aL rows' ln' (seen++ [r.getD 0 []]):=bS.A1 hR3 hM16 aW (A2 _ ax)
 have hF16:=cD.ms hF3 hR3 hM16
 have hob16:=hob3.mw hF3 hR3 (dN.ms hR3 hM16)
 have hrw:=lT O
 have C:St aD w.heap.size (⟨A,E,J,M,I,(a7 s).length+1⟩:bO) F' rows' ln' (seen++ [r.getD 0 []]):=⟨_,_,hF16,hR16,⟨ac.len,by rw [List.length_append,List.length_singleton]; omega,ac.row,ac.kd,ac.al⟩⟩
 have hsp16:=zD hsp O
 have hnx16:=qu hnx O
 refine dG (by kernel_rfl) ?_
 exact bn (tn (⟨_,by simp only [List.length_cons]; have :=lT O; omega,k - 1,F',rows',ln',seen++ [r.getD 0 []],hXn.1,hXn.2,C,hsp16,hnx16,hob16,rfl,rfl,rfl,rfl,rfl⟩))
 obtain rfl :rows= []:=by
  cases rows with
  | nil=>rfl
  | cons q rest=>exact absurd (by simp only [List.length_cons]; omega) a2
 rw [ny] at hX
 refine ext (te _ (te _ (be (fq ?_))))
 refine e7 ?_
 refine fK ?_
 refine rg rfl (p (aC (.pointer (some ⟨A,0,none⟩)) rfl) ?_)
 refine eP rfl (cz DN (Eo w.heap.size (⟨A,E,J,M,I,(a7 s).length+1⟩:bO) F [] ln seen wI ⟨_,_,hF,ae,am⟩ hnx.2) rfl fun dB w111 cw=> ?_) (fun c w' U ap bx=>by
  obtain ⟨q,bi,rfl,aS⟩:=U
  exact mJ rfl (by decide) ((bx 2 (.head _)).trans rfl) ((bx 3 (.tail _ (.head _))).trans rfl) (bh.mw hF ae aS) (rE aa hX.symm bi))
 obtain ⟨rfl,cH,⟨b2,df,dz,hF4,hR4⟩,aS⟩:=cw
 have hob4:=bh.mw hF ae aS
 have hlo4:=hob4.lo
 refine nl (fq ?_)
 refine e7 ?_
 refine fK ?_
 refine rg rfl (p (aC (.pointer (some ⟨A,0,none⟩)) rfl) (p (nc rfl) (p (fa eO rfl) (p (ld eu rfl ((aR hR4.cells).trans rfl)) (p (bV (ps:= []) (L:= [.int .i64 0,.int .i64 0,.int .i64 0]) lf rfl (rfl)) (e (cj sy rfl rfl (v:= .pointer (some ⟨E,0,none⟩)) rfl hob4.c2 (by decide) fun w20 bB b7=>e (gd fR rfl rfl rfl rfl (bB.aA hob4.c3 (fun h=>by omega)) (by decide) fun w21 bE b8=> ?_))))))))
 have bG:Md (fun k=>k=ai∨k=aj) w111 w21:=(bB.mono (fun _ _ h=> .inl h)).trans' bE (fun _ _ h=> .inr h)
 refine nl (fq ?_)
 refine uB ?_
 have bN:TF w111 [24,27] (fun k=>k=ai∨k=aj):=TF.or (TF.eq (cR hob4.c2) (by decide)) (TF.eq (cR hob4.c3) (by decide))
 obtain ⟨dj,cI,_⟩:=hF4.cm
 have hF5:=hF4.md bG bN (by decide) (bN.no (dt cI) (by decide))
 exact JT rfl (by decide) rfl rfl (bE.aA b7 (fun h=>by omega)) b8 rfl (fun w' hm=>by
  unfold lA
  rw [vF aa hX.symm cH]
  exact ⟨⟨E,I,b2,rfl,hF5.wk hm,⟨seen,am⟩,hnx⟩,(hob4.wk.trans' bG (fun k hk h=>by omega)).trans hm⟩)
end Go.Hb.ma
end
section
set_option maxRecDepth 20000
set_option maxHeartbeats 1000000
namespace Go.Hb.kM
open Go.Hb.du
open Go.Proofs
open Go.Hb.ff Go.Hb.fM Go.Hb.fV Go.Hb.hY Go.Hb.h8
def iD (F:aH) (V:dW):List Value:= [.int .i64 (F.kind:Nat),str F.mx,str F.tr,aO (F.sp.getD 0 0),aO (F.sp.getD 1 0),aO (F.sp.getD 2 0),aO (F.sp.getD 3 0),aO (F.sp.getD 4 0),.int .i64 (F.least:Nat),V.v9,V.v10,V.v11,V.cC]
structure Cc (w:World) (B:Nat) (F:aH) (V:dW):Prop where
 o9:World.ownsRow w B 163 2 V.v9 F.bN.length (gT F.bN)
 dI:World.ownsRow w B 54 1 V.v10 F.aliases.length V.sa
 al:cX w B 71 V.sa F.aliases
 dp:World.ownsRow w B 157 5 V.v11 F.a3.length (js F.a3)
 cO:World.ownsRow w B 155 7 V.cC F.rules.length (fU (F.rules.zip V.rn))
 nx:cX w B 71 V.rn (F.rules.map (·.next))
theorem rK {w:World} {B e:Nat} {vs:List Value} {ls:List (List Nat)} (h:cX w B e vs ls):vs.all Value.oneCell'=true :=by
 rw [List.all_eq_true]
 intro v hv
 obtain ⟨i,hi⟩:=List.getElem?_of_mem hv
 have h1:=(List.getElem?_eq_some_iff.1 hi).1
 obtain ⟨u,hu,hT⟩:=cX.get h (i:=i) (by rw [← h.1]; exact h1)
 rw [hi] at hu; cases hu
 obtain ⟨a,c,rfl⟩:=hT.slice; rfl
theorem Kp {w:World} {B e:Nat} {rs:List eJ} {vs:List Value} {ls:List (List Nat)} (h:cX w B e vs ls):(fU (rs.zip vs)).all Value.oneCell'=true :=by
 rw [List.all_eq_true]
 intro v hv
 obtain ⟨q,a,hv⟩:=List.mem_flatMap.1 hv
 have h1:=List.all_eq_true.1 (rK h) q.2 (List.of_mem_zip a).2
 simp only [iq,List.mem_cons,List.not_mem_nil,or_false] at hv
 rcases hv with rfl | rfl | rfl | rfl | rfl | rfl | rfl <;> first | rfl | exact h1
theorem Kq {rs:List eJ} {vs:List Value} {i:Nat} {v:Value} (hi:i < rs.length) (hv:i < vs.length):(fU (rs.zip vs)).set (i*7 +6) v=fU (rs.zip (vs.set i v)):=by
 obtain ⟨r,hr⟩:∃ r,rs[i]? =some r:=⟨_,List.getElem?_eq_getElem hi⟩
 obtain ⟨u,hu⟩:∃ u,vs[i]? =some u:=⟨_,List.getElem?_eq_getElem hv⟩
 have hz:(rs.zip vs)[i]? =some (r,u):=List.getElem?_zip_eq_some.2 ⟨hr,hu⟩
 have hz2:rs.zip (vs.set i v)=(rs.zip vs).set i (r,v):=by
  apply List.ext_getElem?
  intro j
  rw [List.getElem?_set]
  by_cases a:i=j
  · subst a
    rw [if_pos rfl,if_pos (List.getElem?_eq_some_iff.1 hz).1]
    exact List.getElem?_zip_eq_some.2 ⟨hr,by simp [hv]⟩
  · rw [if_neg a]
    cases h1:(rs.zip vs)[j]? with
    | none=>
      rw [List.getElem?_eq_none_iff,List.length_zip] at h1 ⊢
      rw [List.length_set]; exact h1
    | some q=>
      have h2:=List.getElem?_zip_eq_some.1 h1
      exact List.getElem?_zip_eq_some.2 ⟨h2.1,by rw [List.getElem?_set,if_neg a]; exact h2.2⟩
 have hl:(rs.zip vs).length=min rs.length vs.length:=List.length_zip
 have hc:(fU (rs.zip vs)).length=(rs.zip vs).length*7:=kp (f:=iq) (m:=7) (fun _=>rfl) _
 rw [hz2,show fU ((rs.zip vs).set i (r,v))=(fU (rs.zip vs)).take (i*7)++iq (r,v)++(fU (rs.zip vs)).drop (i*7 +7) from yT (f:=iq) (m:=7) (fun _=>rfl) _ (by omega)]
 apply List.ext_getElem?
 intro j
 have hf:=fun c hc=>sU (f:=iq) (m:=7) (fun _=>rfl) (c:=c) hz hc
 have hg:∀ c,c < 7→(fU (rs.zip vs))[i*7 +c]? =(iq (r,u))[c]? :=fun c h=>hf c h
 have htl:((fU (rs.zip vs)).take (i*7)).length=i*7:=by rw [List.length_take,hc]; omega
 rw [List.getElem?_set]
 by_cases h1:j < i*7
 · rw [if_neg (by omega),List.append_assoc,List.getElem?_append_left (by omega),List.getElem?_take,if_pos h1]
 · rw [List.append_assoc,List.getElem?_append_right (by omega),htl]
   by_cases h2:j < i*7 +7
   · rw [List.getElem?_append_left (by show _ < 7; omega)]
     obtain ⟨c,rfl⟩:∃ c,j=i*7 +c:=⟨j - i*7,by omega⟩
     have h3:c < 7:=by omega
     rw [hg c h3,show i*7 +c - i*7=c by omega]
     match c,h3 with
     | 0,_=>rw [if_neg (by omega)]; rfl
     | 1,_=>rw [if_neg (by omega)]; rfl
     | 2,_=>rw [if_neg (by omega)]; rfl
     | 3,_=>rw [if_neg (by omega)]; rfl
     | 4,_=>rw [if_neg (by omega)]; rfl
     | 5,_=>rw [if_neg (by omega)]; rfl
     | 6,_=>rw [if_pos rfl,if_pos (by omega)]; rfl
   · rw [if_neg (by omega),List.getElem?_append_right (by show 7≤_; omega),show (iq (r,v)).length=7 from rfl,List.getElem?_drop]
     congr 1; omega
theorem AV {l:List (eJ×Value)} {i:Nat} {q:eJ×Value} (h:l[i]? =some q):fU l≠[]:=fun h2=>by
 have h3:(fU l).length=l.length*7:=kp (f:=iq) (m:=7) (fun _=>rfl) _
 have h4:=(List.getElem?_eq_some_iff.1 h).1
 rw [h2] at h3
 have h5:0=l.length*7:=h3
 omega
theorem vW {F:aH} {V:dW} (h9:V.v9.oneCell'=true) (a:V.v10.oneCell'=true) (i:V.v11.oneCell'=true) (j:V.cC.oneCell'=true):(iD F V).all Value.oneCell'=true :=by
 rw [List.all_eq_true]
 intro v hv
 simp only [iD,List.mem_cons,List.not_mem_nil,or_false] at hv
 rcases hv with rfl | rfl | rfl | rfl | rfl | rfl | rfl | rfl | rfl | rfl | rfl | rfl | rfl <;> first | rfl | assumption
theorem CI {w:World} {B fb mc:Nat} {F:aH} {V:dW} (h:cD w B fb mc F V):(iD F V).all Value.oneCell'=true :=vW (dU h.o9) (dU h.dI) (dU h.dp) (dU h.cO)
theorem sG {α:Type} {l m:List α} {i:Nat} (h:l.drop i=m.drop i):l[i]? =m[i]? :=by
 have h1:=congrArg (·[0]?) h
 simpa using h1
theorem uE {α:Type} {l:List α} {i:Nat} {x:α} (h:i < l.length):(l.set i x).take (i+1)=l.take i++ [x]:=by
 rw [List.take_add_one,List.take_set_of_le (Nat.le_refl i)]; simp [h]
theorem set_drop {α:Type} {l m:List α} {i:Nat} {x:α} (h:l.drop i=m.drop i):(l.set i x).drop (i+1)=m.drop (i+1):=by
 rw [List.drop_set_of_lt (Nat.lt_succ_self i),show i.succ=i+1 from rfl]
 simpa [List.drop_drop] using congrArg (List.drop 1) h
theorem vR {w:World} {B e i:Nat} {vs:List Value} {ls:List (List Nat)} {v:Value} (h:cX w B e (vs.take i) (ls.take i)) (hi:i < ls.length) (hv:i < vs.length) (hT:Tg w B e (ls.getD i []).length v ((ls.getD i []).map aO)):cX w B e ((vs.set i v).take (i+1)) (ls.take (i+1)):=by
 rw [uE hv,eo ls i [] hi]; exact h.snoc hT
theorem EE (a:Option Addr) (n c:Nat) (xs:List Value) (w:World) (hC:aw w.heap a xs) (hxl:xs.length=n*2) (ha:a=none→n=0) (h1:xs.all Value.oneCell'=true) (hn:n≤1048576):
 aV Tryz.prog 69 (List.toArray [.slice a n c]) w (fun v' w'=>World.ownsRow w' w.heap.size 163 2 v' n xs∧Wk w w'):=by
 refine enter Tryz.func69 rfl Tryz.ntmps69 rfl ?_
 refine U (fun _ s=>(aj (((s _ _ (sq (fun _ A=>U (fun _ C=> ?_))))))))
 refine ag (.slice a n c) (p (na LC rfl rfl) (au ((C _ _ (cb rfl (fun q=> ?_) (fun q=> ?_))))))
 have I:a=none:=by simpa using q
 refine U (fun _ i=>(aj (((i _ _ (rt (tr (f1 rfl rfl ?_))))))))
 have hn0:=ha I
 subst hn0
 obtain rfl :=List.eq_nil_of_length_eq_zero (show xs.length=0 by omega)
 exact ⟨World.ownsRow_nil _ _ _ _,Md.refl _ _⟩
 refine az (tn (A _ _ (U (fun _ i=>(e (jo q4 fun O w5 hb5 j E=> ?_))))))
 have ho5:=E w.heap.size (by omega)
 refine ag (.slice a n c) (e (ap q4 (ho5) rfl (by have :=j.size; omega) rfl (hC.wk j.md) (hxl) (h1) (by omega) (by omega) fun M w7 J G hz7 V=> ?_))
 have hE7:=Wk.own j.md ho5 G (Nat.le_refl _)
 refine aj (((i _ _ (rt (f1 rfl rfl ?_)))))
 have hz:World.ownsRow w7 w.heap.size 163 2 M n xs:=by simpa using J
 exact ⟨hz,hE7⟩
theorem ED (v:Value) (n:Nat) (xs:List Value) (w:World) (hv:Rd w.heap v n 2 xs) (h1:xs.all Value.oneCell'=true) (hn:n≤1048576):aV Tryz.prog 69 [v].toArray w (fun v w'=>World.ownsRow w' w.heap.size 163 2 v n xs∧Wk w w'):=by
 obtain ⟨a,c,rfl,hC,hxl,ha⟩:=hv
 exact EE a n c xs w hC hxl ha h1 hn
theorem EA (a:Option Addr) (n c:Nat) (xs:List Value) (w:World) (hC:aw w.heap a xs) (hxl:xs.length=n*5) (ha:a=none→n=0) (h1:xs.all Value.oneCell'=true) (hn:n≤1048576):
 aV Tryz.prog 70 (List.toArray [.slice a n c]) w (fun v' w'=>World.ownsRow w' w.heap.size 157 5 v' n xs∧Wk w w'):=by
 refine enter Tryz.func70 rfl Tryz.ntmps70 rfl ?_
 refine U (fun _ s=>(aj (((s _ _ (sq (fun _ A=>U (fun _ C=> ?_))))))))
 refine ag (.slice a n c) (p (na BL rfl rfl) (au ((C _ _ (cb rfl (fun q=> ?_) (fun q=> ?_))))))
 have I:a=none:=by simpa using q
 refine U (fun _ i=>(aj (((i _ _ (rt (tr (f1 rfl rfl ?_))))))))
 have hn0:=ha I
 subst hn0
 obtain rfl :=List.eq_nil_of_length_eq_zero (show xs.length=0 by omega)
 exact ⟨World.ownsRow_nil _ _ _ _,Md.refl _ _⟩
 refine az (tn (A _ _ (U (fun _ i=>(e (jo q6 fun O w5 hb5 j E=> ?_))))))
 have ho5:=E w.heap.size (by omega)
 refine ag (.slice a n c) (e (ap q6 (ho5) rfl (by have :=j.size; omega) rfl (hC.wk j.md) (hxl) (h1) (by omega) (by omega) fun M w7 J G hz7 V=> ?_))
 have hE7:=Wk.own j.md ho5 G (Nat.le_refl _)
 refine aj (((i _ _ (rt (f1 rfl rfl ?_)))))
 have hz:World.ownsRow w7 w.heap.size 157 5 M n xs:=by simpa using J
 exact ⟨hz,hE7⟩
theorem Ez (v:Value) (n:Nat) (xs:List Value) (w:World) (hv:Rd w.heap v n 5 xs) (h1:xs.all Value.oneCell'=true) (hn:n≤1048576):aV Tryz.prog 70 [v].toArray w (fun v w'=>World.ownsRow w' w.heap.size 157 5 v n xs∧Wk w w'):=by
 obtain ⟨a,c,rfl,hC,hxl,ha⟩:=hv
 exact EA a n c xs w hC hxl ha h1 hn
theorem EI (a:Option Addr) (n c:Nat) (xs:List Value) (w:World) (hC:aw w.heap a xs) (hxl:xs.length=n*1) (ha:a=none→n=0) (h1:xs.all Value.oneCell'=true) (hn:n≤1048576):
 aV Tryz.prog 71 (List.toArray [.slice a n c]) w (fun v' w'=>World.ownsRow w' w.heap.size 54 1 v' n xs∧Wk w w'):=by
 refine enter Tryz.func71 rfl Tryz.ntmps71 rfl ?_
 refine U (fun _ s=>(aj (((s _ _ (sq (fun _ A=>U (fun _ C=> ?_))))))))
 refine ag (.slice a n c) (p (na rl rfl rfl) (au ((C _ _ (cb rfl (fun q=> ?_) (fun q=> ?_))))))
 have I:a=none:=by simpa using q
 refine U (fun _ i=>(aj (((i _ _ (rt (tr (f1 rfl rfl ?_))))))))
 have hn0:=ha I
 subst hn0
 obtain rfl :=List.eq_nil_of_length_eq_zero (show xs.length=0 by omega)
 exact ⟨World.ownsRow_nil _ _ _ _,Md.refl _ _⟩
 refine az (tn (A _ _ (U (fun _ i=>(e (jo q5 fun O w5 hb5 j E=> ?_))))))
 have ho5:=E w.heap.size (by omega)
 refine ag (.slice a n c) (e (ap q5 (ho5) rfl (by have :=j.size; omega) rfl (hC.wk j.md) (hxl) (h1) (by omega) (by omega) fun M w7 J G hz7 V=> ?_))
 have hE7:=Wk.own j.md ho5 G (Nat.le_refl _)
 refine aj (((i _ _ (rt (f1 rfl rfl ?_)))))
 have hz:World.ownsRow w7 w.heap.size 54 1 M n xs:=by simpa using J
 exact ⟨hz,hE7⟩
theorem EH (v:Value) (n:Nat) (xs:List Value) (w:World) (hv:Rd w.heap v n 1 xs) (h1:xs.all Value.oneCell'=true) (hn:n≤1048576):aV Tryz.prog 71 [v].toArray w (fun v w'=>World.ownsRow w' w.heap.size 54 1 v n xs∧Wk w w'):=by
 obtain ⟨a,c,rfl,hC,hxl,ha⟩:=hv
 exact EI a n c xs w hC hxl ha h1 hn
theorem EG (a:Option Addr) (n c:Nat) (xs:List Value) (w:World) (hC:aw w.heap a xs) (hxl:xs.length=n*7) (ha:a=none→n=0) (h1:xs.all Value.oneCell'=true) (hn:n≤1048576):
 aV Tryz.prog 72 (List.toArray [.slice a n c]) w (fun v' w'=>World.ownsRow w' w.heap.size 155 7 v' n xs∧Wk w w'):=by
 refine enter Tryz.func72 rfl Tryz.ntmps72 rfl ?_
 refine U (fun _ s=>(aj (((s _ _ (sq (fun _ A=>U (fun _ C=> ?_))))))))
 refine ag (.slice a n c) (p (na rm rfl rfl) (au ((C _ _ (cb rfl (fun q=> ?_) (fun q=> ?_))))))
 have I:a=none:=by simpa using q
 refine U (fun _ i=>(aj (((i _ _ (rt (tr (f1 rfl rfl ?_))))))))
 have hn0:=ha I
 subst hn0
 obtain rfl :=List.eq_nil_of_length_eq_zero (show xs.length=0 by omega)
 exact ⟨World.ownsRow_nil _ _ _ _,Md.refl _ _⟩
 refine az (tn (A _ _ (U (fun _ i=>(e (jo q7 fun O w5 hb5 j E=> ?_))))))
 have ho5:=E w.heap.size (by omega)
 refine ag (.slice a n c) (e (ap q7 (ho5) rfl (by have :=j.size; omega) rfl (hC.wk j.md) (hxl) (h1) (by omega) (by omega) fun M w7 J G hz7 V=> ?_))
 have hE7:=Wk.own j.md ho5 G (Nat.le_refl _)
 refine aj (((i _ _ (rt (f1 rfl rfl ?_)))))
 have hz:World.ownsRow w7 w.heap.size 155 7 M n xs:=by simpa using J
 exact ⟨hz,hE7⟩
theorem EF (v:Value) (n:Nat) (xs:List Value) (w:World) (hv:Rd w.heap v n 7 xs) (h1:xs.all Value.oneCell'=true) (hn:n≤1048576):aV Tryz.prog 72 [v].toArray w (fun v w'=>World.ownsRow w' w.heap.size 155 7 v n xs∧Wk w w'):=by
 obtain ⟨a,c,rfl,hC,hxl,ha⟩:=hv
 exact EG a n c xs w hC hxl ha h1 hn
theorem EC (a:Option Addr) (n c:Nat) (xs:List Value) (w:World) (hC:aw w.heap a xs) (hxl:xs.length=n*2) (ha:a=none→n=0) (h1:xs.all Value.oneCell'=true) (hn:n≤1048576):
 aV Tryz.prog 48 (List.toArray [.slice a n c]) w (fun v' w'=>World.ownsRow w' w.heap.size 56 2 v' n xs∧Wk w w'):=by
 refine enter Tryz.func48 rfl Tryz.ntmps48 rfl ?_
 refine U (fun _ s=>(aj (((s _ _ (sq (fun _ A=>U (fun _ C=> ?_))))))))
 refine ag (.slice a n c) (p (na mM rfl rfl) (au ((C _ _ (cb rfl (fun q=> ?_) (fun q=> ?_))))))
 have I:a=none:=by simpa using q
 refine U (fun _ i=>(aj (((i _ _ (rt (tr (f1 rfl rfl ?_))))))))
 have hn0:=ha I
 subst hn0
 obtain rfl :=List.eq_nil_of_length_eq_zero (show xs.length=0 by omega)
 exact ⟨World.ownsRow_nil _ _ _ _,Md.refl _ _⟩
 refine az (tn (A _ _ (U (fun _ i=>(e (jo qX fun O w5 hb5 j E=> ?_))))))
 have ho5:=E w.heap.size (by omega)
 refine ag (.slice a n c) (e (ap qX (ho5) rfl (by have :=j.size; omega) rfl (hC.wk j.md) (hxl) (h1) (by omega) (by omega) fun M w7 J G hz7 V=> ?_))
 have hE7:=Wk.own j.md ho5 G (Nat.le_refl _)
 refine aj (((i _ _ (rt (f1 rfl rfl ?_)))))
 have hz:World.ownsRow w7 w.heap.size 56 2 M n xs:=by simpa using J
 exact ⟨hz,hE7⟩
theorem EB (v:Value) (n:Nat) (xs:List Value) (w:World) (hv:Rd w.heap v n 2 xs) (h1:xs.all Value.oneCell'=true) (hn:n≤1048576):aV Tryz.prog 48 [v].toArray w (fun v w'=>World.ownsRow w' w.heap.size 56 2 v n xs∧Wk w w'):=by
 obtain ⟨a,c,rfl,hC,hxl,ha⟩:=hv
 exact EC a n c xs w hC hxl ha h1 hn
theorem Cu (B fb mc:Nat) (F:aH) (V:dW) (w:World) (ay:cD w B fb mc F V) (hb:F.bN.length+F.aliases.length+F.a3.length+F.rules.length≤70000) (hnx:Nx F):
 aV Tryz.prog 38 (List.toArray [aI fb]) w (fun v w'=>(∃ bd,v= .agg (iD F bd).toArray∧Cc w' w.heap.size F bd)∧Wk w w'):=by
 refine enter Tryz.func38 rfl Tryz.ntmps38 rfl ?_
 refine U (fun _ bC=>(e (fQ B9 fun aZ Y hb2 a2 hB2=> ?_)))
 have hz2:=a2.size
 have hF2:=ay.wk a2.md
 refine au ((bC _ _ (sq (fun _ bM=>U (fun _ bO=>(ag (aI fb) (p (iK l7 rfl rfl) (nl ?_))))))))
 refine tn (bO _ _ (cf (rfl) (az (tn (bM _ _ (U (fun _ bP=>(ag (aI fb) (p (nc rfl) ?_)))))))))
 refine p (fa ez rfl) (p (dm rI rfl (rfl) (show ∀ j,j < 13→Hb.aE Y.heap fb (0 +j)=(iD F V)[j]? from fun j aL=>(aR hF2.cells).trans (by match j,aL with | 0,_=>rfl | 1,_=>rfl | 2,_=>rfl | 3,_=>rfl | 4,_=>rfl | 5,_=>rfl | 6,_=>rfl | 7,_=>rfl | 8,_=>rfl | 9,_=>rfl | 10,_=>rfl | 11,_=>rfl | 12,_=>rfl))) (e (fQ B9 fun O w3 cw bl bW=> ?_)))
 have hz3:=bl.size
 refine e (gd xZ rfl rfl rfl (CI hF2) bW (by decide) fun w30 bk bY=> ?_)
 have bi:Wk Y w30:=bl.md.trans' bk (fun q a h=>by omega)
 have hz30:=bk.size
 have hF30:=hF2.wk bi
 have aF:w30.heap[O]? =some (.cells (iD F ⟨V.v9,V.v10,V.v11,V.cC,V.sa,V.rn⟩).toArray 87 (0,0)):=bY
 refine au ((bP _ _ (U (fun _ bQ=>(p (fa ql rfl) (p (ld vK rfl ((aR aF).trans rfl)) (e (cl pH (ED V.v9 F.bN.length (gT F.bN) w30 (Rd.fZ hF30.o9) (yS (fun _=>rfl) _) (by omega)) rfl fun M w16 hR16=> ?_))))))))
 obtain ⟨br,a0⟩:=hR16
 have hz16:=a0.size
 have ho16x:=ga br (show w3.heap.size≤w30.heap.size by omega)
 refine p (fa ql rfl) (e (cj xV rfl rfl (v:=M) (dU br) (a0.aA aF) (by show _ < 13; omega) fun w4 a1 bZ=> ?_))
 have hE4:Wk Y w4:=(bi.trans a0).trans' a1 (fun q a h=>by omega)
 have hz4:=a1.size
 have hF4:=hF2.wk hE4
 have ho16y:=bX ho16x a1 (fun q a h=>by have :=(c7 ho16x a).1; omega)
 have bq:w4.heap[O]? =some (.cells (iD F ⟨M,V.v10,V.v11,V.cC,V.sa,V.rn⟩).toArray 87 (0,0)):=bZ
 refine au ((bQ _ _ (U (fun _ bR=>(p (fa nj rfl) (p (ld po rfl ((aR bq).trans rfl)) (e (cl D6 (Ez V.v11 F.a3.length (js F.a3) w4 (Rd.fZ hF4.dp) (yS (fun _=>rfl) _) (by omega)) rfl fun v20 w20 b5=> ?_))))))))
 obtain ⟨bt,an⟩:=b5
 have hz20:=an.size
 have ho20x:=ga bt (show w3.heap.size≤w4.heap.size by omega)
 refine p (fa nj rfl) (e (cj xX rfl rfl (v:=v20) (dU bt) (an.aA bq) (by show _ < 13; omega) fun w5 aD b1=> ?_))
 have hE5:Wk Y w5:=(hE4.trans an).trans' aD (fun q a h=>by omega)
 have hz5:=aD.size
 have hF5:=hF2.wk hE5
 have ho16z:=bX (aG ho16y an) aD (fun q a h=>by have :=(c7 (aG ho16y an) a).1; omega)
 have ho20y:=bX ho20x aD (fun q a h=>by have :=(c7 ho20x a).1; omega)
 have hc5:w5.heap[O]? =some (.cells (iD F ⟨M,V.v10,v20,V.cC,V.sa,V.rn⟩).toArray 87 (0,0)):=b1
 refine au ((bR _ _ (U (fun _ bS=>(p (fa kZ rfl) (p (ld mm rfl ((aR hc5).trans rfl)) (e (cl D7 (EH V.v10 F.aliases.length V.sa w5 (Rd.fZ hF5.dI) (rK hF5.al) (by omega)) rfl fun bA cA b6=> ?_))))))))
 obtain ⟨bv,hE24⟩:=b6
 have hz24:=hE24.size
 have ho24x:=ga bv (show w3.heap.size≤w5.heap.size by omega)
 refine p (fa kZ rfl) (e (cj xW rfl rfl (v:=bA) (dU bv) (hE24.aA hc5) (by show _ < 13; omega) fun w6 ap hB6=> ?_))
 have b4:Wk Y w6:=(hE5.trans hE24).trans' ap (fun q a h=>by omega)
 have hz6:=ap.size
 have ho9a:=bX (aG ho16z hE24) ap (fun q a h=>by have :=(c7 (aG ho16z hE24) a).1; omega)
 have ho11a:=bX (aG ho20y hE24) ap (fun q a h=>by have :=(c7 (aG ho20y hE24) a).1; omega)
 have ho10a:=bX ho24x ap (fun q a h=>by have :=(c7 ho24x a).1; omega)
 have hc6:w6.heap[O]? =some (.cells (iD F ⟨M,bA,v20,V.cC,V.sa,V.rn⟩).toArray 87 (0,0)):=hB6
 obtain ⟨Z,gD,rfl⟩:=b0 ho10a
 have hsl:=ay.al.1
 refine au ((bS _ _ (sq (fun _ bT=>U (fun _ bU=>(p (fa kZ rfl) (p (ld mm rfl ((aR hc6).trans rfl)) (p (bg rl rfl rfl) ?_))))))))
 refine p mv (au ((bU _ _ (aA (lp (fun am ai wI=> ∃ (i:Nat) (sa:List Value),(i≤F.aliases.length)∧(sa.length=F.aliases.length)∧(sa.drop i=V.sa.drop i)∧(cX wI w3.heap.size 71 (sa.take i) (F.aliases.take i))∧(World.ownsRow wI w3.heap.size 54 1 (.slice Z F.aliases.length gD) F.aliases.length (sa))∧(World.ownsRow wI w3.heap.size 163 2 (M) F.bN.length (gT F.bN))∧(World.ownsRow wI w3.heap.size 157 5 (v20) F.a3.length (js F.a3))∧(wI.heap[O]? =some (.cells (iD F ⟨M,.slice Z F.aliases.length gD,v20,V.cC,V.sa,V.rn⟩).toArray 87 (0,0)))∧(Wk Y wI)∧(w3.heap.size≤wI.heap.size)∧(ai 2=aI aZ)∧(ai 3=aI O)∧(ai 27= .slice Z F.aliases.length gD)∧(ai 28=ae (F.aliases.length))∧(ai 29=ae i)∧(F.aliases.length - i=am)) _ ⟨0,V.sa,(by omega),hsl,rfl,(cX.nil _ _ _),ho10a,ho9a,ho11a,hc6,b4,((by omega)),rfl,rfl,rfl,rfl,rfl,rfl⟩ ?_)))))
 rintro am ai wI ⟨i,sa,hi,ar,bz,hal,J,aT,aQ,aq,ax,cx,ce,cm,cg,ch,ck,rfl⟩
 refine fx 2 ce (fx 3 cm (fx 27 cg (fx 28 ch (fx 29 ck (U (fun _ bD=>(p (lt rfl rfl) (au ((bD _ _ (sq (fun _ bG=>cd rfl (fun aF=> ?_) (fun aF=> ?_)))))))))))))
 refine az (tn (bG _ _ (sq (fun _ aW=>aA (sq (fun _ aX=> ?_))))))
 obtain ⟨cz,cr,a7⟩:=cX.get (hF2.wk ax).al (show i < F.aliases.length by omega)
 obtain ⟨bV,ci,rfl⟩:=a7.slice
 refine rg rfl (ag (ae i) (p (aJ sL rfl rfl (by omega) (aw.ok ((aM J).2) (fun h=>by rw [h] at ar; simp at ar; omega))) (p (ld lE rfl (aw.gP (aM J).2 ((sG bz).trans cr))) (p (bJ (ae i) rfl) (aj (((aX _ _ ?_))))))))
 have aa:(fun w'=>Wk wI w') wI.drew:=(Md.refl _ _).drew
 refine dH (fun w'=>Wk wI w') 6 rfl wide aa (lq 0 rfl (by kernel_rfl) (fun _ _=>fa kZ rfl) aa (lq 1 rfl (by kernel_rfl) (fun w' ah=>ld mm rfl (Wk.aE ah ((aR aq).trans rfl))) aa (lq 2 rfl (by kernel_rfl) (fun _ _=>aC (ae i) rfl) aa (lq 3 rfl (by kernel_rfl) (fun _ _=>mv) aa (fC 4 rfl (by kernel_rfl) (cl pF (pO bV (F.aliases.getD i []).length ci ((F.aliases.getD i []).map aO) wI.drew (aw.wk a7.bF.2 aa) (by simp) (fun h=>Tg.qE a7 (by simp) h) (pz _) (by have :=hnx.1 _ (c5 (d:= []) (show i < F.aliases.length by omega)); omega)) rfl fun cu w38 b7=> ?_))))))
 obtain ⟨a9,bj⟩:=b7
 have E:Wk wI w38:=aa.trans bj
 have hSI:=E
 have bm:(fun w'=>Wk wI w') w38:=aa.trans bj
 refine ⟨bm,?_⟩
 refine lq 5 rfl (by kernel_rfl) (fun _ _=>aJ sL rfl rfl (by omega) (aw.ok ((aM J).2) (fun h=>by rw [h] at ar; simp at ar; omega))) bm (cE 6 rfl (by kernel_rfl) (by kernel_rfl) (nB (j:=i) (aG J E) pT rfl rfl (dU a9) (by simp) (by omega) fun w10 ab ho10=> ?_))
 have b2:Wk Y w10:=Wk.own (ax.trans E) (aG J E) ab (by omega)
 have ho38x:=bX (ga a9 (show w3.heap.size≤wI.heap.size by omega)) ab (fun q a=>jg a9 (aG J E) (by decide) a)
 have hal10:=(hal.wk E).md ab (eR (aG J E) (by decide))
 have ho9J:=bX (aG aT E) ab (fun q a=>jg (aG aT E) (aG J E) (by decide) a)
 have ho11J:=bX (aG aQ E) ab (fun q a=>jg (aG aQ E) (aG J E) (by decide) a)
 have hcJ:=ab.aA (Wk.aA E aq) (fun h=>by have :=(c7 (aG J E) h).1; omega)
 refine dG (by kernel_rfl) ?_
 exact bn (tn (aW _ _ (rg rfl (p (ad rfl rfl (bu (by omega))) (p mv (au ((⟨_,by omega,i+1,sa.set i cu,(by omega),((by rw [List.length_set]; exact ar)),(set_drop bz),(vR hal10 (by omega) (by omega) (Tg.fZ ho38x)),ho10,ho9J,ho11J,hcJ,b2,((by have :=hSI.size; have :=ab.size; omega)),rfl,rfl,rfl,rfl,rfl,rfl⟩))))))))
 refine ext (te _ (te _ (be (tn (bT _ _ (U (fun _ aW=>(p (fa k0 rfl) ?_))))))))
 refine p (ld mo rfl ((aR aq).trans rfl)) (e (cl D8 (EF V.cC F.rules.length (fU (F.rules.zip V.rn)) wI (Rd.fZ (hF2.wk ax).cO) (Kp ay.nx) (by omega)) rfl fun bB w43 b8=> ?_))
 obtain ⟨bw,hE43⟩:=b8
 have hz43:=hE43.size
 have ho43x:=ga bw (show w3.heap.size≤wI.heap.size by omega)
 rw [List.take_of_length_le (by omega),List.take_of_length_le (by omega)] at hal
 refine p (fa k0 rfl) (e (cj xY rfl rfl (v:=bB) (dU bw) (Wk.aA hE43 aq) (by show _ < 13; omega) fun w12 ac hB12=> ?_))
 have hE12:Wk Y w12:=(ax.trans hE43).trans' ac (fun q a h=>by omega)
 have hz12:=ac.size
 have ho9b:=bX (aG aT hE43) ac (fun q a h=>by have :=(c7 (aG aT hE43) a).1; omega)
 have ho10b:=bX (aG J hE43) ac (fun q a h=>by have :=(c7 (aG J hE43) a).1; omega)
 have ho11b:=bX (aG aQ hE43) ac (fun q a h=>by have :=(c7 (aG aQ hE43) a).1; omega)
 have ho12b:=bX ho43x ac (fun q a h=>by have :=(c7 ho43x a).1; omega)
 have halb:=(hal.wk hE43).md ac (dM (Wk.aA hE43 aq) (by decide))
 have bp:w12.heap[O]? =some (.cells (iD F ⟨M,.slice Z F.aliases.length gD,v20,bB,V.sa,V.rn⟩).toArray 87 (0,0)):=hB12
 obtain ⟨ak,gr,rfl⟩:=b0 ho12b
 have hrl:V.rn.length=F.rules.length:=by have :=ay.nx.1; rwa [List.length_map] at this
 refine au ((aW _ _ (sq (fun _ aX=>U (fun _ bH=>(p (fa k0 rfl) (p (ld mo rfl ((aR bp).trans rfl)) (p (bg rm rfl rfl) ?_))))))))
 refine p mv (au ((bH _ _ (aA (lp (fun am av C=> ∃ (i:Nat) (rn:List Value),(i≤F.rules.length)∧(rn.length=F.rules.length)∧(rn.drop i=V.rn.drop i)∧(cX C w3.heap.size 71 (rn.take i) ((F.rules.map (·.next)).take i))∧(World.ownsRow C w3.heap.size 155 7 (.slice ak F.rules.length gr) F.rules.length (fU (F.rules.zip rn)))∧(World.ownsRow C w3.heap.size 163 2 (M) F.bN.length (gT F.bN))∧(World.ownsRow C w3.heap.size 54 1 (.slice Z F.aliases.length gD) F.aliases.length (sa))∧(cX C w3.heap.size 71 sa F.aliases)∧(World.ownsRow C w3.heap.size 157 5 (v20) F.a3.length (js F.a3))∧(C.heap[O]? =some (.cells (iD F ⟨M,.slice Z F.aliases.length gD,v20,.slice ak F.rules.length gr,V.sa,V.rn⟩).toArray 87 (0,0)))∧(Wk Y C)∧(w3.heap.size≤C.heap.size)∧(av 2=aI aZ)∧(av 3=aI O)∧(av 47=ae (F.rules.length))∧(av 48=ae i)∧(F.rules.length - i=am)) _ ⟨0,V.rn,(by omega),hrl,rfl,(cX.nil _ _ _),ho12b,ho9b,ho10b,halb,ho11b,bp,hE12,((by omega)),rfl,rfl,rfl,rfl,rfl⟩ ?_)))))
 rintro am av C ⟨i,rn,hi,cc,bx,hnl,G,aU,aP,bo,aS,aK,ao,cy,cn,co,cp,cq,rfl⟩
 refine fx 2 cn (fx 3 co (fx 47 cp (fx 48 cq (U (fun _ bI=>(p (lt rfl rfl) (au ((bI _ _ (sq (fun _ bK=>cd rfl (fun ca=> ?_) (fun ca=> ?_))))))))))))
 refine az (tn (bK _ _ (sq (fun _ aY=>aA (sq (fun _ bL=> ?_))))))
 obtain ⟨vn,ct,a8⟩:=cX.get (hF2.wk ao).nx (show i < (F.rules.map (·.next)).length by rw [List.length_map]; omega)
 obtain ⟨bf,bh,rfl⟩:=a8.slice
 obtain ⟨q,bb⟩:∃ q,F.rules[i]? =some q:=⟨_,List.getElem?_eq_getElem (by omega)⟩
 have cb:(F.rules.map (·.next)).getD i []=q.next:=by rw [List.getD_eq_getElem?_getD,List.getElem?_map,bb]; rfl
 have hql:=hnx.2 q (List.mem_of_getElem? bb)
 rw [← cb] at hql
 have bc:(F.rules.zip rn)[i]? =some (q,.slice bf ((F.rules.map (·.next)).getD i []).length bh):=List.getElem?_zip_eq_some.2 ⟨bb,(sG bx).trans ct⟩
 refine rg rfl (ag (ae i) (p (bJ (ae i) rfl) (au ((bL _ _ ?_)))))
 have I:(fun w'=>Wk C w') C.drew:=(Md.refl _ _).drew
 refine dH (fun w'=>Wk C w') 12 rfl wide I (a5 0 rfl (fun _=>fa k0 rfl) (fun _=>I) (cQ 1 rfl (fun w' ah=>ld mo rfl (Wk.aE ah ((aR aK).trans rfl))) I (a4 2 rfl (ae i) I (a5 3 rfl (fun _=>fa k0 rfl) (fun _=>I) (cQ 4 rfl (fun w' ah=>ld mo rfl (Wk.aE ah ((aR aK).trans rfl))) I (a4 5 rfl (ae i) I (a5 6 rfl (fun _=>aJ sM rfl rfl (by omega) (aw.ok ((aM G).2) (AV bc))) (fun _=>I) ?_)))))))
 refine a5 7 rfl (fun _=>fa qj rfl) (fun _=>I) (cQ 8 rfl (fun w' ah=>ld lE rfl (Wk.aE ah (fS (f:=iq) (m:=7) (fun _=>rfl) (aM G).2 bc 6 (by decide)))) I (fC 9 rfl (by kernel_rfl) (cl pF (pO bf ((F.rules.map (·.next)).getD i []).length bh (((F.rules.map (·.next)).getD i []).map aO) C.drew (aw.wk a8.bF.2 I) (by simp) (fun h=>Tg.qE a8 (by simp) h) (pz _) (by omega)) rfl fun cv w60 b9=> ?_)))
 obtain ⟨ba,hE60⟩:=b9
 have A:Wk C w60:=I.trans hE60
 have hSK:=A
 have a6:(fun w'=>Wk C w') w60:=I.trans hE60
 refine ⟨a6,?_⟩
 refine a5 10 rfl (fun _=>aJ sM rfl rfl (by omega) (aw.ok ((aM G).2) (AV bc))) (fun _=>a6) (a5 11 rfl (fun _=>fa qj rfl) (fun _=>a6) (cE 12 rfl (by kernel_rfl) (by kernel_rfl) (nB (j:=i*7 +6) (aG G A) pT rfl rfl (dU ba) (by rw [Int.toNat_natCast]; omega) (by omega) fun w16 hM16 bs=> ?_)))
 rw [Kq (by omega) (by omega)] at bs
 have b3:Wk Y w16:=Wk.own (ao.trans A) (aG G A) hM16 (by omega)
 have ho60x:=bX (ga ba (show w3.heap.size≤C.heap.size by omega)) hM16 (fun q a=>jg ba (aG G A) (by decide) a)
 have hnl16:=(hnl.wk A).md hM16 (eR (aG G A) (by decide))
 have hal16:=(bo.wk A).md hM16 (eR (aG G A) (by decide))
 have ho9L:=bX (aG aU A) hM16 (fun q a=>jg (aG aU A) (aG G A) (by decide) a)
 have ho10L:=bX (aG aP A) hM16 (fun q a=>jg (aG aP A) (aG G A) (by decide) a)
 have ho11L:=bX (aG aS A) hM16 (fun q a=>jg (aG aS A) (aG G A) (by decide) a)
 have hcL:=hM16.aA (Wk.aA A aK) (fun h=>by have :=(c7 (aG G A) h).1; omega)
 refine dG (by kernel_rfl) ?_
 exact bn (tn (aY _ _ (rg rfl (p (ad rfl rfl (bu (by omega))) (p mv (au ((⟨_,by omega,i+1,rn.set i cv,(by omega),((by rw [List.length_set]; exact cc)),(set_drop bx),(vR hnl16 (by rw [List.length_map]; omega) (by omega) (Tg.fZ ho60x)),bs,ho9L,ho10L,hal16,ho11L,hcL,b3,((by have :=hSK.size; have :=hM16.size; omega)),rfl,rfl,rfl,rfl,rfl⟩))))))))
 refine ext (te _ (te _ (be (tn (aX _ _ (U (fun _ aY=>(p (dm rI rfl (rfl) (show ∀ j,j < 13→Hb.aE C.heap O (0 +j)=(iD F ⟨M,.slice Z F.aliases.length gD,v20,.slice ak F.rules.length gr,V.sa,V.rn⟩)[j]? from fun j aL=>(aR aK).trans (by match j,aL with | 0,_=>rfl | 1,_=>rfl | 2,_=>rfl | 3,_=>rfl | 4,_=>rfl | 5,_=>rfl | 6,_=>rfl | 7,_=>rfl | 8,_=>rfl | 9,_=>rfl | 10,_=>rfl | 11,_=>rfl | 12,_=>rfl))) ?_))))))))
 refine e (gd xZ rfl rfl rfl (vW (dU aU) (dU aP) (dU aS) (dU G)) (Wk.aA ao hB2) (by decide) fun w18 aB hB18=>au ((aY _ _ (rt (oa rfl (c8 (cs:=iD F ⟨M,.slice Z F.aliases.length gD,v20,.slice ak F.rules.length gr,V.sa,V.rn⟩) rfl rI rfl (fun j aL=>(bE.cW ⟨_,hB18⟩ j).trans rfl)) ?_)))))
 have aN:∀ {t s n:Nat} {v:Value} {xs:List Value},World.ownsRow C w3.heap.size t s v n xs→World.ownsRow w18 w.heap.size t s v n xs:=fun h=>ga (bX h aB (fun q a h2=>by have :=(c7 h a).1; omega)) (by omega)
 rw [List.take_of_length_le (by omega),List.take_of_length_le (by rw [List.length_map]; omega)] at hnl
 have hfl:∀ k,k=aZ→∀ cur z,C.heap[k]?≠some (.cells cur 71 z):=dM (Wk.aA ao hB2) (by decide)
 exact ⟨⟨⟨M,.slice Z F.aliases.length gD,v20,.slice ak F.rules.length gr,sa,rn⟩,rfl,⟨aN aU,aN aP,(bo.md aB hfl).mono (by omega),aN aS,aN G,(hnl.md aB hfl).mono (by omega)⟩⟩,(a2.md.trans ao).trans' aB (fun q a h=>by omega)⟩
end Go.Hb.kM
end
section
set_option maxRecDepth 20000
set_option maxHeartbeats 1000000
namespace Go.Hb.mg
open Go.Hb.du
open Go.Proofs
open Go.Hb.ff Go.Hb.fM Go.Hb.fV Go.Hb.iw Go.Hb.jM Go.Hb.kI Go.Hb.hY Go.Hb.ma Go.Hb.h8 Go.Hb.kM Go.Hb.ka Go.Hb.gB Go.Hb.o0 Go.Hb.gn
noncomputable def g4 (r:List Tx):Nat×Int:=if r.length≠1 then (0,111) else cH (r.getD 0 []) 8192
def Cg (i w':World) (X:Except Nat c9) (v:Value):Prop :=(∃ x a,X= .ok x∧v= .tuple #[.agg [str x.1,a].toArray,.int .i64 (0:Nat)]∧World.ownsRow w' i.heap.size 71 1 a x.2.length (x.2.map aO))∨(∃ e,X= .error e∧e≠0∧v= .tuple #[.agg [str [],.slice none 0 0].toArray,.int .i64 (e:Nat)])
theorem Ar {s:Tx} {i:Nat} (hi:i < s.length):(s.take (i+1)).drop i= [s.getD i 0]:=by
 rw [oN 0 (Nat.le_refl i) hi,List.drop_eq_nil_of_le (by rw [List.length_take]; omega),List.nil_append]
theorem BR (b:UInt8):lr [b]=fk b:=by unfold lr; rw [CY]; cases fk b <;> rfl
theorem x6 {F:aH} {x:Nat} (h:(dK F.a3 x).isSome=true∨x∈F.sp):dx F x=true :=by
 unfold dx; rcases h with h | h
 · rw [h,Bool.or_true]
 · rw [decide_eq_true h]; rfl
theorem FE {F:aH} {x:Nat} (h:(dK F.a3 x).isSome=false) (h1:x∉F.sp):dx F x=false :=by
 unfold dx; rw [h,decide_eq_false h1]; rfl
theorem KS {F:aH} (h:F.sp.length=5):[F.sp.getD 0 0,F.sp.getD 1 0,F.sp.getD 2 0,F.sp.getD 3 0,F.sp.getD 4 0]=F.sp:=by
 match F.sp,h with
 | [a,b,c,d,e],_=>rfl
theorem HV (a:Option Addr) (c:Nat) (l:List Nat) (x:Nat) (w:World) (hC:aw w.heap a (l.map aO)) (hl:l.length≤1048576):
 aV Tryz.prog 105 (List.toArray [.slice a l.length c,aO x]) w (fun v w'=>(∃ k:Int,v= .int .i64 k∧(0≤k↔x∈l)∧ -1≤k∧k≤1048576)∧Wk w w'):=by
 refine enter Tryz.func105 rfl Tryz.ntmps105 rfl ?_
 refine U (fun _ I=>(aj (((I _ _ (sq (fun _ J=>U (fun _ M=> ?_))))))))
 refine ag (.slice a l.length c) (p (bg jL rfl rfl) (p mv (au ((M _ _ (aA (lp (fun A q wI=> ∃ (i:Nat),(i≤l.length)∧(∀ j,j < i→l.getD j 0≠x)∧(wI=w)∧(q 0= .slice a l.length c)∧(q 1=aO x)∧(q 7=ae (l.length))∧(q 8=ae i)∧(l.length - i=A)) _ ⟨0,(by omega),((fun j E=>by omega)),rfl,rfl,rfl,rfl,rfl,rfl⟩ ?_)))))))
 rintro A q wI ⟨i,hi,G,ab,ah,ai,al,am,rfl⟩
 refine fx 0 ah (fx 1 ai (fx 7 al (fx 8 am ?_)))
 subst ab
 refine U (fun _ O=>(p (lt rfl rfl) (au ((O _ _ (sq (fun _ V=>cd rfl (fun ac=> ?_) (fun ac=> ?_))))))))
 refine az (tn (V _ _ (sq (fun _ s=>aA (U (fun _ Y=>(ag (ae i) (p (bJ (ae i) rfl) ?_))))))))
 refine au ((Y _ _ (U (fun _ Z=>(ag (aO x) (ag (.slice a l.length c) (ag (ae i) (p (aJ bj rfl rfl (by omega) (aw.ok (hC) (bo (by omega)))) ?_))))))))
 refine p (ld bL rfl (aw.gP hC (show (l.map aO)[i]? =some (aO (l.getD i 0)) by rw [List.getElem?_map,List.getD_eq_getElem?_getD,List.getElem?_eq_getElem (by omega :i < l.length)]; rfl))) ?_
 refine p (bd rfl rfl) (au ((Z _ _ (cd rfl (fun C=> ?_) (fun C=> ?_)))))
 refine U (fun _ aa=>(ag (ae i) (p (bJ (ae i) rfl) (au ((aa _ _ (rt (br ?_))))))))
 exact tr (tr (br (tr (f1 rfl rfl (⟨⟨(i:Nat),rfl,⟨fun _=>by obtain rfl :x=l.getD i 0:=(by omega); exact c5 (by omega),fun _=>by omega⟩,by omega,by omega⟩,Md.refl _ _⟩)))))
 refine az (bn (tn (s _ _ (rg rfl (p (ad rfl rfl (bu (by omega))) (p mv (nl (tn ?_))))))))
 exact ⟨_,by omega,i+1,(by omega),((fun j E=>by rcases Nat.lt_or_ge j i with h | h <;> first | exact G j h | (rw [show j=i by omega]; exact fun h2=>C (by rw [h2])))),rfl,rfl,rfl,rfl,rfl,rfl⟩
 refine ext (te _ (te _ (be (tn (J _ _ (U (fun _ s=>(p ak ?_))))))))
 exact au ((s _ _ (rt (f1 rfl rfl (⟨⟨-1,rfl,⟨fun h=>absurd h (by omega),fun h=>by obtain ⟨j,E,e⟩:=k5 0 h; exact absurd e (G j (by omega))⟩,by omega,by omega⟩,Md.refl _ _⟩)))))
theorem E3 (a:Option Addr) (c:Nat) (l:List Nat) (x:Nat) (w:World) (hC:aw w.heap a (l.map aO)) (hl:l.length≤1048576):
 aV Tryz.prog 76 (List.toArray [.slice a l.length c,aO x]) w (fun v w'=>v= .bool (decide (x∈l))∧Wk w w'):=by
 refine enter Tryz.func76 rfl Tryz.ntmps76 rfl ?_
 refine U (fun _ i=>(aj (((i _ _ (U (fun _ j=>(ag (.slice a l.length c) ?_))))))))
 refine ag (aO x) (e (cl C0 (HV a c l x w hC hl) rfl fun C w7 hR7=> ?_))
 obtain ⟨⟨s,rfl,q,A⟩,hE7⟩:=hR7
 exact p (ge rfl rfl) (aj (((j _ _ (rt (f1 rfl rfl (⟨by show Value.bool (decide (s≥0))=_; exact congrArg Value.bool (decide_eq_decide.2 q),hE7⟩)))))))
theorem mz (ln er:Int) (w:World):
 aV Tryz.prog 36 (List.toArray [.int .i64 ln,.int .i64 er]) w (fun v w'=>v= .agg [.int .i64 2,.int .i64 ln,.int .i64 er].toArray∧Wk w w'):=by
 refine enter Tryz.func36 rfl Tryz.ntmps36 rfl ?_
 refine U (fun _ a=>(e (al iR fun G w4 I E A=>au ((a _ _ (U (fun _ i=>(ag (.int .i64 ln) ?_))))))))
 exact ag (.int .i64 er) (p (bV (ps:= [(0,.int .i64 2),(1,.int .i64 ln),(2,.int .i64 er)]) (L:= [.int .i64 2,.int .i64 ln,.int .i64 er]) lf rfl (rfl)) (e (bY fR rfl rfl rfl rfl (A) (by simp) fun O C s=>au ((i _ _ (rt (oa rfl (c8 (cs:= [.int .i64 2,.int .i64 ln,.int .i64 er]) rfl gY rfl (fun j J=>s.cW j)) (⟨rfl,E.md.trans' C (fun q M h=>by omega)⟩))))))))
theorem FN (n:Nat) (r:List Tx) (B:Nat) (a:Option Addr) (c:Nat) (w:World) (hT:Tg w B 9 r.length (.slice a r.length c) (r.map str)) (hrl:∀ x∈r,x.length≤70000) (hr:r.length≤70000):
 aV Tryz.prog 37 (List.toArray [.agg [ae n,.slice a r.length c].toArray]) w (fun v w'=>v= .tuple #[ae ((g4 r).1),.int .i64 (g4 r).2]∧Wk w w'):=by
 refine enter Tryz.func37 rfl Tryz.ntmps37 rfl ?_
 refine U (fun _ s=>(e (jq rfl fun I w1 J q hB1=> ?_)))
 have hT1:=hT.wk q.md
 refine p ak (aj (((s _ _ (sq (fun _ A=>U (fun _ C=>(p (fa oe rfl) ?_))))))))
 refine p (ld gi rfl ((hB1.aE 1).trans rfl)) (p (bg dy rfl rfl) (p (bH rfl rfl) (au ((C _ _ (cd rfl (fun G=> ?_) (fun G=> ?_)))))))
 refine U (fun _ j=>(p ak (aj (((j _ _ (rt (tr ?_))))))))
 refine f2 rfl rfl rfl ?_
 have h1:r.length≠1:=by omega
 exact ⟨by unfold g4; rw [if_pos h1]; rfl,q.md⟩
 refine az (tn (A _ _ (U (fun _ j=>(p (fa oe rfl) (p (ld gi rfl ((hB1.aE 1).trans rfl)) (p (aJ bC rfl rfl (by omega) (aw.ok (hT1.bF.2) (bo (by omega)))) (p (ld bz rfl (bp.get (i:=0) hT1.bF.2 (by omega))) ?_))))))))
 refine e (cl pG (qH (r.getD 0 []) 8192 w1 (by have :=hrl _ (c5 (d:= []) (show 0 < r.length by omega)); omega) (by omega)) rfl fun cC w12 E=> ?_)
 obtain ⟨rfl,hE12⟩:=E
 refine p (xt rfl rfl) (p (xt rfl rfl) (p ak (aj (((j _ _ (rt (f2 rfl rfl rfl ?_))))))))
 have h1:¬r.length≠1:=by omega
 exact ⟨by unfold g4; rw [if_neg h1]; rfl,q.md.trans hE12⟩
theorem FK (B fb mc:Nat) (F:aH) (V:dW) (n:Nat) (r:List Tx) (a7:Nat) (aY:Option Addr) (a0:Nat) (w:World) (aL:cD w B fb mc F V) (bQ:∃ seen,hZ F [] seen) (b9:Tg w a7 9 r.length (.slice aY r.length a0) (r.map str)) (hrl:∀ x∈r,x.length≤70000) (hr:r.length≤70000):
 aV Tryz.prog 39 (List.toArray [aI fb,.agg [aO (F.sp.getD 0 0),aO (F.sp.getD 1 0),aO (F.sp.getD 2 0),aO (F.sp.getD 3 0),aO (F.sp.getD 4 0)].toArray,.agg [ae n,.slice aY r.length a0].toArray]) w (fun v w'=>Cg w w' (ep F r) v∧Wk w w'):=by
 obtain ⟨seen,ap⟩:=bQ
 have hbl:=ap.len
 have hwl:=mP (r.getD 0 [])
 refine enter Tryz.func39 rfl Tryz.ntmps39 rfl ?_
 refine U (fun _ a8=>(e (jq rfl fun aF w4 cJ a4 bN=>e (jq rfl fun cG w5 hb5 aN bO=>e (al B7 fun aZ w6 hb6 ar hB6=> ?_)))))
 have aq:Wk w w6:=a4.md.trans (aN.md.trans ar.md)
 have hq4:=ar.md.B (aN.md.B bN)
 have hq5:=ar.md.B bO
 have hT:=b9.wk aq
 have hF6:=aL.wk aq
 have hz4:=a4.size
 have hz5:=aN.size
 have hz6:=ar.size
 refine aj (((a8 _ _ (sq (fun _ bf=>U (fun _ bm=>(p (fa oe rfl) (p (ld gi rfl ((hq5.aE 1).trans rfl)) ?_))))))))
 refine p (bg dy rfl rfl) (p (bH rfl rfl) (au ((bm _ _ (cd rfl (fun ca=> ?_) (fun ca=> ?_))))))
 refine U (fun _ aC=>(p (bV (ps:= []) (L:= [.string ⟨⟨[]⟩⟩,.slice none 0 0]) lg rfl (rfl)) (e (bY ki rfl rfl rfl rfl (hB6) (by simp) fun c1 b2 bM=>aj (((aC _ _ (rt ?_))))))))
 exact tr (dP rfl (c8 (cs:= [str [],.slice none 0 0]) rfl ke rfl (fun j E=>bM.cW j)) dF (⟨.inr ⟨111,yl (by omega),by decide,rfl⟩,aq.trans' b2 (fun q A h=>by omega)⟩))
 have hr1:r.length=1:=by omega
 have cK:(r.getD 0 []).length≤70000:=hrl _ (c5 (by omega))
 refine az (tn (bf _ _ (U (fun _ aC=>(p (fa oe rfl) (p (ld gi rfl ((hq5.aE 1).trans rfl)) (p (aJ bC rfl rfl (by omega) (aw.ok (hT.bF.2) (bo (by omega)))) (p (ld bz rfl (bp.get (i:=0) hT.bF.2 (by omega))) ?_))))))))
 refine e (cl r8 (vd (r.getD 0 []) w6 (by omega)) rfl fun cL w28 b4=> ?_)
 obtain ⟨rfl,ah⟩:=b4
 have hE28x:=aq.trans ah
 have hb28:=ah.B hB6
 have hz28:=ah.size
 refine p mv (p (xt rfl rfl) (p (xt rfl rfl) (p (xt rfl rfl) (p (xt rfl rfl) (p ak (p ak (p ak ?_)))))))
 refine aj (((aC _ _ (sq (fun _ bq=>U (fun _ bs=>(p mv (p (bH rfl rfl) ?_))))))))
 refine au ((bs _ _ (cd rfl (fun cc=> ?_) (fun cc=> ?_))))
 refine U (fun _ aD=>(p (bV (ps:= []) (L:= [.string ⟨⟨[]⟩⟩,.slice none 0 0]) lg rfl (rfl)) (p mv (e (bY ki rfl rfl rfl rfl (hb28) (by simp) fun c2 b3 bP=>aj (((aD _ _ ?_))))))))
 exact rt (tr (dP rfl (c8 (cs:= [str [],.slice none 0 0]) rfl ke rfl (fun j E=>bP.cW j)) dF (⟨.inr ⟨_,pZ hr1 (by omega),(by omega),rfl⟩,hE28x.trans' b3 (fun q A h=>by omega)⟩)))
 have Z:(aW (r.getD 0 [])).2.2.2=0:=by omega
 refine az (tn (bq _ _ (sq (fun _ aD=>U (fun _ bt=>(p mv (p (bK u9 rfl rfl) (p mv ?_))))))))
 refine au ((bt _ _ (aA (lp (fun ac G wI=> ∃ (i:Nat),(i≤(aW (r.getD 0 [])).1.length)∧(∀ j,j < i→fk ((aW (r.getD 0 [])).1.getD j 0)=true)∧(Wk w28 wI)∧(G 0=aI fb)∧(G 4=aI aF)∧(G 6=aI aZ)∧(G 8=str (aW (r.getD 0 [])).1)∧(G 9=str (aW (r.getD 0 [])).2.1)∧(G 10= .bool (aW (r.getD 0 [])).2.2.1)∧(G 38=ae ((aW (r.getD 0 [])).1.length))∧(G 39=ae i)∧((aW (r.getD 0 [])).1.length - i=ac)) _ ⟨0,(by omega),((fun j E=>by omega)),(Md.refl _ _),rfl,rfl,rfl,rfl,rfl,rfl,rfl,rfl,rfl⟩ ?_))))
 rintro ac G wI ⟨i,hi,a5,C,ck,cp,cq,cr,ct,cm,cn,co,rfl⟩
 refine fx 0 ck (fx 4 cp (fx 6 cq (fx 8 cr (fx 9 ct (fx 10 cm (fx 38 cn (fx 39 co (U (fun _ bv=>(p (lt rfl rfl) (au ((bv _ _ (sq (fun _ a9=>cd rfl (fun ce=> ?_) (fun ce=> ?_))))))))))))))))
 refine az (tn (a9 _ _ (sq (fun _ av=>aA (U (fun _ ax=>(ag (ae i) (p (bJ (ae i) rfl) ?_))))))))
 refine au ((ax _ _ (U (fun _ aa=>(ag (str (aW (r.getD 0 [])).1) (ag (ae i) (ag (ae i) (p (ad rfl rfl (bu (by omega))) ?_))))))))
 refine p (iP u9 rfl rfl rfl (by omega)) (e (cl xr (BS (((aW (r.getD 0 [])).1.take (i+1)).drop i) wI (by rw [Ar (by omega)]; simp)) rfl fun cN cQ b5=> ?_))
 obtain ⟨rfl,hE47⟩:=b5
 have hon:=Ar (s:=(aW (r.getD 0 [])).1) (i:=i) (by omega)
 have hE47x:=C.trans hE47
 refine p (no rfl) (au ((aa _ _ (cb rfl (fun aQ=> ?_) (fun aQ=> ?_)))))
 have aT:fk ((aW (r.getD 0 [])).1.getD i 0)=false :=by rw [← BR,← hon]; simpa using aQ
 refine U (fun _ ab=>(p (bV (ps:= []) (L:= [.string ⟨⟨[]⟩⟩,.slice none 0 0]) lg rfl (rfl)) (e (bY ki rfl rfl rfl rfl (Wk.B hE47x hb28) (by simp) fun cS bR bw=>aj (((ab _ _ (rt ?_))))))))
 exact br (tr (tr (br (tr (dP rfl (c8 (cs:= [str [],.slice none 0 0]) rfl ke rfl (fun j E=>bw.cW j)) dF (⟨.inr ⟨21,p4 hr1 Z (.inl (m7 (by omega) aT)),by decide,rfl⟩,(hE28x.trans hE47x).trans' bR (fun q A h=>by omega)⟩))))))
 have aT:fk ((aW (r.getD 0 [])).1.getD i 0)=true :=by rw [← BR,← hon]; simpa using aQ
 refine az (bn (tn (av _ _ (rg rfl (p (ad rfl rfl (bu (by omega))) (p mv (nl (tn ?_))))))))
 exact ⟨_,by omega,i+1,(by omega),((fun j E=>by rcases Nat.lt_or_ge j i with h | h <;> first | exact a5 j h | (rw [show j=i by omega]; exact aT))),hE47x,rfl,rfl,rfl,rfl,rfl,rfl,rfl,rfl,rfl⟩
 refine ext (te _ (te _ (be (tn (aD _ _ (sq (fun _ av=>aA (sq (fun _ ax=> ?_)))))))))
 refine rg rfl (ag (str (aW (r.getD 0 [])).1) (p (cM rfl rfl) (aj (((ax _ _ (cd rfl (fun Y=> ?_) (fun Y=> ?_))))))))
 refine U (fun _ aa=>(p (bV (ps:= []) (L:= [.string ⟨⟨[]⟩⟩,.slice none 0 0]) lg rfl (rfl)) (e (bY ki rfl rfl rfl rfl (Wk.B C hb28) (by simp) fun cT bS bx=>aj (((aa _ _ (rt ?_))))))))
 exact br (tr (dP rfl (c8 (cs:= [str [],.slice none 0 0]) rfl ke rfl (fun j E=>bx.cW j)) dF (⟨.inr ⟨21,p4 hr1 Z (.inr Y),by decide,rfl⟩,(hE28x.trans C).trans' bS (fun q A h=>by omega)⟩)))
 have hby:=nW (w:=(aW (r.getD 0 [])).1) (fun j E=>a5 j (by omega))
 refine U (fun _ aa=>(ag (str (aW (r.getD 0 [])).1) (p (bK u9 rfl rfl) (p (gt rfl rfl) (aj (((aa _ _ ?_))))))))
 refine cd rfl (fun cg=> ?_) (fun cg=> ?_)
 refine U (fun _ ab=>(p (bV (ps:= []) (L:= [.string ⟨⟨[]⟩⟩,.slice none 0 0]) lg rfl (rfl)) (e (bY ki rfl rfl rfl rfl (Wk.B C hb28) (by simp) fun cU bT bA=>aj (((ab _ _ (rt ?_))))))))
 exact br (tr (dP rfl (c8 (cs:= [str [],.slice none 0 0]) rfl ke rfl (fun j E=>bA.cW j)) dF (⟨.inr ⟨22,ym hr1 Z hby Y (by omega),by decide,rfl⟩,(hE28x.trans C).trans' bT (fun q A h=>by omega)⟩)))
 refine U (fun _ ab=>(ag (.bool (aW (r.getD 0 [])).2.2.1) (p (no rfl) (aj (((ab _ _ (cb rfl (fun ai=> ?_) (fun ai=> ?_)))))))))
 refine U (fun _ ay=>(ag (str (aW (r.getD 0 [])).1) (p (bV (ps:= [(0,str (aW (r.getD 0 [])).1)]) (L:= [str (aW (r.getD 0 [])).1,.slice none 0 0]) lg rfl (rfl)) (e (bY ki rfl rfl rfl rfl (Wk.B C hb28) (by simp) fun cX bU bD=>aj (((ay _ _ ?_))))))))
 exact rt (br (tr (dP rfl (c8 (cs:= [str (aW (r.getD 0 [])).1,.slice none 0 0]) rfl ke rfl (fun j E=>bD.cW j)) dF (⟨.inl ⟨_,.slice none 0 0,sI hr1 Z hby Y (by omega) (by simpa using ai),rfl,World.ownsRow_nil _ _ _ _⟩,(hE28x.trans C).trans' bU (fun q A h=>by omega)⟩))))
 refine az (bn (tn (av _ _ (U (fun _ ay=>(ag (aI fb) (ag (str (aW (r.getD 0 [])).2.1) (e (cl xu (yB B fb mc F V (aW (r.getD 0 [])).2.1 wI (hF6.wk (ah.trans C)) ap.kd ap.al (by omega) (by omega)) rfl fun cC w68 b6=> ?_)))))))))
 obtain ⟨cj,aK⟩:=b6
 have hE68x:=hE28x.trans (C.trans aK)
 have hb68:=Wk.B (C.trans aK) hb28
 obtain ⟨cE,cH,rfl,hcs⟩:∃ a,∃ e:Nat,cC= .tuple #[a,ae e]∧((e=0∧∃ l,ec F.kind F.aliases (aW (r.getD 0 [])).2.1= .ok l∧World.ownsRow w68 wI.heap.size 71 1 a l.length (l.map aO))∨(e≠0∧ec F.kind F.aliases (aW (r.getD 0 [])).2.1= .error e)):=by
  rcases cj with ⟨a,l,h1,h2,h3⟩ | ⟨a,e,h1,h2,h3⟩
  exact ⟨a,0,h1,.inl ⟨rfl,l,h2,h3⟩⟩
  exact ⟨a,e,h1,.inr ⟨h2,h3⟩⟩
 refine p mv (p (xt rfl rfl) (p (xt rfl rfl) (p ak (aj (((ay _ _ (sq (fun _ ba=> ?_)))))))))
 refine U (fun _ bb=>(p mv (p (bH rfl rfl) (au ((bb _ _ (cd rfl (fun ch=> ?_) (fun ch=> ?_))))))))
 obtain ⟨hne,am⟩:=hcs.resolve_left (fun h=>by omega)
 refine U (fun _ aB=>(p (bV (ps:= []) (L:= [.string ⟨⟨[]⟩⟩,.slice none 0 0]) lg rfl (rfl)) (p mv (e (bY ki rfl rfl rfl rfl (hb68) (by simp) fun cY bW bE=>aj (((aB _ _ ?_))))))))
 exact rt (tr (dP rfl (c8 (cs:= [str [],.slice none 0 0]) rfl ke rfl (fun j E=>bE.cW j)) dF (⟨.inr ⟨_,yn hr1 Z hby Y (by omega) (by simpa using ai) am,hne,rfl⟩,hE68x.trans' bW (fun q A h=>by omega)⟩)))
 obtain ⟨_,set,am,an⟩:=hcs.resolve_right (fun h=>by omega)
 obtain ⟨M,O,rfl⟩:=b0 an
 have hsl:=qc (fun l hl=>(ap.al l hl).1) am
 refine az (tn (ba _ _ (sq (fun _ aB=>U (fun _ bd=>(p mv (p (bg LA rfl rfl) (p mv ?_))))))))
 refine au ((bd _ _ (aA (lp (fun ac I aU=> ∃ (j:Nat),(j≤set.length)∧(∀ q,q < j→dx F (set.getD q 0)=true)∧(Wk w68 aU)∧(I 0=aI fb)∧(I 4=aI aF)∧(I 6=aI aZ)∧(I 8=str (aW (r.getD 0 [])).1)∧(I 13= .slice M set.length O)∧(I 75= .slice M set.length O)∧(I 76=ae (set.length))∧(I 77=ae j)∧(set.length - j=ac)) _ ⟨0,(by omega),((fun q A=>by omega)),(Md.refl _ _),rfl,rfl,rfl,rfl,rfl,rfl,rfl,rfl,rfl⟩ ?_))))
 rintro ac I aU ⟨j,E,aP,J,cu,cw,cx,cB,cv,cy,cz,cA,rfl⟩
 refine fx 0 cu (fx 4 cw (fx 6 cx (fx 8 cB (fx 13 cv (fx 75 cy (fx 76 cz (fx 77 cA (U (fun _ bh=>(p (lt rfl rfl) (au ((bh _ _ (sq (fun _ bi=>cd rfl (fun ci=> ?_) (fun ci=> ?_))))))))))))))))
 refine az (tn (bi _ _ (sq (fun _ ao=>aA (U (fun _ bj=>(p (aJ Gf rfl rfl (by omega) (aw.ok ((aM (aG an J)).2) (bo (by omega)))) (p (ld bL rfl (aw.gP (aM (aG an J)).2 (show (set.map aO)[j]? =some (aO (set.getD j 0)) by rw [List.getElem?_map,List.getD_eq_getElem?_getD,List.getElem?_eq_getElem (by omega :j < set.length)]; rfl))) ?_))))))))
 refine aj (((bj _ _ (U (fun _ bk=>(ag (aI fb) (p mv (e (cl xq (yy B fb mc F V (set.getD j 0) aU (aL.wk (hE68x.trans J)) (by omega)) rfl fun cO w84 b7=> ?_)))))))))
 obtain ⟨rfl,a1⟩:=b7
 have hz84:=a1.size
 have hzJ:=J.size
 refine p mv (p (xt rfl rfl) (p (xt rfl rfl) (e (al oW fun cF w16 hb16 a3 bB=>e (bY m8 rfl rfl rfl rfl (bB) (by simp) fun wt24_7 bZ cI=> ?_)))))
 have hz16:=a3.size
 have hE24:Wk w68 wt24_7:=(J.trans (a1.trans a3.md)).trans' bZ (fun q A h=>by omega)
 refine aj (((bk _ _ (U (fun _ aX=>(p mv (p (no rfl) (p mv ?_))))))))
 refine gb (t:=89) rfl (fun aS=> ?_) (fun aS=> ?_)
 refine pg rfl rfl rfl (CH rO rfl) (pg rfl rfl rfl mv (eg rfl rfl rfl (cl D9 (E3 (some ⟨aF,0,none⟩) 5 [F.sp.getD 0 0,F.sp.getD 1 0,F.sp.getD 2 0,F.sp.getD 3 0,F.sp.getD 4 0] (set.getD j 0) wt24_7 (aw.cV (Wk.B ((ah.trans (C.trans aK)).trans hE24) hq4)) (by simp)) rfl fun cP cR b8=> ?_)))
 obtain ⟨rfl,hE92⟩:=b8
 rw [KS aL.ee] at*
 refine pg rfl rfl rfl (no rfl) (p (bc rfl) (au ((aX _ _ (cb rfl (fun aR=> ?_) (fun aR=> ?_))))))
 refine U (fun _ bl=>(p (bV (ps:= []) (L:= [.string ⟨⟨[]⟩⟩,.slice none 0 0]) lg rfl (rfl)) (e (bY ki rfl rfl rfl rfl (Wk.B (hE24.trans hE92) hb68) (by simp) fun cZ b1 bG=>aj (((bl _ _ (rt ?_))))))))
 exact br (tr (tr (br (tr (dP rfl (c8 (cs:= [str [],.slice none 0 0]) rfl ke rfl (fun j E=>bG.cW j)) dF (⟨.inr ⟨120,yo hr1 Z hby Y (by omega) (by simpa using ai) am (i:=j) (by omega) (FE (by simpa using aS) (by simpa using aR)),by decide,rfl⟩,(hE68x.trans (hE24.trans hE92)).trans' b1 (fun q A h=>by omega)⟩))))))
 refine az (bn (tn (ao _ _ (rg rfl (p (ad rfl rfl (bu (by omega))) (p mv (nl (tn ?_))))))))
 exact ⟨_,by omega,j+1,(by omega),((fun q A=>by rcases Nat.lt_or_ge q j with h | h <;> first | exact aP q h | (rw [show q=j by omega]; exact x6 (.inr (by simpa using aR))))),(hE24.trans hE92),rfl,rfl,rfl,rfl,rfl,rfl,rfl,rfl,rfl⟩
 refine sk rfl rfl rfl rfl (sk rfl rfl rfl rfl (sk rfl rfl rfl rfl (sk rfl rfl rfl rfl (p (a6 rfl) (au ((aX _ _ (cf rfl ?_))))))))
 refine az (bn (tn (ao _ _ (rg rfl (p (ad rfl rfl (bu (by omega))) (p mv (nl (tn ?_))))))))
 exact ⟨_,by omega,j+1,(by omega),((fun q A=>by rcases Nat.lt_or_ge q j with h | h <;> first | exact aP q h | (rw [show q=j by omega]; exact x6 (.inl (by simpa using aS))))),hE24,rfl,rfl,rfl,rfl,rfl,rfl,rfl,rfl,rfl⟩
 refine ext (te _ (te _ (be (tn (aB _ _ (U (fun _ ao=>(ag (str (aW (r.getD 0 [])).1) ?_))))))))
 refine ag (.slice M set.length O) (p (bV (ps:= [(0,str (aW (r.getD 0 [])).1),(1,.slice M set.length O)]) (L:= [str (aW (r.getD 0 [])).1,.slice M set.length O]) lg rfl (rfl)) (e (bY ki rfl rfl rfl rfl (Wk.B J hb68) (by simp) fun c0 a2 bI=>aj (((ao _ _ (rt (dP rfl (c8 (cs:= [str (aW (r.getD 0 [])).1,.slice M set.length O]) rfl ke rfl (fun j E=>bI.cW j)) dF ?_))))))))
 exact ⟨.inl ⟨((aW (r.getD 0 [])).1,set),.slice M set.length O,sJ hr1 Z hby Y (by omega) (by simpa using ai) am (fun j E=>aP j (by omega)),rfl,ga (bX (aG an J) a2 (fun q A h=>by have :=(c7 an A).1; have :=C.size; omega)) (by have :=C.size; omega)⟩,(hE68x.trans J).trans' a2 (fun q A h=>by omega)⟩
end Go.Hb.mg
end
section
set_option maxRecDepth 20000
set_option maxHeartbeats 1000000
namespace Go.Hb.mT
open Go.Hb.du
open Go.Proofs
open Go.Hb.ff Go.Hb.fM Go.Hb.fV Go.Hb.iw Go.Hb.jM Go.Hb.kI Go.Hb.kH Go.Hb.hY Go.Hb.ma Go.Hb.h8 Go.Hb.kM Go.Hb.mg Go.Hb.ka Go.Hb.gB Go.Hb.o0 Go.Hb.oY Go.Hb.gn Go.Hb.fP
theorem GV:sQ Tryz.prog 87 3=some (81,3):=by kernel_rfl
def iJ (q:c9×Value):List Value:= [str q.1.1,q.2]
def gE (l:List (c9×Value)):List Value:=l.flatMap iJ
theorem yj (l:List (c9×Value)) (q:c9×Value):gE (l++ [q])=gE l++iJ q:=by simp [gE]
theorem FX (l:List (c9×Value)):(gE l).length=l.length*2:=kp (f:=iJ) (m:=2) (fun _=>rfl) l
theorem mI {w:World} {B e size n k:Nat} {v:Value} {xs:List Value} (h:World.ownsRow w B e size v n xs) (hk:v.ownBlock=some k) (i:∀ cur z,w.heap[k]?≠some (.cells cur e z)):False:=by
 rcases h.2 with ⟨rfl,rfl⟩ | ⟨g,cap,cur,rfl,_,hg,_⟩
 · cases hk
 · have a:g=k:=by simpa [Value.ownBlock] using hk
   subst a
   exact i _ _ hg
structure j9 (w:World) (B:Nat) (f:Value→Option Value) (xs:List c9):Prop where
 own:∀ s:Tx,World.ownsRow w B 3 1 ((f (str s)).getD (Value.slice none 0 0)) (idxs s xs).length ((idxs s xs).map bA)
 nil:∀ s:Tx,idxs s xs= []→(f (str s)).getD (Value.slice none 0 0)=(Value.slice none 0 0)
theorem j9.md {G:Nat→Prop} {w w':World} {B:Nat} {f:Value→Option Value} {xs:List c9} (h:j9 w B f xs) (hm:Md G w w') (a:∀ k,G k→∀ cur z,w.heap[k]?≠some (.cells cur 3 z)):j9 w' B f xs:=by
 refine ⟨fun s=> ?_,h.nil⟩
 refine bX (h.own s) hm (fun k hk hg=> ?_)
 exact mI (h.own s) hk (fun cur z hc=>a k hg cur z hc)
theorem ue {w:World} {B p k n i:Nat} {v v':Value} {xs j:List Value} (h:World.ownsRow w B 3 1 v n xs) (C:World.ownsRow w p 3 1 v' i j) (hk:v.ownBlock=some k) (E:v'.ownBlock=some k) (hn:0 < n) (O:0 < i):xs[0]? =j[0]? :=by
 rcases h.2 with ⟨rfl,rfl⟩ | ⟨g,cap,cur,rfl,_,hg,_,_,_,G⟩
 · omega
 · rcases C.2 with ⟨rfl,rfl⟩ | ⟨A,J,M,rfl,_,a,_,_,_,I⟩
   · omega
   · have q:g=k:=by simpa [Value.ownBlock] using hk
     have s:A=k:=by simpa [Value.ownBlock] using E
     subst q s
     rw [hg] at a
     cases a
     rw [← G,← I,List.getElem?_take,List.getElem?_take,if_pos (by omega),if_pos (by omega)]
theorem j9.sep {w:World} {B k:Nat} {f:Value→Option Value} {xs:List c9} {s t:Tx} (h:j9 w B f xs) (hne:s≠t) (hs:((f (str s)).getD (Value.slice none 0 0)).ownBlock=some k):((f (str t)).getD (Value.slice none 0 0)).ownBlock≠some k:=by
 intro a
 have q:idxs s xs≠[]:=fun e=>by rw [h.nil s e] at hs; cases hs
 have A:idxs t xs≠[]:=fun e=>by rw [h.nil t e] at a; cases a
 have he:=ue (h.own s) (h.own t) hs a (List.length_pos_iff.2 q) (List.length_pos_iff.2 A)
 cases h1:idxs s xs with
 | nil=>exact q h1
 | cons i l=>
   cases h2:idxs t xs with
   | nil=>exact A h2
   | cons j m=>
     rw [h1,h2] at he
     have C:i=j:=by have h:=he; simp only [List.map_cons,List.getElem?_cons_zero,Option.some.injEq,bA,Value.int.injEq,true_and] at h; omega
     subst C
     have m1:i∈idxs s xs:=by rw [h1]; simp
     have p:i∈idxs t xs:=by rw [h2]; simp
     unfold idxs at m1 p
     have q1:=of_decide_eq_true (List.mem_filter.1 m1).2
     have q2:=of_decide_eq_true (List.mem_filter.1 p).2
     exact hne (q1.symm.trans q2)
theorem j9.put {w w1 A:World} {B q:Nat} {f:Value→Option Value} {xs:List c9} {x:c9} {v:Value} (h:j9 w B f xs) (hm:Md (fun k=>((f (str x.1)).getD (Value.slice none 0 0)).ownBlock=some k) w w1)
 (p:World.ownsRow w1 B 3 1 v (idxs x.1 xs++ [xs.length]).length ((idxs x.1 xs++ [xs.length]).map bA)) (j:∀ cur z,w1.heap[q]?≠some (.cells cur 3 z)) (i:Md (fun k=>k=q) w1 A):j9 A B (bh f (str x.1) v) (xs++ [x]):=by
 refine ⟨fun s=> ?_,fun s hs=> ?_⟩
 · by_cases a:x.1=s
   · subst a
     rw [oH,tA,if_pos rfl]
     exact bX p i (fun k hk hg=>mI p hk (fun cur z hc=>j cur z (hg ▸ hc)))
   · rw [nw (fun e=>a (str_inj.1 e).symm),tA,if_neg a,List.append_nil]
     have h1:=bX (h.own s) hm (fun k hk hg=>h.sep a hg hk)
     exact bX h1 i (fun k hk hg=>mI h1 hk (fun cur z hc=>j cur z (hg ▸ hc)))
 · rw [tA] at hs
   by_cases a:x.1=s
   · rw [if_pos a] at hs; simp at hs
   · rw [if_neg a,List.append_nil] at hs
     rw [nw (fun e=>a (str_inj.1 e).symm)]; exact h.nil s hs
structure jn (w:World) (B wb mb:Nat) (va:Value) (vs:List Value) (xs:List c9):Prop where
 cells:w.heap[wb]? =some (.cells [va,.map (some mb)].toArray 108 (0,0))
 own:World.ownsRow w B 56 2 va xs.length (gE (xs.zip vs))
 fl:cX w B 71 vs (xs.map (·.2))
 mp:∃ f,bP w.heap mb fJ f∧j9 w B f xs
theorem jn.md {G:Nat→Prop} {w w':World} {B p a:Nat} {j:Value} {vs:List Value} {xs:List c9} (h:jn w B p a j vs xs) (hm:Md G w w') {L:List Nat} (hT:TF w L G) (i:(L.contains 110 || L.contains 58 || L.contains 73 || L.contains 5)=false) (s:¬G a):jn w' B p a j vs xs:=by
 simp only [Bool.or_eq_false_iff] at i
 obtain ⟨⟨⟨h1,h2⟩,h3⟩,h4⟩:=i
 obtain ⟨f,hf,q⟩:=h.mp
 exact ⟨hm.gq hT h.cells h1,bG h.own hm hT h2,h.fl.md hm (fun k hk cur z hg=>hT.no (cR hg) h3 hk),⟨f,hf.md hm s,q.md hm (fun k hk cur z hg=>hT.no (cR hg) h4 hk)⟩⟩
theorem jn.wk {w w':World} {B j a:Nat} {i:Value} {vs:List Value} {xs:List c9} (h:jn w B j a i vs xs) (hm:Wk w w'):jn w' B j a i vs xs:=h.md (L:= []) hm (fun _ hk=>hk.elim) rfl id
theorem sA {F:aH} {t:Tx} {ln:Nat} {row:List Tx} {rows:List Rw} (h:¬65536 < t.length) (h1:bf t=(ln,row)::rows) (h2:(g4 row).2≠0):∃ e:Nat,(g4 row).2=(e:Int)∧eN F t= .error (ln,e):=by
 unfold g4 at h2 ⊢
 by_cases hr:row.length≠1
 · rw [if_pos hr]; exact ⟨111,rfl,FQ h h1 hr⟩
 · rw [if_neg hr] at h2 ⊢
   have h3:=k8 (s:=row.getD 0 []) (most:=8192) h2
   exact ⟨13,h3.2,FT h h1 (Classical.not_not.1 hr) h3.1⟩
theorem x8 {F:aH} {t:Tx} {ln:Nat} {row:List Tx} {rows:List Rw} (h:¬65536 < t.length) (h1:bf t=(ln,row)::rows) (h2:(g4 row).2=0):∃ n:Nat,(g4 row).1=n∧n≤8192∧eN F t=ei F ((a7 t).length+1) n rows:=by
 unfold g4 at h2 ⊢
 by_cases hr:row.length≠1
 · rw [if_pos hr] at h2; cases h2
 · rw [if_neg hr] at h2 ⊢
   exact ⟨_,rfl,by have :=lZ (row.getD 0 []) 8192 h2; omega,x9 h h1 (Classical.not_not.1 hr) (j0 h2)⟩
theorem rh {u:Tx} {a:Value} (h:a.oneCell'=true):[str u,a].all Value.oneCell'=true :=by rw [List.all_cons,List.all_cons,h]; rfl
def vm (l e:Nat):Value:= .agg [.int .i64 2,.int .i64 (l:Nat),.int .i64 (e:Nat)].toArray
def Ce (w':World) (B0:Nat) (xs:List c9) (v:Value):Prop := ∃ B a i j vs,B0≤B∧v= .tuple #[.pointer (some ⟨a,0,none⟩),.agg [.int .i64 0,.int .i64 0,.int .i64 0].toArray]∧jn w' B a i j vs xs∧B0≤a∧B0≤i
def Cd (e:Nat×Nat) (v:Value):Prop :=v= .tuple #[.pointer none,vm e.1 e.2]
def iT (F:aH) (t:Tx) (w:World) (v:Value) (w':World):Prop :=(match eN F t with | .ok xs=>Ce w' w.heap.size xs v | .error e=>Cd e v)∧Wk w w'
theorem iT.no {F:aH} {t:Tx} {w w':World} {l e:Nat} (h:eN F t= .error (l,e)) (hm:Wk w w'):iT F t w (.tuple #[.pointer none,.agg [.int .i64 2,.int .i64 (l:Nat),.int .i64 (e:Nat)].toArray]) w':=by
 unfold iT; rw [h]; exact ⟨rfl,hm⟩
theorem FV (t:Tx) (w:World):
 aV Tryz.prog 11 (List.toArray [.pointer none,str t]) w (fun v w'=>v= .tuple #[.pointer none,vm 0 1]∧Wk w w'):=by
 refine enter Tryz.func11 rfl Tryz.ntmps11 rfl ?_
 refine U (fun _ i=>(p ak (e (al iR fun O w5 hb5 I E=>au ((i _ _ (sq (fun _ M=>sq (fun _ s=> ?_)))))))))
 refine rg rfl (ag (.pointer none) (p (iK l7 rfl rfl) (au ((s _ _ (ct (rfl) (U (fun _ A=> ?_))))))))
 refine e (cl mr (mz 0 1 w5) rfl fun Z w19 J=> ?_)
 obtain ⟨rfl,a⟩:=J
 exact p ak (e (bY fR rfl rfl rfl rfl (a.B E) (by simp) fun aa G C=>au ((A _ _ (rt (tr (dP rfl dF (c8 (cs:= [.int .i64 2,.int .i64 0,.int .i64 1]) rfl gY rfl (fun j V=>C.cW j)) (⟨rfl,(I.md.trans a).trans' G (fun q Y h=>by omega)⟩))))))))
theorem sF (B fb mc:Nat) (F:aH) (V:dW) (t:Tx) (w:World) (bN:cD w B fb mc F V) (c2:∃ seen,hZ F [] seen) (hnx:Nx F) (hs:t.length≤1048576):
 aV Tryz.prog 11 (List.toArray [aI fb,str t]) w (iT F t w):=by
 refine enter Tryz.func11 rfl Tryz.ntmps11 rfl ?_
 refine U (fun _ cg=>(p ak (e (fQ iR fun a6 w5 hb5 bQ bI=> ?_))))
 have bG:bE w5.heap a6 [.int .i64 0,.int .i64 0,.int .i64 0]:=⟨_,bI⟩
 refine au ((cg _ _ (sq (fun _ cq=>U (fun _ cx=>(ag (aI fb) (p (iK l7 rfl rfl) (nl ?_))))))))
 refine tn (cx _ _ (cf (rfl) (az (tn (cq _ _ (U (fun _ cy=>(ag (str t) (e (cl xl (Bo t _ hs) rfl fun ez bv dk=> ?_))))))))))
 obtain ⟨⟨eh,rfl,b3⟩,hE22⟩:=dk
 have hE22x:=bQ.md.trans hE22
 have hz5:=bQ.size
 refine p mv (p (xt rfl rfl) (p (xt rfl rfl) (p ak (aj (((cy _ _ (sq (fun _ cz=> ?_)))))))))
 refine U (fun _ cA=>(p mv (p (bH rfl rfl) (au ((cA _ _ (cd rfl (fun bq=> ?_) (fun bq=> ?_))))))))
 have b1:65536 < t.length:=Classical.byContradiction fun h=>bq (by rw [if_neg h])
 refine U (fun _ a1=>(p mv (e (cl mr (mz 0 (if 65536 < t.length then 10 else 0) bv) rfl fun eA w28 dl=> ?_))))
 obtain ⟨rfl,a9⟩:=dl
 have hz28:=(hE22.trans a9).size
 refine p ak (e (bY fR rfl rfl rfl rfl (Wk.B (hE22.trans a9) bG) (by simp) fun eS de cY=>au ((a1 _ _ (rt (tr (dP rfl dF (c8 (cs:= [.int .i64 2,.int .i64 0,.int .i64 (if 65536 < t.length then 10 else 0)]) rfl gY rfl (fun j ab=>cY.cW j)) ?_)))))))
 have h:=iT.no (F:=F) (ya b1) ((hE22x.trans a9).trans' de (fun q A h=>by omega))
 show iT F t w (.tuple #[.pointer none,.agg [.int .i64 2,.int .i64 0,.int .i64 (if 65536 < t.length then 10 else 0)].toArray]) _
 rw [if_pos b1]
 exact h
 have ax:¬65536 < t.length:=fun h=>bq (by rw [if_pos h]; decide)
 rw [if_neg ax] at b3
 obtain ⟨cc,bB,rfl⟩:=b0 b3
 have hll:=jY t
 refine az (tn (cz _ _ (U (fun _ a1=>(ag (str t) (e (cl xk (AT t _ hs) rfl fun eB w31 dn=> ?_)))))))
 obtain ⟨⟨ei,rfl,hcs⟩,hE31⟩:=dn
 rw [if_neg ax] at hcs
 obtain ⟨ce,aS,aT⟩:=hcs
 obtain ⟨bw,aB,rfl⟩:=b0 aS
 have hE31x:=hE22x.trans hE31
 have hb5x:=Wk.B (hE22.trans hE31) bG
 have hz31:=(hE22.trans hE31).size
 have hrl:=qO t
 refine p mv (p (xt rfl rfl) (p (xt rfl rfl) (p ak (aj (((a1 _ _ (sq (fun _ cB=> ?_)))))))))
 refine U (fun _ cC=>(p mv (p (bg rk rfl rfl) (p (bd rfl rfl) (au ((cC _ _ (cd rfl (fun bs=> ?_) (fun bs=> ?_)))))))))
 have hnil:bf t= []:=List.eq_nil_of_length_eq_zero (by omega)
 refine U (fun _ aU=>(p mv (p (bg dy rfl rfl) (p (ba (((a7 t).length+1:Nat):Int) rfl rfl (aQ (by omega) (by omega))) (e (cl mr (mz ((a7 t).length+1:Nat) 116 w31) rfl fun eC w40 dp=> ?_))))))
 obtain ⟨rfl,bb⟩:=dp
 have hz40:=bb.size
 exact p ak (e (bY fR rfl rfl rfl rfl (Wk.B bb hb5x) (by simp) fun eT df cZ=>au ((aU _ _ (rt (tr (dP rfl dF (c8 (cs:= [.int .i64 2,ae ((a7 t).length+1),.int .i64 116]) rfl gY rfl (fun j ab=>cZ.cW j)) (iT.no (yb ax hnil) ((hE31x.trans bb).trans' df (fun q A h=>by omega))))))))))
 obtain ⟨⟨ln0,an⟩,rest,hrw⟩:∃ q rest,bf t=q::rest:=by
  cases h:bf t with
  | nil=>rw [h] at bs; exact absurd rfl bs
  | cons q rest=>exact ⟨q,rest,rfl⟩
 have hvl:=aT.1
 rw [hrw] at aS aT hvl hrl
 obtain ⟨⟨q1,q2⟩,rvs',rfl⟩:∃ q vs',ce=q::vs':=by
  cases ce with
  | nil=>exact absurd hvl (by simp)
  | cons q vs'=>exact ⟨q,vs',rfl⟩
 obtain ⟨hq1,hq2⟩:=aT.2 0 (q1,q2) (ln0,an) rfl rfl
 obtain rfl :q1=ln0:=hq1
 obtain ⟨cF,c0,rfl⟩:=hq2.slice
 have hCr0:=(aM aS).2
 have hcr:=(aM aS).1
 have b5:∀ q∈(q1,an)::rest,q.2.length≤70000∧∀ x∈q.2,x.length≤70000:=fun q A=>by
  have h:=qP (show q∈bf t by rw [hrw]; exact A)
  exact ⟨by omega,fun x ea=>by have :=(h.2.2.2.2 x ea).2; omega⟩
 have hm0:=b5 _ (List.mem_cons_self ..)
 simp only [List.length_cons] at hvl hrl hcr
 refine az (tn (cB _ _ (U (fun _ aU=>(p mv (p (aJ nb rfl rfl (by rw [hrw]; simp only [List.length_cons]; omega) (aw.ok (hCr0) (ir (by simp)))) (p (dm pf rfl (rfl) (iu (i:=0) hCr0 rfl)) (e (cl DO (FN q1 an bv.heap.size cF c0 w31 hq2 hm0.2 hm0.1) rfl fun eD w45 dq=> ?_)))))))))
 obtain ⟨rfl,hE45⟩:=dq
 have hz45:=hE45.size
 refine p mv (p (xt rfl rfl) (p (xt rfl rfl) (p ak (aj (((aU _ _ (sq (fun _ ch=> ?_)))))))))
 refine U (fun _ ci=>(p mv (p (bH rfl rfl) (au ((ci _ _ (cd rfl (fun b2=> ?_) (fun b2=> ?_))))))))
 obtain ⟨em,dQ,bp⟩:=sA (F:=F) ax hrw b2
 refine U (fun _ aW=>(p mv (p (aJ nb rfl rfl (by rw [hrw]; simp only [List.length_cons]; omega) (aw.ok (hCr0.wk hE45) (ir (by simp)))) (p (fa qf rfl) (p (ld bU rfl (iu (i:=0) (hCr0.wk hE45) rfl 0 (by decide))) (p mv (e (cl mr (mz (q1:Nat) (g4 an).2 w45) rfl fun eE w55 dr=> ?_))))))))
 obtain ⟨rfl,bc⟩:=dr
 have hz55:=bc.size
 refine p ak (e (bY fR rfl rfl rfl rfl (Wk.B (hE45.trans bc) hb5x) (by simp) fun eL da cI=>au ((aW _ _ (rt (tr (dP rfl dF (c8 (cs:= [.int .i64 2,ae q1,.int .i64 (g4 an).2]) rfl gY rfl (fun j ab=>cI.cW j)) ?_)))))))
 have h:=iT.no bp ((hE31x.trans (hE45.trans bc)).trans' da (fun q A h=>by omega))
 show iT F t w (.tuple #[.pointer none,.agg [.int .i64 2,ae q1,.int .i64 (g4 an).2].toArray]) _
 rw [dQ]
 exact h
 obtain ⟨n,hn0,ev,bp⟩:=x8 (F:=F) ax hrw (show (g4 an).2=0 by omega)
 have hFB:=bN.wk (hE31x.trans hE45)
 obtain ⟨seen,bK⟩:=c2
 have hbl:=bK.len
 refine az (tn (ch _ _ (U (fun _ aW=>(e (oA fun J w56 er bm cT=> ?_))))))
 have hz56:=bm.size
 refine p (bV (ps:= [(1,.map (some J))]) (L:= [.slice none 0 0,.map (some J)]) KZ rfl (rfl)) (e (nV rfl fun C w58 es aP cU=> ?_))
 have hz58:=aP.size
 have hE58:=hE45.trans (bm.md.trans aP.md)
 refine aj (((aW _ _ (U (fun _ ck=>(ag (aI fb) (e (cl DP (Cu B fb mc F V w58 (hFB.wk (bm.md.trans aP.md)) (by omega) hnx) rfl fun eF w60 ds=> ?_))))))))
 obtain ⟨⟨eg,rfl,_⟩,hE60⟩:=ds
 have hz60:=hE60.size
 refine p (Gy GV vJ rfl rfl) (e (al Mi fun a2 w12 hb12 aL hB12=> ?_))
 have hz12:=aL.size
 refine e (bY Fz rfl rfl rfl rfl (hB12) (by simp) fun wt13_4 aF cJ=> ?_)
 have c4:Wk w31 wt13_4:=(hE58.trans (hE60.trans aL.md)).trans' aF (fun q A h=>by omega)
 have hz13:=aF.size
 have dI:wt13_4.heap[C]? =some (.cells [.slice none 0 0,.map (some J)].toArray 108 (0,0)):=aF.aA (Wk.aA (hE60.trans aL.md) cU) (fun h=>by omega)
 have dS:bP wt13_4.heap J fJ (fun _=>none):=bP.md (bP.wk (bP.nil cT) (aP.md.trans (hE60.trans aL.md))) aF (fun h=>by omega)
 have dA:jn wt13_4 wt13_4.heap.size C J (.slice none 0 0) [] []:=⟨dI,World.ownsRow_nil _ _ _ _,cX.nil _ _ _,⟨_,dS,⟨fun s=>World.ownsRow_nil _ _ _ _,fun s _=>rfl⟩⟩⟩
 have dD:bE wt13_4.heap a2 [aO (F.sp.getD 0 0),aO (F.sp.getD 1 0),aO (F.sp.getD 2 0),aO (F.sp.getD 3 0),aO (F.sp.getD 4 0)]:=cJ
 have bL:aw w31.heap (ed bw aB 1 2) (gK rvs'):=by
  have h:=hCr0.drop (cap:=aB) (k:=1) (size:=2) (by rw [AZ]; simp only [List.length_cons]; omega)
  exact h
 have dC:fi F ((a7 t).length+1) (eN F t) [] (n - 0) (rest.drop 0):=by rw [bp]; exact fi.start
 refine au ((ck _ _ (sq (fun _ cm=>U (fun _ cn=>(p mv (p (oP nb rfl rfl (by rw [hrw]; simp only [List.length_cons]; omega)) (p (bg rk rfl rfl) ?_))))))))
 refine p mv (au ((cn _ _ (aA (lp (fun bD O wI=> ∃ (i:Nat) (xs:List c9) (vs:List Value) (ac:Value),(i≤rest.length∧i≤n)∧(xs.length=i)∧(fi F ((a7 t).length+1) (eN F t) xs (n - i) (rest.drop i))∧(jn wI wt13_4.heap.size C J ac vs xs)∧(Wk w31 wI)∧(bE wI.heap a2 [aO (F.sp.getD 0 0),aO (F.sp.getD 1 0),aO (F.sp.getD 2 0),aO (F.sp.getD 3 0),aO (F.sp.getD 4 0)])∧(wt13_4.heap.size≤wI.heap.size)∧(O 0=aI fb)∧(O 5=aI a6)∧(O 6= .slice cc (a7 t).length bB)∧(O 10=ae n)∧(O 11=aI C)∧(O 12=aI a2)∧(O 63= .slice (ed bw aB 1 2) rest.length (aB - 1))∧(O 64=ae (rest.length))∧(O 65=ae i)∧(rest.length - i=bD)) _ ⟨0,[],[],.slice none 0 0,(by omega),rfl,dC,dA,c4,dD,(Nat.le_refl _),rfl,rfl,rfl,(by first | rfl | (rw [← hn0]; rfl)),rfl,rfl,(by first | rfl | (rw [hrw]; rfl)),(by first | rfl | (rw [hrw]; rfl)),rfl,rfl⟩ ?_)))))
 rintro bD O wI ⟨i,xs,vs,ac,hi,hxl,Y,aq,I,bW,ew,d1,d5,d6,d2,d3,d4,d7,d8,d9,rfl⟩
 refine fx 0 d1 (fx 5 d5 (fx 6 d6 (fx 10 d2 (fx 11 d3 (fx 12 d4 (fx 63 d7 (fx 64 d8 (fx 65 d9 (U (fun _ co=>(p (lt rfl rfl) (au ((co _ _ (sq (fun _ cp=>cd rfl (fun dK=> ?_) (fun dK=> ?_)))))))))))))))))
 refine az (tn (cp _ _ (sq (fun _ aX=>aA (sq (fun _ aY=> ?_))))))
 obtain ⟨⟨ln,r⟩,hri⟩:∃ q,rest[i]? =some q:=⟨_,List.getElem?_eq_getElem (by omega)⟩
 have dO:rest.drop i=(ln,r)::rest.drop (i+1):=by rw [List.drop_eq_getElem_cons (by omega)]; rw [List.getElem?_eq_getElem (by omega)] at hri; rw [Option.some.inj hri]
 obtain ⟨p,cb⟩:∃ p,rvs'[i]? =some p:=⟨_,List.getElem?_eq_getElem (by omega)⟩
 obtain ⟨cG,bT⟩:=aT.2 (i+1) p (ln,r) cb hri
 obtain ⟨ln0x,ex⟩:=p
 obtain rfl :ln=ln0x:=cG.symm
 obtain ⟨a,c,rfl⟩:=bT.slice
 have hmr:=b5 (ln,r) (List.mem_cons_of_mem _ (List.mem_of_getElem? hri))
 rw [dO] at Y
 refine rg rfl (ag (ae i) (p (aJ nb rfl rfl (by omega) (aw.ok (bL.wk I) (ir (by omega)))) (p (dm pf rfl (rfl) (iu (bL.wk I) cb)) (e (al B4 fun bx w14 hb14 bl cK=> ?_)))))
 have hz14:=bl.size
 refine p (bJ (ae i) rfl) (e (bY xN rfl rfl rfl rfl (cK) (by simp) fun wt16_5 bk cL=> ?_))
 have aD:Wk w31 wt16_5:=(I.trans bl.md).trans' bk (fun q A h=>by omega)
 have bM:Wk wI wt16_5:=bl.md.trans' bk (fun q A h=>by omega)
 have hb14:bE wt16_5.heap bx [ae ln,.slice a r.length c]:=cL
 have hz16:=bk.size
 refine au ((aY _ _ (sq (fun _ ar=>U (fun _ cr=>(ag (ae i) (ag (ae n) (p (bd rfl rfl) ?_))))))))
 refine au ((cr _ _ (cd rfl (fun dL=> ?_) (fun dL=> ?_))))
 refine U (fun _ aZ=>(p (fa qf rfl) (p (ld bU rfl ((hb14.aE 0).trans rfl)) (e (cl mr (mz (ln:Nat) 116 wt16_5) rfl fun eG eJ dt=> ?_)))))
 obtain ⟨rfl,bh⟩:=dt
 have hz75:=bh.size
 refine p ak (e (bY fR rfl rfl rfl rfl (Wk.B (aD.trans bh) hb5x) (by simp) fun eM db cM=>au ((aZ _ _ (rt (tr (br (tr ?_))))))))
 refine tr (br (tr (dP rfl dF (c8 (cs:= [.int .i64 2,ae ln,.int .i64 116]) rfl gY rfl (fun j ab=>cM.cW j)) ?_)))
 rw [show n - i=0 by omega] at Y
 exact iT.no Y.more ((hE31x.trans (aD.trans bh)).trans' db (fun q A h=>by omega))
 refine az (tn (ar _ _ (U (fun _ aZ=>(ag (aI fb) (p (dm vJ rfl (rfl) (fun j ab=>(Wk.B bM bW).cW j)) (p (dm pf rfl (rfl) (fun j ab=>hb14.cW j)) (e (cl DQ (FK B fb mc F V ln r bv.heap.size a c wt16_5 (bN.wk (hE31x.trans aD)) ⟨seen,bK⟩ (bT.wk aD) hmr.2 hmr.1) rfl fun ec ee du=> ?_)))))))))
 obtain ⟨c6,bi⟩:=du
 obtain ⟨dZ,av,bC,rfl,ca,b4⟩:∃ (u:Tx) (a:Value) (e:Nat),ec= .tuple #[.agg [str u,a].toArray,ae e]∧a.oneCell'=true∧((e=0∧∃ l,ep F r= .ok (u,l)∧World.ownsRow ee wt16_5.heap.size 71 1 a l.length (l.map aO))∨(e≠0∧ep F r= .error e)):=by
  rcases c6 with ⟨x,a,h1,h2,h3⟩ | ⟨e,h1,h2,h3⟩
  exact ⟨x.1,a,0,h2,dU h3,.inl ⟨rfl,x.2,h1,h3⟩⟩
  exact ⟨_,_,e,h3,rfl,.inr ⟨h2,h1⟩⟩
 have hz80:=bi.size
 refine p mv (p (xt rfl rfl) (p (xt rfl rfl) (e (fQ B7 fun a3 w15 eo aN bF=> ?_))))
 have hz15:=aN.size
 refine e (gd ki rfl rfl rfl (rh ca) bF (by decide) fun w19 aK cN=> ?_)
 have ao:Wk wI w19:=(bM.trans (bi.trans aN.md)).trans' aK (fun q A h=>by omega)
 have bZ:w19.heap[a3]? =some (.cells [str dZ,av].toArray 56 (0,0)):=cN
 have hz19:=aK.size
 have dE:bE w19.heap bx [ae ln,.slice a r.length c]:=aK.B (Wk.B (bi.trans aN.md) hb14) (fun h=>by omega)
 refine aj (((aZ _ _ (sq (fun _ ct=>U (fun _ cu=>(p mv (p (bH rfl rfl) ?_))))))))
 refine au ((cu _ _ (cd rfl (fun dN=> ?_) (fun dN=> ?_))))
 obtain ⟨hne,hex⟩:=b4.resolve_left (fun h=>by omega)
 refine U (fun _ a0=>(p (fa qf rfl) (p (ld bU rfl ((dE.aE 0).trans rfl)) (p mv (e (cl mr (mz (ln:Nat) (bC:Nat) w19) rfl fun eH eK dv=> ?_))))))
 obtain ⟨rfl,bj⟩:=dv
 have hz88:=bj.size
 refine p ak (e (bY fR rfl rfl rfl rfl (Wk.B (I.trans (ao.trans bj)) hb5x) (by simp) fun eO dc cO=>au ((a0 _ _ (rt (tr (br (tr ?_))))))))
 exact tr (br (tr (dP rfl dF (c8 (cs:= [.int .i64 2,ae ln,ae bC]) rfl gY rfl (fun j ab=>cO.cW j)) (iT.no (Y.bad (by omega) hex) ((hE31x.trans (I.trans (ao.trans bj))).trans' dc (fun q A h=>by omega))))))
 obtain ⟨_,am,hex,dY⟩:=b4.resolve_right (fun h=>by omega)
 have hW19:=aq.wk ao
 have dV:¬(ac.ownBlock=some C):=cw hW19.own hW19.cells (by decide)
 have dT:¬(ac.ownBlock=some a3):=fun h=>by have :=(c7 aq.own h).2; omega
 have hzw:=ao.size
 refine az (tn (ct _ _ (sq (fun _ a0=> ?_))))
 have ai:(fun w'=>Md (fun q=>ac.ownBlock=some q) w19 w') w19.drew:=(Md.refl _ _).drew
 refine dH (fun w'=>Md (fun q=>ac.ownBlock=some q) w19 w') 10 rfl wide ai (a4 0 rfl (aI C) ai (a4 1 rfl (aI C) ai (a5 2 rfl (fun _=>nc rfl) (fun _=>ai) (a5 3 rfl (fun _=>fa og rfl) (fun _=>ai) (cQ 4 rfl (fun w' G=>ld pj rfl (Md.aE G ((aR hW19.cells).trans rfl) dV)) ai (cQ 5 rfl (fun w' G=>dm ke rfl (rfl) (fun j ab=>bE.cW ⟨_,Md.aA G bZ dT⟩ j)) ai (fC 6 rfl (by kernel_rfl) (ic qX rfl rfl rfl fun el w95 et dh c1=> ?_))))))))
 have hE95:=e8 dh.md
 have hW95:=hW19.wk hE95
 have hz95:=hE95.size
 have bR:(fun w'=>Md (fun q=>ac.ownBlock=some q) w19 w') w95:=Md.mono hE95 (fun _ _ h=>h.elim)
 refine ⟨bR,?_⟩
 refine fC 7 rfl (by kernel_rfl) (ap qX (hW95.own) rfl (by omega) rfl (aw.cV c1) (rfl) (rh ca) (by omega) (by omega) fun ay w96 b8 M hz96 eu=> ?_)
 obtain ⟨f,hf,dR⟩:=hW95.mp
 have hc96:=M.aA hW95.cells (cw hW95.own hW95.cells (by decide))
 have b9:World.ownsRow w96 wt13_4.heap.size 56 2 ay (xs++ [(dZ,am)]).length (gE ((xs++ [(dZ,am)]).zip (vs++ [av]))):=by
  have hl:xs.length=vs.length:=by have :=hW95.fl.1; rw [List.length_map] at this; omega
  rw [List.zip_append hl,List.zip_cons_cons,List.zip_nil_right,yj,List.length_append]; exact b8
 have hz96:=M.size
 have hb12q:=M.B (Wk.B (ao.trans hE95) bW) (fun h=>by have :=(c7 hW95.own h).1; omega)
 have hb15q:=M.aA (Wk.aA hE95 bZ) (fun h=>by have :=(c7 aq.own h).2; omega)
 have hE96:Wk w31 w96:=(I.trans (ao.trans hE95)).trans' M (fun q A h=>by have :=(c7 hW95.own h).1; omega)
 have bo:(fun w'=>Md (fun q=>ac.ownBlock=some q) w19 w') w96:=bR.trans' M (fun _ _ h=>h)
 refine ⟨bo,?_⟩
 refine a5 8 rfl (fun _=>nc rfl) (fun _=>bo) (a5 9 rfl (fun _=>fa og rfl) (fun _=>bo) (cE 10 rfl (by kernel_rfl) (by kernel_rfl) (cj Fy rfl rfl (v:=ay) (dU b8) hc96 (by show _ < 2; omega) fun w10 Z hB10=> ?_)))
 have hc10:w10.heap[C]? =some (.cells [ay,.map (some J)].toArray 108 (0,0)):=hB10
 have hz10:=Z.size
 have c3:Wk w31 w10:=hE96.trans' Z (fun q A h=>by omega)
 have hb12r:=Z.B hb12q (fun h=>by omega)
 have hb15r:=Z.aA hb15q (fun h=>by omega)
 have ho10x:=bX b9 Z (fun q A h=>cw b9 hc96 (by decide) (h ▸ A))
 have dx:Tg w10 wt13_4.heap.size 71 am.length av (am.map aO):=((((((Tg.fZ dY).mono (by omega)).wk aN.md).md aK (dM bF (by decide))).wk hE95).md M (eR hW95.own (by decide))).md Z (dM hc96 (by decide))
 have hfl10:=(((hW95.fl.md M (eR hW95.own (by decide))).md Z (dM hc96 (by decide))).snoc dx)
 have hf10:=(hf.md M (fun h=>mI hW95.own h (fun cur z=>hf.k6))).md Z (fun h=>by omega)
 have hfm10:=(dR.md M (eR hW95.own (by decide))).md Z (dM hc96 (by decide))
 have bt:¬(((f (str dZ)).getD (Value.slice none 0 0)).ownBlock=some C):=cw (hfm10.own dZ) hc10 (by decide)
 have b6:¬(((f (str dZ)).getD (Value.slice none 0 0)).ownBlock=some a3):=cw (hfm10.own dZ) hb15r (by decide)
 have b7:¬(((f (str dZ)).getD (Value.slice none 0 0)).ownBlock=some J):=fun h=>mI (hfm10.own dZ) h (fun cur z=>hf10.k6)
 refine dG (by kernel_rfl) ?_
 refine tn (a0 _ _ ?_)
 have E:(fun w'=>Md (fun q=>((f (str dZ)).getD (Value.slice none 0 0)).ownBlock=some q) w10 w') w10.drew:=(Md.refl _ _).drew
 refine dH (fun w'=>Md (fun q=>((f (str dZ)).getD (Value.slice none 0 0)).ownBlock=some q) w10 w') 16 rfl wide E (lq 0 rfl (by kernel_rfl) (fun _ _=>aC (aI C) rfl) E (lq 1 rfl (by kernel_rfl) (fun _ _=>nc rfl) E (lq 2 rfl (by kernel_rfl) (fun _ _=>fa yW rfl) E (lq 3 rfl (by kernel_rfl) (fun w' G=>ld vG rfl (Md.aE G ((aR hc10).trans rfl) bt)) E (lq 4 rfl (by kernel_rfl) (fun _ _=>fa oo rfl) E (lq 5 rfl (by kernel_rfl) (fun w' G=>ld bz rfl (Md.aE G ((aR hb15r).trans rfl) b6)) E (lq 6 rfl (by kernel_rfl) (fun _ _=>aC (aI C) rfl) E ?_)))))))
 refine lq 7 rfl (by kernel_rfl) (fun _ _=>nc rfl) E (lq 8 rfl (by kernel_rfl) (fun _ _=>fa yW rfl) E (lq 9 rfl (by kernel_rfl) (fun w' G=>ld vG rfl (Md.aE G ((aR hc10).trans rfl) bt)) E (lq 10 rfl (by kernel_rfl) (fun _ _=>fa oo rfl) E (lq 11 rfl (by kernel_rfl) (fun w' G=>ld bz rfl (Md.aE G ((aR hb15r).trans rfl) b6)) E (lq 12 rfl (by kernel_rfl) (fun w' G=>kr BE Mo fA (bP.md (hf10) G b7) rfl rfl (⟨_,rfl⟩) (rfl)) E (lq 13 rfl (by kernel_rfl) (fun _ _=>aC (ae i) rfl) E (fC 14 rfl (by kernel_rfl) (ef l6 rfl rfl fun ek w113 en dg cH=> ?_))))))))
 have hE113:=e8 dg.md
 have hfm113:=hfm10.md hE113 (fun _ hk=>hk.elim)
 have hz113:=hE113.size
 have bS:(fun w'=>Md (fun q=>((f (str dZ)).getD (Value.slice none 0 0)).ownBlock=some q) w10 w') w113:=Md.mono hE113 (fun _ _ h=>h.elim)
 refine ⟨bS,?_⟩
 refine fC 15 rfl (by kernel_rfl) (ap l6 (hfm113.own dZ) rfl (by omega) rfl (aw.cV cH) (rfl) (rfl) (by have :=zH dZ xs; omega) (by have :=zH dZ xs; omega) fun eb w114 dX aa hz114 hf114=> ?_)
 have hz114:=aa.size
 have hf114:=(hf10.wk hE113).md aa b7
 have d0:World.ownsRow w114 wt13_4.heap.size 3 1 eb (idxs dZ xs++ [xs.length]).length ((idxs dZ xs++ [xs.length]).map bA):=by
  rw [List.length_append,List.map_append,hxl]; exact dX
 have dw:(fun w'=>Md (fun q=>((f (str dZ)).getD (Value.slice none 0 0)).ownBlock=some q) w10 w') w114:=bS.trans' aa (fun _ _ h=>h)
 refine ⟨dw,?_⟩
 refine cE 16 rfl (by kernel_rfl) (by kernel_rfl) (nH BE fA (hf114) rfl rfl rfl (⟨_,rfl⟩) fun wm23_16 ah di=> ?_)
 have hput:=j9.put (x:=(dZ,am)) hfm113 aa d0 (fun cur z=>hf114.k6) ah
 have hc23:=ah.aA (aa.aA (Wk.aA hE113 hc10) bt) (fun h=>by omega)
 have ho114y:=bX (aG ho10x hE113) aa (fun q A=>jg (aG ho10x hE113) (hfm113.own dZ) (by decide) A)
 have ho23:=bX ho114y ah (fun q A h=>mI ho114y A (fun cur z=>h ▸ hf114.k6))
 have hfl23:=((hfl10.wk hE113).md aa (eR (hfm113.own dZ) (by decide))).md ah (fun k hk cur z h=>hf114.k6 (hk ▸ h))
 have dB:jn wm23_16 wt13_4.heap.size C J ay (vs++ [av]) (xs++ [(dZ,am)]):=⟨hc23,ho23,by rw [List.map_append]; exact hfl23,⟨_,di,hput⟩⟩
 have c5:Wk w31 wm23_16:=((c3.trans hE113).trans' aa (fun q A h=>by have :=(c7 (hfm113.own dZ) h).1; omega)).trans' ah (fun q A h=>by omega)
 have hb12s:=ah.B (aa.B (Wk.B hE113 hb12r) (fun h=>by have :=(c7 (hfm113.own dZ) h).1; omega)) (fun h=>by omega)
 have hz23:=ah.size
 refine dG (by kernel_rfl) ?_
 exact bn (tn (aX _ _ (rg rfl (p (ad rfl rfl (bu (by omega))) (p mv (au ((⟨_,by omega,i+1,xs++ [(dZ,am)],vs++ [av],ay,(by omega),((by rw [List.length_append,hxl]; rfl)),((by rw [show n - (i+1)=n - i - 1 by omega]; exact Y.step (by omega) hex)),dB,c5,hb12s,((by omega)),rfl,rfl,rfl,(by first | rfl | (rw [← hn0]; rfl)),rfl,rfl,(by first | rfl | (rw [hrw]; rfl)),(by first | rfl | (rw [hrw]; rfl)),rfl,rfl⟩))))))))
 refine ext (te _ (te _ (be (tn (cm _ _ (sq (fun _ aX=>sq (fun _ aY=> ?_))))))))
 obtain ⟨ej,cv,rfl⟩:=b0 aq.own
 refine rg rfl (ag (aI C) (p (nc rfl) (p (fa og rfl) (p (ld pj rfl ((aR aq.cells).trans rfl)) (p (bg mM rfl rfl) (ag (ae n) (p (lt rfl rfl) ?_)))))))
 refine au ((aY _ _ (cd rfl (fun dJ=> ?_) (fun dJ=> ?_))))
 refine U (fun _ ar=>(ag (.slice cc (a7 t).length bB) (p (bg dy rfl rfl) (p (ba (((a7 t).length+1:Nat):Int) rfl rfl (aQ (by omega) (by omega))) (e (cl mr (mz ((a7 t).length+1:Nat) 116 wI) rfl fun ey eI dj=> ?_))))))
 obtain ⟨rfl,a8⟩:=dj
 have hz126:=a8.size
 refine p ak (e (bY fR rfl rfl rfl rfl (Wk.B (I.trans a8) hb5x) (by simp) fun eP dd cP=>au ((ar _ _ (rt (tr (dP rfl dF (c8 (cs:= [.int .i64 2,ae ((a7 t).length+1),.int .i64 116]) rfl gY rfl (fun j ab=>cP.cW j)) ?_)))))))
 rw [List.drop_eq_nil_of_le (by omega)] at Y
 exact iT.no (Y.ends (by omega)) ((hE31x.trans (I.trans a8)).trans' dd (fun q A h=>by omega))
 refine az (tn (aX _ _ (U (fun _ ar=>(ag (aI C) (p (bV (ps:= []) (L:= [.int .i64 0,.int .i64 0,.int .i64 0]) lf rfl (rfl)) (p (bJ (aI C) rfl) (e (bY fR rfl rfl rfl rfl (Wk.B I hb5x) (by simp) fun eQ bO cS=> ?_)))))))))
 refine au ((ar _ _ (rt (dP rfl dF (c8 (cs:= [.int .i64 0,.int .i64 0,.int .i64 0]) rfl gY rfl (fun j ab=>cS.cW j)) ?_))))
 rw [List.drop_eq_nil_of_le (by omega),show n - i=0 by omega] at Y
 have hX:=Y.done
 have dz:TF wI [27] (fun q=>q=a6):=TF.eq (cR (Wk.aA (hE22.trans (hE31.trans I)) bI)) (by decide)
 unfold iT
 rw [hX]
 exact ⟨⟨wt13_4.heap.size,C,J,_,vs,by omega,rfl,aq.md bO dz (by decide) (fun h=>by omega),by omega,by omega⟩,(hE31x.trans I).trans' bO (fun q A h=>by omega)⟩
end Go.Hb.mT
end
section
set_option maxRecDepth 20000
set_option maxHeartbeats 1000000
namespace Go.Hb.nO
open Go.Hb.du
open Go.Proofs
open Go.Hb.ff Go.Hb.fM Go.Hb.fV Go.Hb.kH Go.Hb.hY Go.Hb.h8 Go.Hb.kM Go.Hb.mg Go.Hb.mT
theorem Mb {α:Type} {f:α×Value→List Value} {m c i:Nat} (hf:∀ q,(f q).length=m) (hc:c < m) (hs:∀ a u v,(f (a,u)).set c v=f (a,v)) {rs:List α} {vs:List Value} {v:Value} (hi:i < rs.length) (hv:i < vs.length):((rs.zip vs).flatMap f).set (i*m+c) v=(rs.zip (vs.set i v)).flatMap f:=by
 obtain ⟨r,hr⟩:∃ r,rs[i]? =some r:=⟨_,List.getElem?_eq_getElem hi⟩
 obtain ⟨u,hu⟩:∃ u,vs[i]? =some u:=⟨_,List.getElem?_eq_getElem hv⟩
 have hz:(rs.zip vs)[i]? =some (r,u):=List.getElem?_zip_eq_some.2 ⟨hr,hu⟩
 have hz2:rs.zip (vs.set i v)=(rs.zip vs).set i (r,v):=by
  apply List.ext_getElem?
  intro j
  rw [List.getElem?_set]
  by_cases p:i=j
  · subst p
    rw [if_pos rfl,if_pos (List.getElem?_eq_some_iff.1 hz).1]
    exact List.getElem?_zip_eq_some.2 ⟨hr,by simp [hv]⟩
  · rw [if_neg p]
    cases h1:(rs.zip vs)[j]? with
    | none=>
      rw [List.getElem?_eq_none_iff,List.length_zip] at h1 ⊢
      rw [List.length_set]; exact h1
    | some q=>
      have h2:=List.getElem?_zip_eq_some.1 h1
      exact List.getElem?_zip_eq_some.2 ⟨h2.1,by rw [List.getElem?_set,if_neg p]; exact h2.2⟩
 have hl:(rs.zip vs).length=min rs.length vs.length:=List.length_zip
 have hcl:((rs.zip vs).flatMap f).length=(rs.zip vs).length*m:=kp hf _
 have hle:i*m+m≤(rs.zip vs).length*m:=by rw [← Nat.succ_mul]; exact Nat.mul_le_mul_right _ (by omega)
 rw [hz2,yT hf _ (by omega)]
 apply List.ext_getElem?
 intro j
 have hg:=fun c hc=>sU hf (c:=c) hz hc
 have htl:(((rs.zip vs).flatMap f).take (i*m)).length=i*m:=by rw [List.length_take,hcl]; omega
 rw [List.getElem?_set]
 by_cases h1:j < i*m
 · rw [if_neg (by omega),List.append_assoc,List.getElem?_append_left (by omega),List.getElem?_take,if_pos h1]
 · rw [List.append_assoc,List.getElem?_append_right (by omega),htl]
   by_cases h2:j < i*m+m
   · rw [List.getElem?_append_left (by rw [hf]; omega)]
     obtain ⟨d,rfl⟩:∃ d,j=i*m+d:=⟨j - i*m,by omega⟩
     rw [hg d (by omega),show i*m+d - i*m=d by omega,← hs r u v,List.getElem?_set]
     by_cases h3:c=d
     · subst h3; rw [if_pos rfl,if_pos rfl,if_pos (by rw [hcl]; omega),if_pos (by rw [hf]; exact hc)]
     · rw [if_neg (by omega),if_neg h3]
   · rw [if_neg (by omega),List.getElem?_append_right (by rw [hf]; omega),hf,List.getElem?_drop]
     congr 1; omega
theorem F1 {xs:List c9} {vs:List Value} {i:Nat} {v:Value} (hi:i < xs.length) (hv:i < vs.length):(gE (xs.zip vs)).set (i*2 +1) v=gE (xs.zip (vs.set i v)):=Mb (f:=iJ) (m:=2) (c:=1) (fun _=>rfl) (by decide) (fun _ _ _=>rfl) hi hv
theorem km {l:List (c9×Value)} {i:Nat} {q:c9×Value} (h:l[i]? =some q):gE l≠[]:=fun h2=>by
 have h3:=FX l
 have h4:=(List.getElem?_eq_some_iff.1 h).1
 rw [h2] at h3
 have h5:0=l.length*2:=h3
 omega
theorem FZ {w:World} {B e:Nat} {xs:List c9} {vs:List Value} {ls:List (List Nat)} (h:cX w B e vs ls):(gE (xs.zip vs)).all Value.oneCell'=true :=by
 rw [List.all_eq_true]
 intro v hv
 obtain ⟨q,a,hv⟩:=List.mem_flatMap.1 hv
 have h1:=List.all_eq_true.1 (rK h) q.2 (List.of_mem_zip a).2
 simp only [iJ,List.mem_cons,List.not_mem_nil,or_false] at hv
 rcases hv with rfl | rfl
 · rfl
 · exact h1
def kJ (w:World) (B:Nat) (vs:List Value) (ls:List (List Nat)):Prop :=vs.length=ls.length∧∀ (i:Nat) v l,vs[i]? =some v→ls[i]? =some l→World.ownsRow w B 71 1 v l.length (l.map aO)
theorem kJ.t {w:World} {B:Nat} {vs:List Value} {ls:List (List Nat)} (h:kJ w B vs ls):cX w B 71 vs ls:=⟨h.1,fun i v l h1 h2=>Tg.fZ (h.2 i v l h1 h2)⟩
theorem vQ {G:Nat→Prop} {w w':World} {B:Nat} {vs:List Value} {ls:List (List Nat)} (h:kJ w B vs ls) (hm:Md G w w') (a:∀ k,G k→∀ cur z,w.heap[k]?≠some (.cells cur 71 z)):kJ w' B vs ls:=⟨h.1,fun i v l h1 h2=>bX (h.2 i v l h1 h2) hm (fun k hk hg=>mI (h.2 i v l h1 h2) hk (a k hg))⟩
theorem CC (w:World) (B:Nat):kJ w B [] []:=⟨rfl,fun i v l hv=>by simp at hv⟩
theorem CB {w:World} {B i:Nat} {vs:List Value} {ls:List (List Nat)} {v:Value} (h:kJ w B (vs.take i) (ls.take i)) (hi:i < ls.length) (hv:i < vs.length) (q:World.ownsRow w B 71 1 v (ls.getD i []).length ((ls.getD i []).map aO)):kJ w B ((vs.set i v).take (i+1)) (ls.take (i+1)):=by
 refine ⟨by simp; have :=h.1; simp at this; omega,fun j u l h1 h2=> ?_⟩
 rw [List.getElem?_take] at h1 h2
 by_cases a:j < i+1
 · rw [if_pos a] at h1 h2
   rw [List.getElem?_set] at h1
   by_cases p:i=j
   · subst p
     rw [if_pos rfl,if_pos hv] at h1
     cases h1
     rw [show ls.getD i []=l by rw [List.getD_eq_getElem?_getD,h2]; rfl] at q
     exact q
   · rw [if_neg p] at h1
     exact h.2 j u l (by rw [List.getElem?_take,if_pos (by omega)]; exact h1) (by rw [List.getElem?_take,if_pos (by omega)]; exact h2)
 · rw [if_neg a] at h1; cases h1
theorem yc (B i E:Nat) (G:Value) (vs:List Value) (xs:List c9) (w:World) (j:jn w B i E G vs xs) (I:xs.length≤70000):
 aV Tryz.prog 17 (List.toArray [aI i]) w (fun v w'=>v=ae (xs.length)∧Wk w w'):=by
 obtain ⟨a,c,rfl⟩:=b0 j.own
 refine enter Tryz.func17 rfl Tryz.ntmps17 rfl ?_
 refine U (fun _ q=>(aj (((q _ _ (sq (fun _ s=>U (fun _ A=> ?_))))))))
 refine ag (aI i) (p (iK nE rfl rfl) (au ((A _ _ (cf (rfl) (az (tn (s _ _ (sq (fun _ C=> ?_))))))))))
 refine rg rfl (ag (aI i) (p (nc rfl) (p (fa og rfl) (p (ld pj rfl ((aR j.cells).trans rfl)) (p (bg mM rfl rfl) (p ak (nl ?_)))))))
 exact tn (C _ _ (rt (f1 rfl rfl (⟨rfl,Md.refl _ _⟩))))
theorem x7 (B E aK:Nat) (ah:Value) (vs:List Value) (xs:List c9) (w:World) (A:jn w B E aK ah vs xs) (aN:xs.length≤70000) (hl:∀ x∈xs,x.2.length≤64):
 aV Tryz.prog 16 (List.toArray [aI E]) w (fun v w'=>(∃ vs,World.ownsRow w' w.heap.size 56 2 v xs.length (gE (xs.zip vs))∧cX w' w.heap.size 71 vs (xs.map (·.2))∧kJ w' w.heap.size vs (xs.map (·.2)))∧Wk w w'):=by
 refine enter Tryz.func16 rfl Tryz.ntmps16 rfl ?_
 refine U (fun _ ai=>(aj (((ai _ _ (sq (fun _ al=>U (fun _ am=> ?_))))))))
 refine ag (aI E) (p (iK nE rfl rfl) (au ((am _ _ (cf (rfl) (az (tn (al _ _ (sq (fun _ an=> ?_))))))))))
 refine rg rfl (ag (aI E) (p (nc rfl) (p (fa og rfl) (p (ld pj rfl ((aR A.cells).trans rfl)) (e (cl DV (EB ah xs.length (gE (xs.zip vs)) w (Rd.fZ A.own) (FZ A.fl) (by omega)) rfl fun v11 w11 hR11=> ?_))))))
 obtain ⟨ho11,av⟩:=hR11
 obtain ⟨s,gj,rfl⟩:=b0 ho11
 have hsl:vs.length=xs.length:=by have :=A.fl.1; rwa [List.length_map] at this
 refine aj (((an _ _ (sq (fun _ ao=>U (fun _ ap=>(p mv (p (bg mM rfl rfl) ?_))))))))
 refine p mv (au ((ap _ _ (aA (lp (fun aa G wI=> ∃ (i:Nat) (sa:List Value),(i≤xs.length)∧(sa.length=xs.length)∧(sa.drop i=vs.drop i)∧(kJ wI w.heap.size (sa.take i) ((xs.map (·.2)).take i))∧(World.ownsRow wI w.heap.size 56 2 (.slice s xs.length gj) xs.length (gE (xs.zip sa)))∧(Wk w wI)∧(G 3= .slice s xs.length gj)∧(G 13=ae (xs.length))∧(G 14=ae i)∧(xs.length - i=aa)) _ ⟨0,vs,(by omega),hsl,rfl,(CC _ _),ho11,av,rfl,rfl,rfl,rfl⟩ ?_)))))
 rintro aa G wI ⟨i,sa,hi,aE,ac,hal,a,C,aD,aB,aC,rfl⟩
 refine fx 3 aD (fx 13 aB (fx 14 aC (U (fun _ aq=>(p (lt rfl rfl) (au ((aq _ _ (sq (fun _ ar=>cd rfl (fun hc15=> ?_) (fun hc15=> ?_)))))))))))
 refine az (tn (ar _ _ (sq (fun _ I=>aA (sq (fun _ ak=> ?_))))))
 obtain ⟨aP,aF,M⟩:=cX.get (A.wk C).fl (show i < (xs.map (·.2)).length by rw [List.length_map]; omega)
 obtain ⟨Z,ci,rfl⟩:=M.slice
 obtain ⟨x,Y⟩:∃ x,xs[i]? =some x:=⟨_,List.getElem?_eq_getElem (by omega)⟩
 have aH:(xs.map (·.2)).getD i []=x.2:=by rw [List.getD_eq_getElem?_getD,List.getElem?_map,Y]; rfl
 have hxl:=hl x (List.mem_of_getElem? Y)
 rw [← aH] at hxl
 have V:(xs.zip sa)[i]? =some (x,.slice Z ((xs.map (·.2)).getD i []).length ci):=List.getElem?_zip_eq_some.2 ⟨Y,(sG ac).trans aF⟩
 refine rg rfl (ag (ae i) (p (bJ (ae i) rfl) (au ((ak _ _ (rg rfl (ag (.slice s xs.length gj) (ag (ae i) ?_))))))))
 refine ag (.slice s xs.length gj) (ag (ae i) (p (aJ lN rfl rfl (by omega) (aw.ok ((aM a).2) (km V))) (p (fa oq rfl) (p (ld lE rfl (fS (f:=iJ) (m:=2) (fun _=>rfl) (aM a).2 V 1 (by decide))) (e (cl pF (pO Z ((xs.map (·.2)).getD i []).length ci (((xs.map (·.2)).getD i []).map aO) wI M.bF.2 (by simp) (fun h=>Tg.qE M (by simp) h) (pz _) (by omega)) rfl fun aL aQ ax=> ?_))))))
 obtain ⟨O,hE24⟩:=ax
 have hz24:=hE24.size
 refine p (aJ lN rfl rfl (by omega) (aw.ok ((aM (aG a hE24)).2) (km V))) (p (fa oq rfl) (e (nB (j:=i*2 +1) (aG a hE24) pT rfl rfl (dU O) (by rw [Int.toNat_natCast]; omega) (by omega) fun w7 J ab=> ?_)))
 rw [F1 (by omega) (by omega)] at ab
 have hE7:Wk w w7:=Wk.own (C.trans hE24) (aG a hE24) J (by omega)
 have ho24x:=bX (ga O (show w.heap.size≤wI.heap.size from C.size)) J (fun q ay=>jg O (aG a hE24) (by decide) ay)
 have hal7:=vQ (vQ hal hE24 (fun _ hk=>hk.elim)) J (eR (aG a hE24) (by decide))
 refine nl (bn (tn (I _ _ (rg rfl (p (ad rfl rfl (bu (by omega))) (p mv (nl (tn ?_))))))))
 exact ⟨_,by omega,i+1,sa.set i aL,(by omega),((by rw [List.length_set]; exact aE)),(kM.set_drop ac),(CB hal7 (by rw [List.length_map]; omega) (by omega) ho24x),ab,hE7,rfl,rfl,rfl,rfl⟩
 refine ext (te _ (te _ (be (tn (ao _ _ (U (fun _ I=>(ag (.slice s xs.length gj) ?_))))))))
 refine p (bJ (.slice s xs.length gj) rfl) (au ((I _ _ (rt (f1 rfl rfl ?_)))))
 rw [List.take_of_length_le (by omega),List.take_of_length_le (by rw [List.length_map]; omega)] at hal
 exact ⟨⟨sa,a,hal.t,hal⟩,C⟩
end Go.Hb.nO
end
section
set_option maxRecDepth 20000
set_option maxHeartbeats 1000000
namespace Go.Hb.kN
open Go.Proofs
open Go.Hb.ff Go.Hb.fM Go.Hb.iS Go.Hb.fV Go.Hb.iw Go.Hb.jM Go.Hb.kI
def jw (c:bW):List Value:= [bA c.flag,.int .i64 (c.kind:Nat),.bool c.dX,.int .i64 (c.first:Nat),.int .i64 (c.count:Nat)]
def lS (l:List bW):List Value:=l.flatMap jw
def k3 (q:eJ×Value):List Value:= [.int .i64 (q.1.kind:Nat),bA q.1.flag,.bool q.1.dX,str q.1.strip,str q.1.add,str q.1.cond,q.2,.int .i64 (q.1.line:Nat)]
def jx (l:List (eJ×Value)):List Value:=l.flatMap k3
def eV (w:World) (B e:Nat) (vs:List Value) (ls:List (List Nat)):Prop :=vs.length=ls.length∧∀ (i:Nat) v l,vs[i]? =some v→ls[i]? =some l→Tg w B e l.length v (l.map bA)
theorem eV.nil (w:World) (B e:Nat):eV w B e [] []:=⟨rfl,fun i v l hv=>by simp at hv⟩
theorem eV.md {F:Nat→Prop} {w w':World} {B e:Nat} {vs:List Value} {ls:List (List Nat)} (h:eV w B e vs ls) (hm:Md F w w') (hF:∀ k,F k→∀ cur z,w.heap[k]?≠some (.cells cur e z)):eV w' B e vs ls:=⟨h.1,fun i v l h1 h2=>(h.2 i v l h1 h2).md hm hF⟩
theorem eV.wk {w w':World} {B e:Nat} {vs:List Value} {ls:List (List Nat)} (h:eV w B e vs ls) (hm:Wk w w'):eV w' B e vs ls:=h.md hm fun _ hk=>hk.elim
theorem eV.snoc {w:World} {B e:Nat} {vs:List Value} {ls:List (List Nat)} {v:Value} {l:List Nat} (ha:eV w B e vs ls) (a:Tg w B e l.length v (l.map bA)):eV w B e (vs++ [v]) (ls++ [l]):=by
 refine ⟨by rw [List.length_append,List.length_append,ha.1]; rfl,fun i p q h1 h2=> ?_⟩
 have hl:=ha.1
 by_cases hi:i < vs.length
 · rw [List.getElem?_append_left hi] at h1
   rw [List.getElem?_append_left (by omega)] at h2
   exact ha.2 i p q h1 h2
 · rw [List.getElem?_append_right (by omega)] at h1
   rw [List.getElem?_append_right (by omega),← hl] at h2
   cases hj:i - vs.length with
   | zero=>rw [hj] at h1 h2; cases h1; cases h2; exact a
   | succ j=>rw [hj] at h1; simp at h1
theorem eV.get {w:World} {B e i:Nat} {vs:List Value} {ls:List (List Nat)} (h:eV w B e vs ls) (hi:i < ls.length):∃ v,vs[i]? =some v∧Tg w B e (ls.getD i []).length v ((ls.getD i []).map bA):=by
 have h1:i < vs.length:=by rw [h.1]; exact hi
 refine ⟨vs[i],List.getElem?_eq_getElem h1,h.2 i _ _ (List.getElem?_eq_getElem h1) ?_⟩
 rw [List.getD_eq_getElem?_getD,List.getElem?_eq_getElem hi]; rfl
structure ea where
 rb:Nat
 fb:Nat
 eof:Nat
 vr:Value
 vs:List (Nat×Value)
 rows:List Rw
structure fj where
 v9:Value
 v10:Value
 v11:Value
 cC:Value
 sa:List Value
 rn:List Value
def jV (F:aH) (V:fj):List Value:= [.int .i64 (F.kind:Nat),str F.mx,str F.tr,bA (F.sp.getD 0 0),bA (F.sp.getD 1 0),bA (F.sp.getD 2 0),bA (F.sp.getD 3 0),bA (F.sp.getD 4 0),.int .i64 (F.least:Nat),V.v9,V.v10,V.v11,V.cC]
def zm (H:ea) (k:Nat) (vh:Value) (ln:Nat):List Value:= [.pointer (some ⟨H.fb,0,none⟩),H.vr,.int .i64 (k:Nat),.int .i64 (H.eof:Nat),vh,.int .i64 (ln:Nat)]
structure dA (w:World) (B B0 fb:Nat) (F:aH) (V:fj):Prop where
 cells:w.heap[fb]? =some (.cells (jV F V).toArray 120 (0,0))
 o9:World.ownsRow w B 219 2 V.v9 F.bN.length (gT F.bN)
 dI:World.ownsRow w B 64 1 V.v10 F.aliases.length V.sa
 al:eV w B0 3 V.sa F.aliases
 dp:World.ownsRow w B 129 5 V.v11 F.a3.length (lS F.a3)
 cO:World.ownsRow w B 127 8 V.cC F.rules.length (jx (F.rules.zip V.rn))
 nx:eV w B0 3 V.rn (F.rules.map (·.next))
 lo:B≤fb
 ee:F.sp.length=5
theorem dA.md {G:Nat→Prop} {w w':World} {B B0 fb:Nat} {F:aH} {V:fj} (h:dA w B B0 fb F V) (hm:Md G w w') {L:List Nat} (hT:TF w L G) (a:(L.contains 122 || L.contains 221 || L.contains 66 || L.contains 5 || L.contains 131 || L.contains 129)=false):dA w' B B0 fb F V:=by
 simp only [Bool.or_eq_false_iff] at a
 obtain ⟨⟨⟨⟨⟨h1,h2⟩,h3⟩,h4⟩,h5⟩,h6⟩:=a
 have hfl:∀ k,G k→∀ cur z,w.heap[k]?≠some (.cells cur 3 z):=fun k hk cur z hg=>hT.no (cR hg) h4 hk
 exact ⟨hm.gq hT h.cells h1,bG h.o9 hm hT h2,bG h.dI hm hT h3,h.al.md hm hfl,bG h.dp hm hT h5,bG h.cO hm hT h6,h.nx.md hm hfl,h.lo,h.ee⟩
theorem dA.wk {w w':World} {B B0 fb:Nat} {F:aH} {V:fj} (h:dA w B B0 fb F V) (hm:Wk w w'):dA w' B B0 fb F V:=h.md (L:= []) hm (fun _ hk=>hk.elim) rfl
structure jN (w:World) (B B0 fb:Nat) (F:aH) (V:fj):Prop where
 cells:w.heap[fb]? =some (.cells (jV F V).toArray 120 (0,0))
 dI:World.ownsRow w B 64 1 V.v10 F.aliases.length V.sa
 al:eV w B0 3 V.sa F.aliases
theorem dA.r {w:World} {B B0 fb:Nat} {F:aH} {V:fj} (h:dA w B B0 fb F V):jN w B B0 fb F V:=⟨h.cells,h.dI,h.al⟩
theorem jN.md {G:Nat→Prop} {w w':World} {B B0 fb:Nat} {F:aH} {V:fj} (h:jN w B B0 fb F V) (hm:Md G w w') {L:List Nat} (hT:TF w L G) (a:(L.contains 122 || L.contains 66 || L.contains 5)=false):jN w' B B0 fb F V:=by
 simp only [Bool.or_eq_false_iff] at a
 obtain ⟨⟨h1,h3⟩,h4⟩:=a
 exact ⟨hm.gq hT h.cells h1,bG h.dI hm hT h3,h.al.md hm (fun k hk cur z hg=>hT.no (cR hg) h4 hk)⟩
theorem jN.wk {w w':World} {B B0 fb:Nat} {F:aH} {V:fj} (h:jN w B B0 fb F V) (hm:Wk w w'):jN w' B B0 fb F V:=h.md (L:= []) hm (fun _ hk=>hk.elim) rfl
theorem dA.put {w w':World} {B B0 fb:Nat} {F F':aH} {V:fj} (h:dA w B B0 fb F V) (hm:Md (fun k=>k=fb) w w') (hc:w'.heap[fb]? =some (.cells (jV F' V).toArray 120 (0,0))) (h1:F'.bN=F.bN) (h2:F'.aliases=F.aliases) (h3:F'.a3=F.a3) (h4:F'.rules=F.rules) (h5:F'.sp.length=5):dA w' B B0 fb F' V:=by
 have hT:TF w [122] (fun k=>k=fb):=TF.eq (cR h.cells) (by decide)
 have hfl:∀ k,k=fb→∀ cur z,w.heap[k]?≠some (.cells cur 3 z):=dM h.cells (by decide)
 exact ⟨hc,h1 ▸ bG h.o9 hm hT (by decide),h2 ▸ bG h.dI hm hT (by decide),h2 ▸ h.al.md hm hfl,h3 ▸ bG h.dp hm hT (by decide),h4 ▸ bG h.cO hm hT (by decide),h4 ▸ h.nx.md hm hfl,h.lo,h5⟩
theorem dA.rN {w w1 i:World} {B B0 fb:Nat} {F:aH} {V:fj} {v:Value} {x:Tx×Tx} (h:dA w B B0 fb F V) (hm:Md (fun k=>V.v9.ownBlock=some k) w w1) (p:World.ownsRow w1 B 219 2 v (F.bN++ [x]).length (gT (F.bN++ [x]))) (a:Md (fun k=>k=fb) w1 i) (hc:i.heap[fb]? =some (.cells (jV {F with bN:=F.bN++ [x]} {V with v9:=v}).toArray 120 (0,0))):dA i B B0 fb {F with bN:=F.bN++ [x]} {V with v9:=v} :=by
 have hT:TF w [221] (fun k=>V.v9.ownBlock=some k):=TF.own h.o9 (by decide)
 have hcl:=hm.gq hT h.cells (by decide)
 have hT2:TF w1 [122] (fun k=>k=fb):=TF.eq (cR hcl) (by decide)
 have hfl:∀ k,V.v9.ownBlock=some k→∀ cur z,w.heap[k]?≠some (.cells cur 3 z):=eR h.o9 (by decide)
 have j:∀ k,k=fb→∀ cur z,w1.heap[k]?≠some (.cells cur 3 z):=dM hcl (by decide)
 exact ⟨hc,bX p a (fun k hk hf=>cw p hcl (by decide) (hf ▸ hk)),bG (bG h.dI hm hT (by decide)) a hT2 (by decide),(h.al.md hm hfl).md a j,bG (bG h.dp hm hT (by decide)) a hT2 (by decide),bG (bG h.cO hm hT (by decide)) a hT2 (by decide),(h.nx.md hm hfl).md a j,h.lo,h.ee⟩
theorem dA.rL {w w1 j:World} {B B0 fb:Nat} {F:aH} {V:fj} {v:Value} {x:List Nat} {vx:Value} (h:dA w B B0 fb F V) (q:Tg w B0 3 x.length vx (x.map bA)) (hm:Md (fun k=>V.v10.ownBlock=some k) w w1) (p:World.ownsRow w1 B 64 1 v (F.aliases++ [x]).length ((V.sa++ [vx]))) (a:Md (fun k=>k=fb) w1 j) (hc:j.heap[fb]? =some (.cells (jV {F with aliases:=F.aliases++ [x]} {V with v10:=v,sa:=V.sa++ [vx]}).toArray 120 (0,0))):dA j B B0 fb {F with aliases:=F.aliases++ [x]} {V with v10:=v,sa:=V.sa++ [vx]} :=by
 have hT:TF w [66] (fun k=>V.v10.ownBlock=some k):=TF.own h.dI (by decide)
 have hcl:=hm.gq hT h.cells (by decide)
 have hT2:TF w1 [122] (fun k=>k=fb):=TF.eq (cR hcl) (by decide)
 have hfl:∀ k,V.v10.ownBlock=some k→∀ cur z,w.heap[k]?≠some (.cells cur 3 z):=eR h.dI (by decide)
 have i:∀ k,k=fb→∀ cur z,w1.heap[k]?≠some (.cells cur 3 z):=dM hcl (by decide)
 exact ⟨hc,bG (bG h.o9 hm hT (by decide)) a hT2 (by decide),bX p a (fun k hk hf=>cw p hcl (by decide) (hf ▸ hk)),((h.al.md hm hfl).md a i).snoc ((q.md hm hfl).md a i),bG (bG h.dp hm hT (by decide)) a hT2 (by decide),bG (bG h.cO hm hT (by decide)) a hT2 (by decide),(h.nx.md hm hfl).md a i,h.lo,h.ee⟩
theorem dA.rM {w w1 i:World} {B B0 fb:Nat} {F:aH} {V:fj} {v:Value} {x:bW} (h:dA w B B0 fb F V) (hm:Md (fun k=>V.v11.ownBlock=some k) w w1) (p:World.ownsRow w1 B 129 5 v (F.a3++ [x]).length (lS (F.a3++ [x]))) (a:Md (fun k=>k=fb) w1 i) (hc:i.heap[fb]? =some (.cells (jV {F with a3:=F.a3++ [x]} {V with v11:=v}).toArray 120 (0,0))):dA i B B0 fb {F with a3:=F.a3++ [x]} {V with v11:=v} :=by
 have hT:TF w [131] (fun k=>V.v11.ownBlock=some k):=TF.own h.dp (by decide)
 have hcl:=hm.gq hT h.cells (by decide)
 have hT2:TF w1 [122] (fun k=>k=fb):=TF.eq (cR hcl) (by decide)
 have hfl:∀ k,V.v11.ownBlock=some k→∀ cur z,w.heap[k]?≠some (.cells cur 3 z):=eR h.dp (by decide)
 have j:∀ k,k=fb→∀ cur z,w1.heap[k]?≠some (.cells cur 3 z):=dM hcl (by decide)
 exact ⟨hc,bG (bG h.o9 hm hT (by decide)) a hT2 (by decide),bG (bG h.dI hm hT (by decide)) a hT2 (by decide),(h.al.md hm hfl).md a j,bX p a (fun k hk hf=>cw p hcl (by decide) (hf ▸ hk)),bG (bG h.cO hm hT (by decide)) a hT2 (by decide),(h.nx.md hm hfl).md a j,h.lo,h.ee⟩
theorem dA.pA {w w1 j:World} {B B0 fb:Nat} {F:aH} {V:fj} {v:Value} {x:eJ} {vx:Value} (h:dA w B B0 fb F V) (q:Tg w B0 3 x.next.length vx (x.next.map bA)) (hm:Md (fun k=>V.cC.ownBlock=some k) w w1) (p:World.ownsRow w1 B 127 8 v (F.rules++ [x]).length (jx ((F.rules++ [x]).zip (V.rn++ [vx])))) (a:Md (fun k=>k=fb) w1 j) (hc:j.heap[fb]? =some (.cells (jV {F with rules:=F.rules++ [x]} {V with cC:=v,rn:=V.rn++ [vx]}).toArray 120 (0,0))):dA j B B0 fb {F with rules:=F.rules++ [x]} {V with cC:=v,rn:=V.rn++ [vx]} :=by
 have hT:TF w [129] (fun k=>V.cC.ownBlock=some k):=TF.own h.cO (by decide)
 have hcl:=hm.gq hT h.cells (by decide)
 have hT2:TF w1 [122] (fun k=>k=fb):=TF.eq (cR hcl) (by decide)
 have hfl:∀ k,V.cC.ownBlock=some k→∀ cur z,w.heap[k]?≠some (.cells cur 3 z):=eR h.cO (by decide)
 have i:∀ k,k=fb→∀ cur z,w1.heap[k]?≠some (.cells cur 3 z):=dM hcl (by decide)
 exact ⟨hc,bG (bG h.o9 hm hT (by decide)) a hT2 (by decide),bG (bG h.dI hm hT (by decide)) a hT2 (by decide),(h.al.md hm hfl).md a i,bG (bG h.dp hm hT (by decide)) a hT2 (by decide),bX p a (fun k hk hf=>cw p hcl (by decide) (hf ▸ hk)),(by rw [List.map_append]; exact ((h.nx.md hm hfl).md a i).snoc ((q.md hm hfl).md a i)),h.lo,h.ee⟩
structure eI (w:World) (B:Nat) (H:ea) (k ln:Nat) (seen:List Tx) (vh:Value):Prop where
 cells:w.heap[H.rb]? =some (.cells (zm H k vh ln).toArray 122 (0,0))
 hd:World.ownsRow w B 9 1 vh seen.length (seen.map str)
 lo:B≤H.rb
section
variable {w w':World} {B k ln:Nat} {H:ea} {seen:List Tx} {vh:Value}
theorem eI.md {G:Nat→Prop} (h:eI w B H k ln seen vh) (hm:Md G w w') {L:List Nat} (hT:TF w L G) (a:(L.contains 124 || L.contains 11)=false):eI w' B H k ln seen vh:=by
 simp only [Bool.or_eq_false_iff] at a
 exact ⟨hm.gq hT h.cells a.1,bG h.hd hm hT a.2,h.lo⟩
theorem eI.wk (h:eI w B H k ln seen vh) (hm:Wk w w'):eI w' B H k ln seen vh:=h.md (L:= []) hm (fun _ hk=>hk.elim) rfl
theorem eI.fb {B0:Nat} {a:aH} {V:fj} (h:eI w B H k ln seen vh) (hF:dA w B B0 H.fb a V) (hm:Md (fun k=>k=H.fb) w w'):eI w' B H k ln seen vh:=h.md hm (TF.eq (L:= [122]) (cR hF.cells) (by decide)) (by decide)
theorem eI.own {a e s n:Nat} {v:Value} {xs:List Value} (h:eI w B H k ln seen vh) (j:World.ownsRow w a e s v n xs) (hm:Md (fun k=>v.ownBlock=some k) w w') (i:([e+2].contains 124 || [e+2].contains 11)=false):eI w' B H k ln seen vh:=h.md hm (TF.own (L:= [e+2]) j (by simp)) i
theorem eI.kn {cs:Array Value} {z:Nat×Nat} (h:eI w B H k ln seen vh) (hc:w.heap[H.fb]? =some (.cells cs 120 z)) (hm:Md (fun k=>k=H.fb) w w'):eI w' B H k ln seen vh:=h.md hm (TF.eq (L:= [122]) (cR hc) (by decide)) (by decide)
theorem eI.cT {k' ln':Nat} (h:eI w B H k ln seen vh) (hm:Md (fun k=>k=H.rb) w w') (hc:w'.heap[H.rb]? =some (.cells (zm H k' vh ln').toArray 122 (0,0))):eI w' B H k' ln' seen vh:=⟨hc,bG h.hd hm (TF.eq (L:= [124]) (cR h.cells) (by decide)) (by decide),h.lo⟩
theorem dA.rb {B0:Nat} {a:aH} {V:fj} (h:dA w B B0 H.fb a V) (i:eI w B H k ln seen vh) (hm:Md (fun k=>k=H.rb) w w'):dA w' B B0 H.fb a V:=h.md hm (TF.eq (L:= [124]) (cR i.cells) (by decide)) (by decide)
end
structure j6 (F:aH) (rows:List Rw) (seen:List Tx):Prop where
 len:F.bN.length+F.aliases.length+F.a3.length+F.rules.length+rows.length≤70000
 sl:seen.length+rows.length≤70000
 row:∀ q∈rows,q.2≠[]∧q.2.length≤70000∧∀ x∈q.2,x.length≤70000
 kd:F.kind=1∨F.kind=2∨F.kind=3
def GS (w1:World) (H:ea):Prop := ∃ B0,Tg w1 B0 50 H.rows.length H.vr (gK H.vs)∧eK w1 B0 9 H.vs H.rows∧H.rows.length≤70000
def iU (w1 w:World) (H:ea) (F:aH) (k ln:Nat) (seen:List Tx):Prop := ∃ V vh,dA w w1.heap.size 0 H.fb F V∧eI w w1.heap.size H k ln seen vh∧j6 F (H.rows.drop k) seen∧Wk w1 w∧k≤H.rows.length
def Ch (w':World) (H:ea) (X:Except (Nat×Nat) (aH×List Rw)) (v:Value):Prop := ∃ l e:Nat,X= .error (l,e)∧e≠0∧v= .int .i64 (e:Nat)∧Hb.aE w'.heap H.rb 5=some (.int .i64 (l:Nat))
def dS (w1:World) (H:ea) (seen:List Tx) (X:Except (Nat×Nat) (aH×List Rw)) (v:Value) (w':World):Prop :=((∃ F' k' ln',X= .ok (F',H.rows.drop k')∧v= .int .i64 (0:Nat)∧iU w1 w' H F' k' ln' seen)∨Ch w' H X v)∧Wk w1 w'
theorem j6.kV {F:aH} {q:Rw} {rest:List Rw} {seen:List Tx} (h:j6 F (q::rest) seen):j6 F rest seen:=⟨by have :=h.len; simp only [List.length_cons] at this; omega,by have :=h.sl; simp only [List.length_cons] at this; omega,fun q2 h2=>h.row q2 (List.mem_cons_of_mem _ h2),h.kd⟩
theorem eI.bM {w:World} {B:Nat} {H:ea} {k ln:Nat} {seen:List Tx} {vh:Value} (h:eI w B H k ln seen vh):Hb.aE w.heap H.rb 5=some (.int .i64 (ln:Nat)):=(aR h.cells).trans rfl
theorem GS.get {w1 w:World} {H:ea} {k:Nat} (h:GS w1 H) (hm:Wk w1 w) (hk:k < H.rows.length):∃ n r i j a c,H.rows.drop k=(n,r)::H.rows.drop (k+1)∧H.vr= .slice a H.rows.length c∧aw w.heap a (gK H.vs)∧H.vs[k]? =some (n,.slice i r.length j)∧(∃ B0,Tg w1 B0 9 r.length (.slice i r.length j) (r.map str))∧H.vs.length=H.rows.length:=by
 obtain ⟨B0,h1,h2,_⟩:=h
 obtain ⟨a,c,hv⟩:=h1.slice
 have hvl:=h2.1
 obtain ⟨q,A⟩:∃ q,H.rows[k]? =some q:=⟨_,List.getElem?_eq_getElem hk⟩
 obtain ⟨n,r⟩:=q
 obtain ⟨p,hp⟩:∃ p,H.vs[k]? =some p:=⟨_,List.getElem?_eq_getElem (by omega)⟩
 obtain ⟨C,s⟩:=h2.2 k p (n,r) hp A
 obtain ⟨pn,E⟩:=p
 simp only at C s
 subst C
 obtain ⟨i,j,rfl⟩:=s.slice
 rw [hv] at h1
 refine ⟨pn,r,i,j,a,c,?_,hv,(h1.wk hm).bF.2,hp,⟨B0,s⟩,hvl⟩
 rw [List.drop_eq_getElem_cons hk]
 rw [List.getElem?_eq_getElem hk] at A
 rw [Option.some.inj A]
end Go.Hb.kN
end
section
set_option maxRecDepth 20000
set_option maxHeartbeats 1000000
namespace Go.Hb.mW
open Go.Hb.du
open Go.Proofs
open Go.Hb.ka
theorem IV {l:List UInt8} {j:Nat} {b:UInt8} (h:j < l.length):b∈l.take (j+1)↔b∈l.take j∨l.getD j 0=b:=by
 rw [eo l j 0 h,List.mem_append,List.mem_singleton,eq_comm (a:=b)]
theorem oJ (s:List UInt8) (w:World) (hs:s.length≤1048576):
 aV Tryz.prog 52 (List.toArray [str s]) w (fun v w'=>v= .bool (eh s)∧Wk w w'):=by
 refine enter Tryz.func52 rfl Tryz.ntmps52 rfl ?_
 refine U (fun _ J=>(aj (((J _ _ (sq (fun _ M=>U (fun _ O=> ?_))))))))
 refine aj (((O _ _ (aA (lp (fun G C wI=> ∃ (i:Nat),(i≤s.length)∧(∀ j,j < i→fk (s.getD j 0)=true)∧(Wk w wI)∧(C 0=str s)∧(C 3= .int .i64 i)∧(s.length - i=G)) _ ⟨0,(by omega),((fun j I=>by omega)),(Md.refl _ _),rfl,rfl,rfl⟩ ?_)))))
 rintro G C wI ⟨i,hi,hp,a,ac,ae,rfl⟩
 refine fx 0 ac (fx 3 ae (sq (fun _ V=>U (fun _ Y=>(ag (.int .i64 i) (ag (str s) (p (bK u9 rfl rfl) (p (lt rfl rfl) ?_))))))))
 refine au ((Y _ _ (cd rfl (fun aa=> ?_) (fun aa=> ?_))))
 refine az (tn (V _ _ (sq (fun _ q=>aA (U (fun _ E=>(ag (str s) (ag (.int .i64 i) ?_))))))))
 refine p (dB u9 rfl rfl (by omega)) (p (lt rfl rfl) (p mv (gs (t:=14) rfl (fun ab=> ?_) (fun ab=> ?_))))
 refine sk rfl rfl rfl rfl (sk rfl rfl rfl rfl (sk rfl rfl rfl rfl (sk rfl rfl rfl rfl (p (bc rfl) (au ((E _ _ (ct rfl ?_))))))))
 refine U (fun _ A=>(aj (((A _ _ (rt (br (tr ?_))))))))
 exact tr (br (tr (f1 rfl rfl (⟨by show Value.bool false =_; rw [m7 (i:=i) (by omega) (sR (by omega))],a⟩))))
 refine pg rfl rfl rfl (aC (str s) rfl) (pg rfl rfl rfl (aC (.int .i64 i) rfl) (pg rfl rfl rfl (dB u9 rfl rfl (by omega)) (pg rfl rfl rfl (bd rfl rfl) (p (a6 rfl) (au ((E _ _ (cd rfl (fun Z=> ?_) (fun Z=> ?_)))))))))
 refine U (fun _ A=>(aj (((A _ _ (rt (br (tr ?_))))))))
 exact tr (br (tr (f1 rfl rfl (⟨by show Value.bool false =_; rw [m7 (i:=i) (by omega) (sR (by omega))],a⟩))))
 have ah:fk (s.getD i 0)=true :=Gu (by omega) (by omega)
 refine az (bn (tn (q _ _ (rg rfl (ag (.int .i64 i) (p (ad rfl rfl (bu (by omega))) (p ak (nl ?_))))))))
 exact tn (⟨_,by omega,i+1,(by omega),((fun j I=>by rcases Nat.lt_or_ge j i with h | h <;> first | exact hp j h | (rw [show j=i by omega]; exact ah))),a,rfl,rfl,rfl⟩)
 refine ext (te _ (te _ (be (tn (M _ _ (U (fun _ q=>(p ak ?_))))))))
 exact au ((q _ _ (rt (f1 rfl rfl (⟨by show Value.bool true =_; rw [nW (fun j I=>hp j (by omega))],a⟩)))))
theorem qS (s:List UInt8) (w:World) (hs:s.length≤1048576):
 aV Tryz.prog 84 (List.toArray [str s]) w (fun v w'=>v=AI (aW s)∧Wk w w'):=by
 refine enter Tryz.func84 rfl Tryz.ntmps84 rfl ?_
 refine U (fun _ ac=>(p ak (p ak (p ak (aj (((ac _ _ ?_))))))))
 refine U (fun _ am=>(e (jo eT fun b8 w8 hb8 aF ay=> ?_)))
 have aU:World.ownsRow w8 w.heap.size 5 1 (.slice (some ⟨b8,0,none⟩) 0 0) (([]:List UInt8)).length (U8 (([]:List UInt8))):=ay _ (by omega)
 refine aj (((am _ _ (U (fun _ an=>(aj (((an _ _ ?_)))))))))
 refine sq (fun _ ao=>aA (lp (fun Z J wI=> ∃ (i:Nat) (acc:List UInt8) (Y:Value),(i≤s.length∧acc.length≤i)∧(World.ownsRow wI w.heap.size 5 1 (Y) (acc).length (U8 (acc)))∧(Wk w wI)∧(fL acc (s.drop i)=aW s)∧(J 0=str s)∧(J 6=Y)∧(J 7= .int .i64 i)∧(s.length - i=Z)) _ ⟨0,[],.slice (some ⟨b8,0,none⟩) 0 0,(by simp),aU,aF.md,rfl,rfl,rfl,rfl,rfl⟩ ?_))
 rintro Z J wI ⟨i,acc,Y,hi,q,j,hd,aX,aY,aZ,rfl⟩
 refine fx 0 aX (fx 6 aY (fx 7 aZ ?_))
 obtain ⟨E,G,rfl⟩:=b0 q
 refine sq (fun _ aq=>U (fun _ ar=>(ag (.int .i64 i) (ag (str s) (p (bK u9 rfl rfl) (p (lt rfl rfl) (nl ?_)))))))
 refine tn (ar _ _ (cd rfl (fun aJ=> ?_) (fun aJ=> ?_)))
 refine az (tn (aq _ _ (aA (sq (fun _ O=>U (fun _ av=>(ag (str s) (ag (.int .i64 i) ?_))))))))
 refine p (dB u9 rfl rfl (by omega)) (p (bd rfl rfl) (au ((av _ _ (cd rfl (fun aK=> ?_) (fun aK=> ?_))))))
 have aI:(s.getD i 0).toNat=47:=by omega
 refine sq (fun _ C=> ?_)
 have a:(fun w'=>Wk wI w') wI.drew:=(Md.refl _ _).drew
 refine bD (fun w'=>Wk wI w') rfl wide a (bl 0 rfl (.slice E acc.length G) a (bl 2 rfl (str s) a (bl 3 rfl (.int .i64 i) a (aB 4 rfl (fun _ _=>ba ((i+1:Nat):Int) rfl rfl (aQ (by omega) (by omega))) a (aB 5 rfl (fun _ _=>kz u9 rfl rfl (by omega)) a (aB 1 rfl (fun w' aH=>jt jr rfl ((aM (aG q aH)).2) (rfl)) a (aB 6 rfl (fun _ _=>ak) a ?_)))))))
 refine aB 7 rfl (fun _ _=>ak) a (aB 8 rfl (fun _ _=>ak) a (aB 9 rfl (fun _ _=>ak) a (hn (by kernel_rfl) (tn (C _ _ (rt (tr (br ?_))))))))
 refine tr (br (tr (f4 rfl rfl rfl rfl rfl ?_)))
 exact ⟨by rw [← hd,drop_cons 0 (by omega :i < s.length),vc aI]; rfl,Md.trans j (Md.refl _ _).drew⟩
 refine az (tn (O _ _ ?_))
 refine c6 (fun M wC=> ∃ (k:Nat),(k < s.length∧i≤k∧k≤i+1)∧(Wk w wC)∧(World.ownsRow wC w.heap.size 5 1 (.slice E acc.length G) (acc).length (U8 (acc)))∧(fL (acc++ [s.getD k 0]) (s.drop (k+1))=aW s)∧(M 0=str s)∧(M 6= .slice E acc.length G)∧(M 7= .int .i64 k)) ?_ ?_
 refine U (fun _ C=>(ag (str s) (ag (.int .i64 i) (p (dB u9 rfl rfl (by omega)) (p (bd rfl rfl) (au ((C _ _ ?_))))))))
 refine cd rfl (fun aL=> ?_) (fun aL=> ?_)
 have I:(s.getD i 0).toNat=92:=by omega
 refine U (fun _ ae=>(ag (.int .i64 i) (p (ba ((i+1:Nat):Int) rfl rfl (aQ (by omega) (by omega))) (aj (((ae _ _ (sq (fun _ ah=> ?_)))))))))
 refine U (fun _ ai=>(p mv (ag (str s) (p (bK u9 rfl rfl) (p (ge rfl rfl) (au ((ai _ _ ?_))))))))
 refine cd rfl (fun aN=> ?_) (fun aN=> ?_)
 refine U (fun _ A=>(p ak (p ak (p ak (aj (((A _ _ ?_))))))))
 refine rt (tr (tr (br (tr (br (tr (f4 rfl rfl rfl rfl rfl ?_)))))))
 exact ⟨by rw [← hd,drop_cons 0 (by omega :i < s.length),List.drop_eq_nil_of_le (by omega),uZ I]; rfl,j⟩
 refine az (tn (ah _ _ (U (fun _ A=>(ag (str s) (p mv (p (dB u9 rfl rfl (by omega)) (p (bH rfl rfl) ?_))))))))
 refine p mv (gs (t:=37) rfl (fun aR=> ?_) (fun aR=> ?_))
 refine pg rfl rfl rfl (aC (str s) rfl) (pg rfl rfl rfl mv (pg rfl rfl rfl (dB u9 rfl rfl (by omega)) (pg rfl rfl rfl (bH rfl rfl) (p (bc rfl) (p mv (gs (t:=43) rfl (fun aS=> ?_) (fun aS=> ?_)))))))
 refine pg rfl rfl rfl (aC (str s) rfl) (pg rfl rfl rfl mv (pg rfl rfl rfl (dB u9 rfl rfl (by omega)) (pg rfl rfl rfl (bH rfl rfl) (p (bc rfl) (au ((A _ _ (cd rfl (fun aO=> ?_) (fun aO=> ?_)))))))))
 refine U (fun _ al=>(p ak (p ak (p ak (aj (((al _ _ ?_))))))))
 refine rt (tr (br (tr (br (tr (f4 rfl rfl rfl rfl rfl ?_))))))
 exact ⟨by rw [← hd,drop_cons 0 (by omega :i < s.length),drop_cons 0 (by omega :i+1 < s.length),u6 I (by rw [gZ]; exact decide_eq_false (by omega))]; rfl,j⟩
 exact az (tn (⟨i+1,(by omega),j,q,((by rw [← hd,drop_cons 0 (by omega :i < s.length),drop_cons 0 (by omega :i+1 < s.length),oV I (by rw [gZ]; exact decide_eq_true (by omega))])),rfl,rfl,rfl⟩))
 refine sk rfl rfl rfl rfl (sk rfl rfl rfl rfl (sk rfl rfl rfl rfl (sk rfl rfl rfl rfl (p (a6 rfl) (au ((A _ _ (cf rfl ?_))))))))
 exact az (tn (⟨i+1,(by omega),j,q,((by rw [← hd,drop_cons 0 (by omega :i < s.length),drop_cons 0 (by omega :i+1 < s.length),oV I (by rw [gZ]; exact decide_eq_true (by omega))])),rfl,rfl,rfl⟩))
 refine sk rfl rfl rfl rfl (sk rfl rfl rfl rfl (sk rfl rfl rfl rfl (sk rfl rfl rfl rfl (p (a6 rfl) (p mv (sk rfl rfl rfl rfl (sk rfl rfl rfl rfl ?_)))))))
 refine sk rfl rfl rfl rfl (sk rfl rfl rfl rfl (p (a6 rfl) (au ((A _ _ (cf rfl (az (tn ?_))))))))
 exact ⟨i+1,(by omega),j,q,((by rw [← hd,drop_cons 0 (by omega :i < s.length),drop_cons 0 (by omega :i+1 < s.length),oV I (by rw [gZ]; exact decide_eq_true (by omega))])),rfl,rfl,rfl⟩
 exact az (tn (⟨i,(by omega),j,q,((by rw [← hd,drop_cons 0 (by omega :i < s.length),u7 (by omega) (by omega)])),rfl,rfl,rfl⟩))
 rintro M wC ⟨k,hk,aD,ab,aP,a0,a1,a2⟩
 refine fx 0 a0 (fx 6 a1 (fx 7 a2 (U (fun _ C=>(ag (.slice E acc.length G) (ag (str s) (ag (.int .i64 k) (p (dB u9 rfl rfl (by omega)) (e (ef eT rfl rfl fun a4 w53 a5 V ax=> ?_))))))))))
 have aa:Wk w w53:=Md.trans aD V.md
 refine e (ap eT (aG ab V.md) rfl (by have :=aa.size; omega) rfl (aw.cV ax) (rfl) (rfl) (by omega) (by omega) fun a3 a9 aT aE a8 a7=> ?_)
 have hE54:=Wk.own aa (aG ab V.md) aE (Nat.le_refl _)
 have ho54x:=l1 aT
 refine aj (((C _ _ (rg rfl (ag (.int .i64 k) (p (ba ((k+1:Nat):Int) rfl rfl (aQ (by omega) (by omega))) (p ak (nl ?_))))))))
 exact bn (tn (⟨_,by omega,k+1,acc++ [s.getD k 0],a3,(by rw [List.length_append,List.length_singleton]; omega),ho54x,hE54,aP,rfl,rfl,rfl,rfl⟩))
 refine ext (te _ (te _ (be (tn (ao _ _ (U (fun _ O=>(ag (.slice E acc.length G) ?_))))))))
 refine p (jt jr rfl ((aM q).2) (rfl)) (p ak (p ak (p ak (aj (((O _ _ (rt ?_))))))))
 refine f4 rfl rfl rfl rfl rfl ?_
 exact ⟨by rw [← hd,List.drop_eq_nil_of_le (by omega),rz]; rfl,j⟩
theorem Kh (s:List UInt8) (w:World) (hs:s.length≤1048576):
 aV Tryz.prog 81 (List.toArray [str s]) w (fun v w'=>v= .tuple #[str (letE s).1,.int .i64 (letE s).2]∧Wk w w'):=by
 refine enter Tryz.func81 rfl Tryz.ntmps81 rfl ?_
 refine U (fun _ aK=>(p ak (aj (((aK _ _ (U (fun _ aP=> ?_))))))))
 refine ag (str s) (e (cl nY (oJ s _ hs) rfl fun v10 w10 hR10=> ?_))
 obtain ⟨rfl,ah⟩:=hR10
 refine aj (((aP _ _ (sq (fun _ aQ=>U (fun _ aH=>(ag (str s) (p (bK u9 rfl rfl) ?_))))))))
 refine p (bd rfl rfl) (p mv (gs (t:=14) rfl (fun ar=> ?_) (fun ar=> ?_)))
 refine sk rfl rfl rfl rfl (sk rfl rfl rfl rfl (p (bc rfl) (au ((aH _ _ (ct rfl (U (fun _ Y=> ?_))))))))
 exact p ak (aj (((Y _ _ (rt (tr (f2 rfl rfl rfl (⟨by show Value.tuple #[str [],.int .i64 21]=_; unfold letE; rw [if_pos (.inl (List.length_eq_zero_iff.1 (by omega)))]; rfl,ah⟩))))))))
 refine pg rfl rfl rfl mv (pg rfl rfl rfl (no rfl) (p (a6 rfl) (au ((aH _ _ (cb rfl (fun ai=> ?_) (fun ai=> ?_)))))))
 refine U (fun _ Y=>(p ak (aj (((Y _ _ (rt (tr ?_))))))))
 exact f2 rfl rfl rfl (⟨by show Value.tuple #[str [],.int .i64 21]=_; unfold letE; rw [if_pos (.inr (by simpa using ai))]; rfl,ah⟩)
 refine az (tn (aQ _ _ (U (fun _ Y=>(e (jo eT fun aI w18 bk aY hB18=> ?_))))))
 have a4:World.ownsRow w18 w.heap.size 5 1 (.slice (some ⟨aI,0,none⟩) 0 0) (([]:List UInt8)).length (U8 (([]:List UInt8))):=hB18 _ (by have :=ah.size; omega)
 have aX:Wk w w18:=Md.trans ah aY.md
 refine aj (((Y _ _ (sq (fun _ aR=>U (fun _ aS=>(p ak (nl ?_))))))))
 refine tn (aS _ _ (aA (lp (fun Z am wI=> ∃ (i:Nat) (ax:Value),(i≤s.length)∧(World.ownsRow wI w.heap.size 5 1 (ax) ((lets (s.take i))).length (U8 ((lets (s.take i)))))∧(Wk w wI)∧(am 0=str s)∧(am 5=ax)∧(am 6= .int .i64 i)∧(s.length - i=Z)) _ ⟨0,.slice (some ⟨aI,0,none⟩) 0 0,(by omega),a4,aX,rfl,rfl,rfl,rfl⟩ ?_)))
 rintro Z am wI ⟨i,ax,hi,A,aa,a5,a7,a8,rfl⟩
 refine fx 0 a5 (fx 5 a7 (fx 6 a8 ?_))
 obtain ⟨C,E,rfl⟩:=b0 A
 have hll:=tH (s.take i)
 rw [List.length_take] at hll
 refine sq (fun _ aT=>U (fun _ aU=>(ag (.int .i64 i) (ag (str s) (p (bK u9 rfl rfl) (p (lt rfl rfl) (nl ?_)))))))
 refine tn (aU _ _ (cd rfl (fun a1=> ?_) (fun a1=> ?_)))
 refine az (tn (aT _ _ (sq (fun _ M=>aA (U (fun _ aL=>(p ak (nl ?_))))))))
 refine tn (aL _ _ (sq (fun _ aD=>U (fun _ aN=>(aj (((aN _ _ (aA ?_)))))))))
 refine lp (fun Z O ae=> ∃ (j:Nat) (ob:Bool),(j≤(lets (s.take i)).length)∧(ob=decide (s.getD i 0∈(lets (s.take i)).take j))∧(Wk wI ae)∧(O 0=str s)∧(O 5= .slice C (lets (s.take i)).length E)∧(O 6= .int .i64 i)∧(O 7= .bool ob)∧(O 8= .int .i64 j)∧((lets (s.take i)).length - j=Z)) _ ⟨0,false,(by omega),rfl,(Md.refl _ _),rfl,rfl,rfl,rfl,rfl,rfl⟩ ?_
 rintro Z O ae ⟨j,ob,bm,al,a,a9,ba,bb,bf,bh,rfl⟩
 refine fx 0 a9 (fx 5 ba (fx 6 bb (fx 7 bf (fx 8 bh (sq (fun _ aO=>U (fun _ aF=>(ag (.int .i64 j) (ag (.slice C (lets (s.take i)).length E) (p (bg jm rfl rfl) (p (lt rfl rfl) ?_)))))))))))
 refine p mv (gs (t:=29) rfl (fun hlt=> ?_) (fun hlt=> ?_))
 refine pg rfl rfl rfl (aC (.bool ob) rfl) (pg rfl rfl rfl (no rfl) (p (bc rfl) (au ((aF _ _ (cb rfl (fun aq=> ?_) (fun aq=> ?_)))))))
 have a3:¬s.getD i 0∈(lets (s.take i)).take j:=of_decide_eq_false (by rw [← al]; simpa using aq)
 refine az (tn (aO _ _ (sq (fun _ V=>aA ?_))))
 have q:(fun w'=>Wk ae w') ae.drew:=(Md.refl _ _).drew
 refine bD (fun w'=>Wk ae w') rfl wide q (bl 0 rfl (.slice C (lets (s.take i)).length E) q (bl 1 rfl (.int .i64 j) q (aB 2 rfl (fun _ _=>aJ iL rfl rfl (by omega) (aw.ok ((aM (aG A a)).2) (lk (by omega)))) q (aB 3 rfl (fun w' aZ=>ld kQ rfl (Wk.aE aZ (lj (i:=j) (aM (aG A a)).2 (by omega)))) q (bl 4 rfl (str s) q (bl 5 rfl (.int .i64 i) q (aB 6 rfl (fun _ _=>dB u9 rfl rfl (by omega)) q ?_)))))))
 refine aB 7 rfl (fun _ _=>bd rfl rfl) q (aB 8 rfl (fun _ _=>ak) q (hn (by kernel_rfl) (bn (tn (V _ _ (rg rfl (ag (.int .i64 j) (p (ad rfl rfl (bu (by omega))) ?_))))))))
 exact aj (((⟨_,by omega,j+1,decide (((lets (s.take i)).getD j 0).toNat=((s.getD i 0).toNat:Int)),(by omega),((decide_eq_decide.2 (by rw [IV (by omega)]; constructor <;> intro h <;> first | exact .inr (UInt8.toNat_inj.1 (by omega)) | (rcases h with h | h <;> first | exact absurd h a3 | (rw [h]))))),(Md.trans a (Md.refl _ _).drew),rfl,rfl,rfl,rfl,rfl,rfl⟩)))
 have ac:ob=decide (s.getD i 0∈lets (s.take i)):=by
  have h1:ob=true :=by simpa using aq
  rw [h1] at al
  rw [h1]; exact (decide_eq_true (List.mem_of_mem_take (of_decide_eq_true al.symm))).symm
 refine ext (te _ (te _ (be (tn (aD _ _ (U (fun _ V=>(ag (.bool ob) ?_))))))))
 refine p (no rfl) (au ((V _ _ (cb rfl (fun I=> ?_) (fun I=> ?_)))))
 have J:¬s.getD i 0∈lets (s.take i):=of_decide_eq_false (by rw [← ac]; simpa using I)
 refine rg rfl (ag (.slice C (lets (s.take i)).length E) (ag (str s) (ag (.int .i64 i) (p (dB u9 rfl rfl (by omega)) (e (ef eT rfl rfl fun aW w49 a0 G an=> ?_))))))
 have ab:Wk w w49:=Md.trans (Md.trans aa a) G.md
 refine e (ap eT (aG (aG A a) G.md) rfl (by have :=ab.size; omega) rfl (aw.cV an) (rfl) (rfl) (by omega) (by omega) fun ay bj av ao bi a2=> ?_)
 have hE50:=Wk.own ab (aG (aG A a) G.md) ao (Nat.le_refl _)
 have ho50x:=l1 av
 refine p ak (nl (bn (tn (M _ _ (rg rfl (ag (.int .i64 i) (p (ad rfl rfl (bu (by omega))) (p ak ?_))))))))
 exact au ((⟨_,by omega,i+1,ay,(by omega),((by rw [lX (by omega),if_neg J]; exact ho50x)),hE50,rfl,rfl,rfl,rfl⟩))
 have J:s.getD i 0∈lets (s.take i):=of_decide_eq_true (by rw [← ac]; simpa using I)
 refine az (bn (tn (M _ _ (rg rfl (ag (.int .i64 i) (p (ad rfl rfl (bu (by omega))) (p ak (nl ?_))))))))
 exact tn (⟨_,by omega,i+1,.slice C (lets (s.take i)).length E,(by omega),((by rw [lX (by omega),if_pos J]; exact aG A a)),(Md.trans aa a),rfl,rfl,rfl,rfl⟩)
 have ac:ob=decide (s.getD i 0∈lets (s.take i)):=by rw [al,List.take_of_length_le (by omega)]
 refine sk rfl rfl rfl rfl (sk rfl rfl rfl rfl (p (a6 rfl) (au ((aF _ _ (cf rfl (ext (te _ ?_))))))))
 refine te _ (be (tn (aD _ _ (U (fun _ V=>(ag (.bool ob) (p (no rfl) (nl ?_))))))))
 refine tn (V _ _ (cb rfl (fun I=> ?_) (fun I=> ?_)))
 have J:¬s.getD i 0∈lets (s.take i):=of_decide_eq_false (by rw [← ac]; simpa using I)
 refine rg rfl (ag (.slice C (lets (s.take i)).length E) (ag (str s) (ag (.int .i64 i) (p (dB u9 rfl rfl (by omega)) (e (ef eT rfl rfl fun aW w49 a0 G an=> ?_))))))
 have ab:Wk w w49:=Md.trans (Md.trans aa a) G.md
 refine e (ap eT (aG (aG A a) G.md) rfl (by have :=ab.size; omega) rfl (aw.cV an) (rfl) (rfl) (by omega) (by omega) fun ay bj av ao bi a2=> ?_)
 have hE50:=Wk.own ab (aG (aG A a) G.md) ao (Nat.le_refl _)
 have ho50x:=l1 av
 refine p ak (nl (bn (tn (M _ _ (rg rfl (ag (.int .i64 i) (p (ad rfl rfl (bu (by omega))) (p ak ?_))))))))
 exact au ((⟨_,by omega,i+1,ay,(by omega),((by rw [lX (by omega),if_neg J]; exact ho50x)),hE50,rfl,rfl,rfl,rfl⟩))
 have J:s.getD i 0∈lets (s.take i):=of_decide_eq_true (by rw [← ac]; simpa using I)
 refine az (bn (tn (M _ _ (rg rfl (ag (.int .i64 i) (p (ad rfl rfl (bu (by omega))) (p ak (nl ?_))))))))
 exact tn (⟨_,by omega,i+1,.slice C (lets (s.take i)).length E,(by omega),((by rw [lX (by omega),if_pos J]; exact aG A a)),(Md.trans aa a),rfl,rfl,rfl,rfl⟩)
 refine ext (te _ (te _ (be (tn (aR _ _ (U (fun _ M=>(ag (.slice C (lets (s.take i)).length E) ?_))))))))
 exact p (jt jr rfl ((aM A).2) (rfl)) (p ak (aj (((M _ _ (rt (f2 rfl rfl rfl (⟨by show Value.tuple #[str (lets (s.take i)),.int .i64 0]=_; unfold letE; rw [if_neg (fun h=>h.elim (fun h=>by rw [h] at ar; exact ar rfl) (fun h=>by rw [h] at ai; cases ai)),show s.take i=s from List.take_of_length_le (by omega)]; rfl,aa⟩))))))))
end Go.Hb.mW
end
