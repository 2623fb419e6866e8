/-
  Walks and plain laws that the law rests on, laid together. No conditions but those that each theorem names.
-/
import Derived.Test.YtkiemnnhcilhpaaGreatDoorMnDicKeeps1
set_option linter.unusedVariables false
section
namespace Go.Hb
abbrev Tx:Type :=List UInt8
structure bX where
 flag:Nat
 kind:Nat
 dX:Bool
 first :Nat
 count:Nat
structure eK where
 kind:Nat
 flag:Nat
 dX:Bool
 strip:Tx
 add:Tx
 cond:Tx
 next :List Nat
 line:Nat
structure aI where
 kind:Nat
 mC:Tx
 tr:Tx
 sp:List Nat
 least:Nat
 bN:List (Tx×Tx)
 aliases:List (List Nat)
 a3:List bX
 rules:List eK
def eS:Tx:= [70,76,65,71]
def e8:Tx:= [83,69,84]
def fu:Tx:= [84,82,89]
def gA:Tx:= [78,69,69,68,65,70,70,73,88]
def gJ:Tx:= [70,79,82,66,73,68,68,69,78,87,79,82,68]
def gS:Tx:= [75,69,69,80,67,65,83,69]
def hZ:Tx:= [67,79,77,80,79,85,78,68,70,76,65,71]
def iy:Tx:= [78,79,83,85,71,71,69,83,84]
def gz:Tx:= [67,79,77,80,79,85,78,68,77,73,78]
def dE:Tx:= [82,69,80]
def db:Tx:= [65,70]
def dQ:Tx:= [80,70,88]
def bQ:Tx:= [83,70,88]
def mM:Tx:= [115,104,111,114,116]
def nB:Tx:= [108,111,110,103]
def oH:Tx:= [110,117,109]
def cO:List Tx:= [gA,gJ,gS,hZ,iy]
def width (k:Tx):Nat:=if k∈cO∨k=eS∨k=e8∨k=fu∨k=gz∨k=dE∨k=db then 2 else if k=dQ∨k=bQ then 4 else 0
def e6 (w:Tx):Nat:=if w= []∨ei w=false then 21 else if 32 < w.length then 22 else 0
def dq (none:Bool) (fd:Tx):Except Nat Tx:=
 if none=true∧fd= [48] then .ok []
 else if (aW fd).2.2.2≠0 then .error (aW fd).2.2.2
 else if (aW fd).2.2.1=true then .error 114
 else if e6 (aW fd).1≠0 then .error (e6 (aW fd).1)
 else .ok (aW fd).1
def dK (cs:List bX) (x:Nat):Option bX:=cs.find? fun c=>decide (c.flag=x)
def dw (f:aI) (x:Nat):Bool:=decide (x∈f.sp) || (dK f.a3 x).isSome
noncomputable def eF (f:aI) (s:Tx):Except Nat Nat:=
 if (eE f.kind s).2≠0 then .error (eE f.kind s).2 else if dw f (eE f.kind s).1=true then .error 115 else .ok (eE f.kind s).1
noncomputable def iP (kind:Nat) (s:Tx):Except Nat (List Nat):=if (cX kind s).2≠0 then .error (cX kind s).2 else .ok (cX kind s).1
noncomputable def dy (s:Tx) (most:Int):Except Nat Nat:=if (cJ s most).2≠0 then .error 13 else .ok (cJ s most).1
noncomputable def ed (kind:Nat) (al:List (List Nat)) (s:Tx):Except Nat (List Nat):=
 if al= [] then iP kind s
 else match dy s al.length with
  | .error _=> .error 13
  | .ok n=>if n=0 then .error 13 else .ok (al.getD (n - 1) [])
noncomputable def ic (kind:Nat) (al:List (List Nat)) (a:Nat) (r:iJ):Except Nat (List Nat):=
 if r.2.2.1=true then (if a=1 then .error 118 else ed kind al r.2.1) else .ok []
def iq (row:List Tx):Except Nat Tx:=
 if row.length=5 then (if ei (row.getD 4 [])=false then .error 21 else if (cB (row.getD 4 [])).2≠0 then .error (cB (row.getD 4 [])).2 else .ok (jL (cB (row.getD 4 [])).1)) else .ok [46]
def gQ (r:iJ):Except Nat Tx:=if r.2.2.2≠0 then .error r.2.2.2 else if r.1= [48] then .ok [] else if e6 r.1≠0 then .error (e6 r.1) else .ok r.1
noncomputable def eC (kind:Nat) (al:List (List Nat)) (c:bX) (ln:Nat) (row:List Tx):Except Nat eK:=
 if row.length≠4∧row.length≠5 then .error 111
 else match dq true (row.getD 2 []) with
  | .error e=> .error e
  | .ok st=>match gQ (aW (row.getD 3 [])) with
    | .error e=> .error e
    | .ok ad=>match ic kind al c.kind (aW (row.getD 3 [])) with
      | .error e=> .error e
      | .ok nx=>match iq row with
        | .error e=> .error e
        | .ok cd=> .ok ⟨c.kind,c.flag,c.dX,st,ad,cd,nx,ln⟩
def gL (ln:Nat) (row:List Tx):Except Nat (Tx×Tx):=
 if row.length≠3 then .error 111
 else match dq false (row.getD 1 []) with
  | .error e=> .error e
  | .ok a=>match dq true (row.getD 2 []) with
    | .error e=> .error e
    | .ok b=> .ok (a,b)
noncomputable def gR (kind:Nat) (ln:Nat) (row:List Tx):Except Nat (List Nat):=if row.length≠2 then .error 111 else iP kind (row.getD 1 [])
def group {α:Type} (hd:List Tx) (rd:Nat→List Tx→Except Nat α) (eof:Nat):Nat→List Rw→Except (Nat×Nat) (List α×List Rw)
 | 0,rows=> .ok ([],rows)
 | _+1,[]=> .error (eof,116)
 | n+1,(ln,row)::rows=>if row.take hd.length≠hd then .error (ln,116) else match rd ln row with
   | .error e=> .error (ln,e)
   | .ok x=>match group hd rd eof n rows with
     | .error e=> .error e
     | .ok r=> .ok (x::r.1,r.2)
def fX (s:Tx):Nat:=if s=mM then 1 else if s=nB then 2 else if s=oH then 3 else 0
def ordered (hs:List Tx):Bool:= !hs.any fun h=>decide (h∈cO∨h=db∨h=dQ∨h=bQ)
noncomputable def eN (eof:Nat) (f:aI) (rows:List Rw) (ln:Nat) (row:List Tx):Except (Nat×Nat) (aI×List Rw):=
 match eF f (row.getD 1 []) with
 | .error e=> .error (ln,e)
 | .ok x=>if row.getD 2 []≠[89]∧row.getD 2 []≠[78] then .error (ln,114)
   else match dy (row.getD 3 []) 1024 with
    | .error e=> .error (ln,e)
    | .ok n=>if 1024 < f.rules.length+n then .error (ln,117)
      else match group [row.getD 0 [],row.getD 1 []] (eC f.kind f.aliases ⟨x,if row.getD 0 []=bQ then 2 else 1,decide (row.getD 2 []= [89]),f.rules.length,n⟩) eof n rows with
       | .error e=> .error e
       | .ok r=> .ok ({f with a3:=f.a3++ [⟨x,if row.getD 0 []=bQ then 2 else 1,decide (row.getD 2 []= [89]),f.rules.length,n⟩],rules:=f.rules++r.1},r.2)
noncomputable def gO (f:aI) (rows:List Rw) (ln:Nat) (row:List Tx):Except (Nat×Nat) (aI×List Rw):=
 match eF f (row.getD 1 []) with
 | .error e=> .error (ln,e)
 | .ok x=> .ok ({f with sp:=f.sp.set (cO.idxOf (row.getD 0 [])) x},rows)
def gT (f:aI) (hs:List Tx) (rows:List Rw) (ln:Nat) (row:List Tx):Except (Nat×Nat) (aI×List Rw):=
 if ordered hs=false then .error (ln,113) else if fX (row.getD 1 [])=0 then .error (ln,114) else .ok ({f with kind:=fX (row.getD 1 [])},rows)
def jK (f:aI) (rows:List Rw) (ln:Nat) (row:List Tx):Except (Nat×Nat) (aI×List Rw):=
 if ei (row.getD 1 [])=false then .error (ln,21) else .ok ({f with mC:=row.getD 1 []},rows)
def jO (f:aI) (rows:List Rw) (ln:Nat) (row:List Tx):Except (Nat×Nat) (aI×List Rw):=
 if (letE (row.getD 1 [])).2≠0 then .error (ln,(letE (row.getD 1 [])).2) else .ok ({f with tr:=(letE (row.getD 1 [])).1},rows)
noncomputable def ib (f:aI) (rows:List Rw) (ln:Nat) (row:List Tx):Except (Nat×Nat) (aI×List Rw):=
 match dy (row.getD 1 []) 64 with
 | .error e=> .error (ln,e)
 | .ok n=>if n=0 then .error (ln,13) else .ok ({f with least:=n},rows)
noncomputable def gM (eof:Nat) (f:aI) (rows:List Rw) (ln:Nat) (row:List Tx):Except (Nat×Nat) (aI×List Rw):=
 match dy (row.getD 1 []) 256 with
 | .error e=> .error (ln,e)
 | .ok n=>match group [dE] gL eof n rows with
   | .error e=> .error e
   | .ok r=> .ok ({f with bN:=f.bN++r.1},r.2)
noncomputable def gu (eof:Nat) (f:aI) (hs:List Tx) (rows:List Rw) (ln:Nat) (row:List Tx):Except (Nat×Nat) (aI×List Rw):=
 if dQ∈hs∨bQ∈hs then .error (ln,113)
 else match dy (row.getD 1 []) 1024 with
  | .error e=> .error (ln,e)
  | .ok n=>match group [db] (gR f.kind) eof n rows with
    | .error e=> .error e
    | .ok r=> .ok ({f with aliases:=f.aliases++r.1},r.2)
noncomputable def bA (eof:Nat) (f:aI) (hs:List Tx) (rows:List Rw) (ln:Nat) (row:List Tx):Except (Nat×Nat) (aI×List Rw):=
 if row.getD 0 []∈cO then gO f rows ln row
 else if row.getD 0 []=eS then gT f hs rows ln row
 else if row.getD 0 []=e8 then jK f rows ln row
 else if row.getD 0 []=fu then jO f rows ln row
 else if row.getD 0 []=gz then ib f rows ln row
 else if row.getD 0 []=dE then gM eof f rows ln row
 else if row.getD 0 []=db then gu eof f hs rows ln row
 else eN eof f rows ln row
noncomputable def eH (eof:Nat):Nat→aI→List Tx→List Rw→Except (Nat×Nat) aI
 | 0,f,_,rows=>if rows= [] then .ok f else .error (0,0)
 | _+1,f,_,[]=> .ok f
 | k+1,f,hs,(ln,row)::rows=>
   if width (row.getD 0 [])=0 then .error (ln,110)
   else if row.length≠width (row.getD 0 []) then .error (ln,111)
   else if width (row.getD 0 [])=2∧row.getD 0 []∈hs then .error (ln,112)
   else match bA eof f hs rows ln row with
    | .error e=> .error e
    | .ok r=>eH eof k r.1 (hs++ [row.getD 0 []]) r.2
def jk (f:aI) (x:Nat):Bool:=decide (x=f.sp.getD 0 0) || (match dK f.a3 x with | some c=>decide (c.kind=2) | none=>false)
def jT (f:aI) (r:eK):Bool:=r.next.any fun x=> !jk f x
def fJ:aI:=⟨1,[],[],[0,0,0,0,0],3,[],[],[],[]⟩
noncomputable def eM (t:Tx):Except (Nat×Nat) aI:=
 if 65536 < t.length then .error (0,10)
 else match eH ((a7 t).length+1) (bh t).length fJ [] (bh t) with
  | .error e=> .error e
  | .ok f=>match f.rules.find? (jT f) with
    | some r=> .error (r.line,118)
    | none=> .ok f
theorem tP {α:Type} {hd:List Tx} {rd:Nat→List Tx→Except Nat α} {eof:Nat} :∀ (n:Nat) (rows:List Rw) (r:List α×List Rw),group hd rd eof n rows= .ok r→r.2.length≤rows.length∧r.1.length=n∧∀ q∈r.2,q∈rows:=by
 intro n
 induction n with
 | zero=>intro rows r h; simp only [group,Except.ok.injEq] at h; subst h; exact ⟨Nat.le_refl _,rfl,fun q hq=>hq⟩
 | succ n ih=>
   intro rows r h
   cases rows with
   | nil=>simp [group] at h
   | cons q rows=>
     obtain ⟨ln,row⟩:=q
     simp only [group] at h
     split at h
     · cases h
     · cases hr:rd ln row with
       | error e=>rw [hr] at h; cases h
       | ok x=>
         rw [hr] at h
         simp only at h
         cases hg:group hd rd eof n rows with
         | error e=>rw [hg] at h; cases h
         | ok a=>
           rw [hg] at h
           simp only [Except.ok.injEq] at h
           subst h
           have :=ih rows a hg
           refine ⟨by simp only [List.length_cons]; omega,by simp only [List.length_cons]; omega,fun q hq=>List.mem_cons_of_mem _ (this.2.2 q hq)⟩
def fz {α:Type} (hd:List Tx) (rd:Nat→List Tx→Except Nat α) (eof:Nat) (T:Except (Nat×Nat) (List α×List Rw)) (xs:List α) (n:Nat) (rows:List Rw):Prop :=
 T=match group hd rd eof n rows with
  | .error e=> .error e
  | .ok r=> .ok (xs++r.1,r.2)
theorem fz.start {α:Type} {hd:List Tx} {rd:Nat→List Tx→Except Nat α} {eof n:Nat} {rows:List Rw} :fz hd rd eof (group hd rd eof n rows) [] n rows:=by
 unfold fz; cases group hd rd eof n rows <;> rfl
section
variable {α:Type} {hd:List Tx} {rd:Nat→List Tx→Except Nat α} {eof n:Nat} {T:Except (Nat×Nat) (List α×List Rw)} {xs:List α} {rows:List Rw} {ln:Nat} {row:List Tx}
theorem fz.ends (h:fz hd rd eof T xs n []) (hn:0 < n):T= .error (eof,116):=by
 obtain ⟨m,rfl⟩:∃ m,n=m+1:=⟨n - 1,by omega⟩
 exact h
theorem fz.other (h:fz hd rd eof T xs n ((ln,row)::rows)) (hn:0 < n) (hr:row.take hd.length≠hd):T= .error (ln,116):=by
 obtain ⟨m,rfl⟩:∃ m,n=m+1:=⟨n - 1,by omega⟩
 unfold fz at h; simp only [group] at h; rw [if_pos hr] at h; exact h
theorem fz.bad {e:Nat} (h:fz hd rd eof T xs n ((ln,row)::rows)) (hn:0 < n) (hr:row.take hd.length=hd) (he:rd ln row= .error e):T= .error (ln,e):=by
 obtain ⟨m,rfl⟩:∃ m,n=m+1:=⟨n - 1,by omega⟩
 unfold fz at h; simp only [group] at h; rw [if_neg (fun h2=>h2 hr),he] at h; exact h
theorem fz.step {x:α} (h:fz hd rd eof T xs n ((ln,row)::rows)) (hn:0 < n) (hr:row.take hd.length=hd) (he:rd ln row= .ok x):fz hd rd eof T (xs++ [x]) (n - 1) rows:=by
 obtain ⟨m,rfl⟩:∃ m,n=m+1:=⟨n - 1,by omega⟩
 unfold fz at h ⊢; simp only [group] at h; rw [if_neg (fun h2=>h2 hr),he] at h
 simp only [Nat.add_sub_cancel] at h ⊢
 rw [h]
 cases group hd rd eof m rows with
 | error e=>rfl
 | ok r=>simp only [List.append_assoc]; rfl
theorem fz.done (h:fz hd rd eof T xs 0 rows):T= .ok (xs,rows):=by
 unfold fz at h; simpa [group] using h
end
end Go.Hb
end
section
set_option linter.unusedSimpArgs false
namespace Go.Hb
open Go.RowKit
open Classical
structure kj (P:Program) (k:TypeId) (isK:Value→Prop):Prop where
 key:ph P k isK
 stays:∀ w v,isK v→(Instr.keyThatStays v v).run P w= .ok v w
def fM (v:Value):Prop := ∃ s:List UInt8,v=str s
def lg (q:IntKind) (v:Value):Prop := ∃ a:Int,v= .int q a
theorem yQ {d:TypeDesc} {isK:Value→Prop} (hs:∀ x y,isK x→isK y→∃ a,Instr.sameNow d x y=some a∧(a=true↔x=y)) {x:Value} (q:isK x):∀ (es:List MapEntry) (i:Nat),(∀ e∈es,isK e.key)→
 (Instr.findNow d x es i=some none∧∀ e∈es,e.key≠x)∨∃ j e,Instr.findNow d x es i=some (some (i+j,e.val))∧es[j]? =some e∧e.key=x
 | [],i,_=> .inl ⟨rfl,fun _ h=>by simp at h⟩
 | e::es,i,h=>by
   obtain ⟨a,h1,h2⟩:=hs x e.key q (h e (by simp))
   cases a with
   | true =>exact .inr ⟨0,e,by simp [Instr.findNow,h1],rfl,(h2.1 rfl).symm⟩
   | false =>
     have hne:e.key≠x:=fun hh=>by cases h2.2 hh.symm
     rcases yQ hs q es (i+1) (fun e he=>h e (by simp [he])) with ⟨h3,h4⟩ | ⟨j,e',h3,h4,h5⟩
     · refine .inl ⟨by simp [Instr.findNow,h1,h3],fun e' p=> ?_⟩
       rcases List.mem_cons.1 p with rfl | p
       · exact hne
       · exact h4 e' p
     · refine .inr ⟨j+1,e',?_,h4,h5⟩
       simp only [Instr.findNow,h1,h3]; rw [show i+1 +j=i+(j+1) from by omega]
theorem z1 {P:Program} {k:TypeId} {d:TypeDesc} {isK:Value→Prop} (hk:P.underlying k=some d) (hs:∀ x y,isK x→isK y→∃ a,Instr.sameNow d x y=some a∧(a=true↔x=y)) (hc:∀ em w v,isK v→(Instr.checkKey em 10000 k v).run P w= .ok () w):ph P k isK where
 check:=hc
 find w x es hx hes:=by
  rcases yQ hs hx es 0 hes with ⟨h1,h2⟩ | ⟨j,e,h1,h2,h3⟩
  · exact .inl ⟨by simp [Instr.findKey,dd hk,h1],h2⟩
  · exact .inr ⟨j,e,by simp [Instr.findKey,dd hk,h1],h2,h3⟩
theorem wH (a b:ByteArray):(a==b)=decide (a=b):=by
 rw [Bool.eq_iff_iff,decide_eq_true_iff]
 show ((a.data==b.data)=true)↔_
 rw [beq_iff_eq]
 exact ⟨fun h=>by cases a; cases b; cases h; rfl,fun h=>by rw [h]⟩
theorem IF {P:Program} {k:TypeId} (hk:P.underlying k=some .string):kj P k fM where
 key:=z1 hk (by
  rintro _ _ ⟨a,rfl⟩ ⟨b,rfl⟩
  refine ⟨_,rfl,?_⟩
  rw [wH,decide_eq_true_iff]
  constructor
  · intro h; unfold str; rw [h]
  · intro h; unfold str at h; cases h; rfl) (by rintro em w _ ⟨a,rfl⟩; exact EA (n:=9999) hk w)
 stays w v hv:=by obtain ⟨a,rfl⟩:=hv; simp [Instr.keyThatStays,Instr.sameBits,str,wH]
theorem Ez {P:Program} {k:TypeId} {q r:IntKind} {em:Bool} {n:Nat} {a:Int} (hk:P.underlying k=some (.int q)) (w:World):(Instr.checkKey em (n+1) k (.int r a)).run P w= .ok () w:=by
 simp only [Instr.checkKey,Sem.run_bind,dd hk,Result.andThen_ok,Sem.run_pure]
theorem IE {P:Program} {k:TypeId} {q r:IntKind} (hk:P.underlying k=some (.int q)):kj P k (lg r) where
 key:=z1 hk (by
  rintro _ _ ⟨a,rfl⟩ ⟨b,rfl⟩
  refine ⟨decide (a=b),by simp [Instr.sameNow]; rfl,?_⟩
  rw [decide_eq_true_iff]
  exact ⟨fun h=>by rw [h],fun h=>by cases h; rfl⟩) (by rintro em w _ ⟨a,rfl⟩; exact Ez (n:=9999) hk w)
 stays w v hv:=by obtain ⟨a,rfl⟩:=hv; simp [Instr.keyThatStays,Instr.sameBits]
def bP (h:Array Obj) (b:Nat) (isK:Value→Prop) (f:Value→Option Value):Prop :=
 ∃ kvs,mm h b kvs∧(∀ p∈kvs,isK p.1)∧(kvs.map Prod.fst).Nodup∧∀ k v,f k=some v↔(k,v)∈kvs
theorem bP.md {F:Nat→Prop} {w w':World} {b:Nat} {isK:Value→Prop} {f:Value→Option Value} (h:bP w.heap b isK f) (hm:Md F w w') (hf:¬F b):bP w'.heap b isK f:=
 let ⟨kvs,h1,h2⟩:=h; ⟨kvs,h1.md hm hf,h2⟩
theorem bP.wk {w w':World} {b:Nat} {isK:Value→Prop} {f:Value→Option Value} (h:bP w.heap b isK f) (hm:Wk w w'):bP w'.heap b isK f:=h.md hm id
theorem bP.nil {h:Array Obj} {b:Nat} {isK:Value→Prop} {c:Nat} (hm:h[b]? =some (.map #[] c)):bP h b isK fun _=>none:=
 ⟨[],⟨_,_,hm,rfl⟩,fun p hp=>(by simp at hp),(by simp),fun k v=>(by simp)⟩
theorem bP.isMap {h:Array Obj} {b:Nat} {isK:Value→Prop} {f:Value→Option Value} (hm:bP h b isK f):∃ es c,h[b]? =some (.map es c):=let ⟨_,⟨es,c,h1,_⟩,_⟩:=hm; ⟨es,c,h1⟩
theorem bP.lj {h:Array Obj} {b:Nat} {isK:Value→Prop} {f:Value→Option Value} (hm:bP h b isK f) {cur:Array Value} {e:TypeId} {z:Nat×Nat} :h[b]?≠some (.cells cur e z):=by
 obtain ⟨es,c,h1⟩:=hm.isMap; rw [h1]; intro h; cases h
noncomputable def bj (f:Value→Option Value) (k v:Value):Value→Option Value:=fun q=>if q=k then some v else f q
theorem oR (f:Value→Option Value) (k v:Value):bj f k v k=some v:=if_pos rfl
theorem nH {f:Value→Option Value} {k v q:Value} (h:q≠k):bj f k v q=f q:=if_neg h
section
variable {P:Program} {N:Fm} {σ:Nat→Value} {w:World} {dst:Option Nat} {ty:TypeId} {pos :String} {af:Array Edge} {g:Option (Nat×Bool)} {x y z:Operand} {K:(Nat→Value)→World→Prop}
variable {t k e:TypeId} {isK:Value→Prop} {b:Nat} {f:Value→Option Value} {kx v zv:Value}
theorem Ac {ok:Bool} (i:P.underlying t=some (.map k e)) (hz:zeroV P e=some zv) (a:kj P k isK) (hm:bP w.heap b isK f) (j:ev N σ x= .map (some b)) (hy:ev N σ y=kx) (hi:isK kx):
 (execOp (ev N σ) ⟨dst,.lookup t x y ok,ty,pos,af,g⟩).run P w= .ok (.value (if ok then .tuple #[(f kx).getD zv,.bool (f kx).isSome] else (f kx).getD zv)) w:=by
 obtain ⟨kvs,h1,h2,h3,h4⟩:=hm
 cases hf:f kx with
 | none=>exact IY i hz a.key h1 h2 j hy hi (fun v hv=>by rw [← h4] at hv; rw [hf] at hv; cases hv)
 | some v=>exact IX i a.key h1 h2 j hy hi h3 ((h4 kx v).1 hf)
theorem j7 (i:P.underlying t=some (.map k e)) (hz:zeroV P e=some zv) (a:kj P k isK) (hm:bP w.heap b isK f) (j:ev N σ x= .map (some b)) (hy:ev N σ y=kx) (hi:isK kx) (hv:(f kx).getD zv=v):
 (execOp (ev N σ) ⟨dst,.lookup t x y false,ty,pos,af,g⟩).run P w= .ok (.value v) w:=by
 rw [Ac i hz a hm j hy hi,hv]; rfl
theorem Ad {ob:Bool} (j:P.underlying t=some (.map k e)) (hz:zeroV P e=some zv) (a:kj P k isK) (hm:bP w.heap b isK f) (p:ev N σ x= .map (some b)) (hy:ev N σ y=kx) (hi:isK kx) (hv:(f kx).getD zv=v) (i:(f kx).isSome=ob):
 (execOp (ev N σ) ⟨dst,.lookup t x y true,ty,pos,af,g⟩).run P w= .ok (.value (.tuple #[v,.bool ob])) w:=by
 rw [Ac j hz a hm p hy hi,hv,i]; rfl
theorem BZ (O:P.underlying t=some (.map k e)) (E:kj P k isK) (hm:bP w.heap b isK f) (hi:isK kx):
 ∃ w',(Instr.mapUpdate t (.map (some b)) kx v).run P w= .ok () w'∧Md (fun j=>j=b) w w'∧bP w'.heap b isK (bj f kx v):=by
 obtain ⟨kvs,⟨es,c,hr,he⟩,h2,h3,h4⟩:=hm
 have hb:=(Array.getElem?_eq_some_iff.1 hr).1
 rcases E.key.find w kx es.toList hi (ta he h2) with ⟨h1,ac⟩ | ⟨j,e',h1,A,h5⟩
 · have M:∀ u,(kx,u)∉kvs:=fun u hu=>by
    rw [← he] at hu
    obtain ⟨U,Z,V⟩:=List.mem_map.1 hu
    cases V
    exact ac U Z rfl
   refine ⟨{w with heap:=w.heap.setIfInBounds b (.map (es.push {key:=kx,val:=v,born:=c}) (c+1))},by simp [Instr.mapUpdate,dd O,run_getObj_map hr,E.key.check _ w kx hi,h1,setObj,Sem.run,hr],⟨rfl,rfl,by simp,fun i _ hne=>by simp only; rw [Array.getElem?_setIfInBounds_ne (fun e=>hne e.symm)]⟩,kvs++ [(kx,v)],⟨_,_,by simp only; rw [Array.getElem?_setIfInBounds_self_of_lt hb],by simp [he]⟩,?_,?_,?_⟩
   · intro p hp
     rcases List.mem_append.1 hp with hp | hp
     · exact h2 p hp
     · rw [List.mem_singleton.1 hp]; exact hi
   · rw [List.map_append,List.nodup_append]
     refine ⟨h3,by simp,?_⟩
     intro a ha ag I Y
     simp at I
     subst Y I
     obtain ⟨p,hp,ae⟩:=List.mem_map.1 ha
     exact M p.2 (by rw [← ae]; exact hp)
   · intro q u
     unfold bj
     rw [List.mem_append,List.mem_singleton]
     by_cases hq:q=kx
     · subst hq
       rw [if_pos rfl]
       constructor
       · intro h; cases h; exact .inr rfl
       · rintro (h | h)
         · exact absurd h (M u)
         · cases h; rfl
     · rw [if_neg hq,h4]
       constructor
       · exact .inl
       · rintro (h | h)
         · exact h
         · cases h; exact absurd rfl hq
 · have ah:j < es.size:=by have :=(List.getElem?_eq_some_iff.1 A).1; simpa using this
   have J:es[j]? =some e':=by simpa using A
   refine ⟨{w with heap:=w.heap.setIfInBounds b (.map (es.modify j fun e=> {e with key:=kx,val:=v}) c)},?_,⟨rfl,rfl,by simp,fun i _ hne=>by simp only; rw [Array.getElem?_setIfInBounds_ne (fun e=>hne e.symm)]⟩,kvs.set j (kx,v),⟨_,_,by simp only; rw [Array.getElem?_setIfInBounds_self_of_lt hb],?_⟩,?_,?_,?_⟩
   · have hs:=E.stays w kx hi
     simp [Instr.mapUpdate,dd O,run_getObj_map hr,E.key.check _ w kx hi,h1,J,h5,hs,setObj,Sem.run,hr]
   · rw [← he]
     apply List.ext_getElem?
     intro i
     simp only [Array.toList_modify,List.getElem?_map,List.getElem?_modify,List.getElem?_set,List.length_map]
     by_cases C:j=i
     · subst C; rw [A]; simp; have :=(List.getElem?_eq_some_iff.1 A).1; simpa using this
     · simp [C]
   · intro p hp
     rcases List.mem_or_eq_of_mem_set hp with hp | hp
     · exact h2 p hp
     · rw [hp]; exact hi
   · have :(kvs.set j (kx,v)).map Prod.fst=kvs.map Prod.fst:=by
      apply List.ext_getElem?
      intro i
      simp only [List.getElem?_map,List.getElem?_set]
      by_cases C:j=i
      · subst C
        rw [← he]; simp only [List.getElem?_map,A,List.length_map]
        have :=(List.getElem?_eq_some_iff.1 A).1
        simp [this,h5]
        simpa using this
      · simp [C]
     rw [this]; exact h3
   · intro q u
     have G:kvs[j]? =some (kx,e'.val):=by rw [← he]; simp [A,h5,J]
     have hlj:=(List.getElem?_eq_some_iff.1 G).1
     have ab:(kx,v)∈kvs.set j (kx,v):=List.mem_of_getElem? (i:=j) (by rw [List.getElem?_set,if_pos rfl,if_pos hlj])
     unfold bj
     by_cases hq:q=kx
     · subst hq
       rw [if_pos rfl]
       constructor
       · intro h; cases h; exact ab
       · intro h
         obtain ⟨i,s⟩:=List.getElem?_of_mem h
         rw [List.getElem?_set] at s
         split at s
         · rename_i aa
           subst aa
           cases s; rfl
         · rename_i hne
           exfalso
           exact hne ((List.getElem?_inj (i:=j) (j:=i) (by simpa using hlj) h3).1 (by simp [G,s]))
     · rw [if_neg hq,h4]
       constructor
       · intro h
         obtain ⟨i,s⟩:=List.getElem?_of_mem h
         have hne:j≠i:=by rintro rfl; rw [G] at s; cases s; exact hq rfl
         exact List.mem_of_getElem? (i:=i) (by rw [List.getElem?_set,if_neg hne]; exact s)
       · intro h
         rcases List.mem_or_eq_of_mem_set h with h | h
         · exact h
         · cases h; exact absurd rfl hq
theorem nQ (i:P.underlying t=some (.map k e)) (a:kj P k isK) (hm:bP w.heap b isK f) (p:ev N σ x= .map (some b)) (hy:ev N σ y=kx) (hz:ev N σ z=v) (hi:isK kx)
 (q:∀ w',Md (fun j=>j=b) w w'→bP w'.heap b isK (bj f kx v)→K σ w'):cH P N ⟨none,.mapUpdate t x y z,ty,pos,af,g⟩ σ w K:=by
 obtain ⟨w',h1,h2,h3⟩:=BZ (v:=v) i a hm hi
 have hrun:(execOp (ev N σ) ⟨none,.mapUpdate t x y z,ty,pos,af,g⟩).run P w= .ok .skip w':=by
  simp [execOp,p,hy,hz,h1]
 unfold cH Oper.wp
 rw [fI,hrun]
 exact ⟨σ,rfl,q w' h2 h3⟩
theorem jj (i:P.underlying t=some (.map k e)) (a:kj P k isK) (hm:bP w.heap b isK f) (p:ev N σ x= .map (some b)) (hy:ev N σ y=kx) (hz:ev N σ z=v) (hi:isK kx)
 (q:∀ w',Md (fun j=>j=b) w w'→bP w'.heap b isK (bj f kx v)→K σ w'):cH P N ⟨none,.insert t x y z,ty,pos,af,g⟩ σ w K:=by
 obtain ⟨w',h1,h2,h3⟩:=BZ (v:=v) i a hm hi
 have hrun:(execOp (ev N σ) ⟨none,.insert t x y z,ty,pos,af,g⟩).run P w= .ok .skip w':=by
  simp [execOp,p,hy,hz,h1]
 unfold cH Oper.wp
 rw [fI,hrun]
 exact ⟨σ,rfl,q w' h2 h3⟩
end
end Go.Hb
end
section
namespace Go.Hb
section
variable {P:Program} {N:Fm} {σ:Nat→Value} {w:World} {fn:Func} {R:Value→World→Prop}
theorem I4 {t b off :Nat} {v:Value} (hu:cA P t=some none) (hc:Hb.aE w.heap b off =some v):(loadVar t ⟨b,off,none⟩).run P w= .ok v w:=by
 have a:w.cell? ⟨b,off,none⟩=some v:=by rw [jU]; exact hc
 unfold cA at hu
 cases hd:P.underlying t with
 | none=>rw [hd] at hu; cases hu
 | some d=>
   rw [hd] at hu
   cases d <;> first
    | (simp only [Option.map_eq_some_iff] at hu; obtain ⟨_,_,h⟩:=hu; cases h; done)
    | simp [loadVar,isAgg,dd hd,run_load,a]
theorem I5 {t n b off :Nat} {cs:List Value} (hu:cA P t=some (some n)) (hl:cs.length=n) (hc:∀ j,j < n→Hb.aE w.heap b (off+j)=cs[j]?):(loadVar t ⟨b,off,none⟩).run P w= .ok (.agg cs.toArray) w:=by
 have p:(loadCells ⟨b,off,none⟩ n).run P w= .ok cs.toArray w:=by
  subst hl
  refine run_loadCells_list (P:=P) w ⟨b,off,none⟩ cs fun j v a=> ?_
  rw [jc,jU]
  exact (hc j (List.getElem?_eq_some_iff.1 a).1).trans a
 unfold cA at hu
 cases hd:P.underlying t with
 | none=>rw [hd] at hu; cases hu
 | some d=>
   rw [hd] at hu
   cases hi:P.info? t with
   | none=>simp [Program.underlying,hi] at hd
   | some i=>
     rw [hi] at hu
     cases d <;> first
      | (cases hu; done)
      | (simp only [Option.map_some,Option.some.injEq] at hu; subst hu
         simp [loadVar,isAgg,dd hd,sizeOf,fF hi,p])
def jS (P:Program) (N:Fm) (σ:Nat→Value) (w:World):ResultVar→Value→Prop
 | .tmp t,v=>ev N σ (.tmp t)=v
 | .cell a t,v=> ∃ ad,ev N σ (.tmp a)= .pointer (some ad)∧(loadVar t ad).run P w= .ok v w
theorem dF {t:Tmp} :jS P N σ w (.tmp t) (ev N σ (.tmp t)):=rfl
theorem uT {a t b off :Nat} {v:Value} (i:ev N σ (.tmp a)= .pointer (some ⟨b,off,none⟩)) (hu:cA P t=some none) (hc:Hb.aE w.heap b off =some v):jS P N σ w (.cell a t) v:=⟨_,i,I4 hu hc⟩
theorem c9 {a t n b off :Nat} {cs:List Value} (i:ev N σ (.tmp a)= .pointer (some ⟨b,off,none⟩)) (hu:cA P t=some (some n)) (hl:cs.length=n) (hc:∀ j,j < n→Hb.aE w.heap b (off+j)=cs[j]?):jS P N σ w (.cell a t) (.agg cs.toArray):=⟨_,i,I5 hu hl hc⟩
def kH (tmps:Array Value):ResultVar→Sem Value
 | .tmp t=>pure (tmps.getD t undef)
 | .cell a t=>do loadVar t (← asAddr (tmps.getD a undef))
theorem jJ {r:ResultVar} {v:Value} (h:jS P N σ w r v):(kH (act N σ).tmps r).run P w= .ok v w:=by
 cases r with
 | tmp t=>
   show Sem.run P (pure ((act N σ).tmps.getD t undef)) w=_
   rw [ka]; simp only [jS] at h; rw [h]; rfl
 | cell a t=>
   obtain ⟨ad,h1,h2⟩:=h
   show Sem.run P (do loadVar t (← asAddr ((act N σ).tmps.getD a undef))) w=_
   rw [ka,h1]
   simp [asAddr,h2]
theorem KH {tmps:Array Value} {r:ResultVar} {v:Value} (h:fn.results= #[r]) (h1:(kH tmps r).run P w= .ok v w):(results fn tmps).run P w= .ok v w:=by
 have a:(results fn tmps)=(do let vs ← #[r].mapM (kH tmps); pure (if h:vs.size=1 then vs[0] else .tuple vs)):=by
  unfold results; rw [h]; rfl
 rw [a]; simp [List.mapM_toArray,h1]
theorem q8 {tmps:Array Value} {r s:ResultVar} {v u:Value} (h:fn.results= #[r,s]) (h1:(kH tmps r).run P w= .ok v w) (h2:(kH tmps s).run P w= .ok u w):(results fn tmps).run P w= .ok (.tuple #[v,u]) w:=by
 have a:(results fn tmps)=(do let vs ← #[r,s].mapM (kH tmps); pure (if h:vs.size=1 then vs[0] else .tuple vs)):=by
  unfold results; rw [h]; rfl
 rw [a]; simp [List.mapM_toArray,h1,h2]
theorem KI {tmps:Array Value} {r s q:ResultVar} {v u z:Value} (h:fn.results= #[r,s,q]) (h1:(kH tmps r).run P w= .ok v w) (h2:(kH tmps s).run P w= .ok u w) (h3:(kH tmps q).run P w= .ok z w):(results fn tmps).run P w= .ok (.tuple #[v,u,z]) w:=by
 have a:(results fn tmps)=(do let vs ← #[r,s,q].mapM (kH tmps); pure (if h:vs.size=1 then vs[0] else .tuple vs)):=by
  unfold results; rw [h]; rfl
 rw [a]; simp [List.mapM_toArray,h1,h2,h3]
theorem ow {r:ResultVar} {v:Value} (h:fn.results= #[r]) (h1:jS P N σ w r v) (a:R v w):fin P fn N R .ret σ w:=⟨v,KH h (jJ h1),a⟩
theorem dP {r s:ResultVar} {v u:Value} (h:fn.results= #[r,s]) (h1:jS P N σ w r v) (h2:jS P N σ w s u) (a:R (.tuple #[v,u]) w):fin P fn N R .ret σ w:=⟨_,q8 h (jJ h1) (jJ h2),a⟩
theorem yJ {r s q:ResultVar} {v u z:Value} (h:fn.results= #[r,s,q]) (h1:jS P N σ w r v) (h2:jS P N σ w s u) (h3:jS P N σ w q z) (a:R (.tuple #[v,u,z]) w):fin P fn N R .ret σ w:=⟨_,KI h (jJ h1) (jJ h2) (jJ h3),a⟩
end
end Go.Hb
end
section
namespace Go.Hb
open Go.RowKit
def kK (P:Program) (N:Fm) (c:Code) (B:Exit→Act→World→Prop) (σ:Nat→Value) (w:World):Prop :=c.wpIn (fe N.r) 0 P B (act N σ) w
def qb (N:Fm) (B:Exit→Act→World→Prop):Exit→(Nat→Value)→World→Prop :=fun e σ w=>B e (act N σ) w
section
variable {P:Program} {N:Fm} {B:Exit→Act→World→Prop} {σ:Nat→Value} {w:World}
theorem fc {x y:Code} (h:kK P N x (Exit.then (y.wpIn (fe N.r) 0 P B) B) σ w):kK P N (.seq x y) B σ w:=wpIn_seq h
theorem fy {y:Code} (h:kK P N y B σ w):qb N (Exit.then (y.wpIn (fe N.r) 0 P B) B) .normal σ w:=h
theorem uM {y:Act→World→Prop} (h:qb N B .ret σ w):qb N (Exit.then y B) .ret σ w:=h
theorem uV (h:qb N B .ret σ w):kK P N .ret B σ w:=wpIn_ret h
theorem fN {c:Code} (h:c5 P N c (qb N B) σ w):kK P N c B σ w:=by
 unfold c5 at h
 refine wpIn_mono h ?_
 intro e a w hl
 cases e with
 | panic c=>obtain ⟨σ,rfl,hq⟩:=hl; exact hq σ fun _ _=>rfl
 | outgrown=>exact hl.elim
 | _=>obtain ⟨σ,rfl,hq⟩:=hl; exact hq
end
theorem rf (fn:Func) (args:List Value) (F:List Nat) (hn:Nat.ble args.length fn.ntmps=true):({tmps:=args.toArray++Array.replicate (fn.ntmps - args.toArray.size) undef,defers:= []} :Act)=act ⟨fn.ntmps,[],F,none⟩ (jo args):=by
 have a:args.length≤fn.ntmps:=by simpa using hn
 refine pA rfl fun i=> ?_
 rw [kT]
 simp only [jo,List.getD_eq_getElem?_getD,List.size_toArray]
 by_cases h1:i < args.length
 · rw [Array.getElem?_append_left (by simpa using h1),if_pos (by omega)]
   simp [h1]
 · rw [Array.getElem?_append_right (by simpa using h1)]
   simp only [List.size_toArray,Array.getElem?_replicate]
   by_cases h2:i < fn.ntmps
   · rw [if_pos (by omega),if_pos h2,List.getElem?_eq_none (by omega)]; rfl
   · rw [if_neg (by omega),if_neg h2]
abbrev Bm (P:Program) (fn:Func) (R:Value→World→Prop):Exit→Act→World→Prop :=bodyPostM Fence.wide 0 P fn (fun e w'=> ∃ v,e= .returned v∧R v w')
theorem yG {P:Program} {f:FuncId} {N:Nat} {fn:Func} {c:Code} {args:List Value} {w:World} {R:Value→World→Prop} (F:List Nat) (hf:P.funcs[f]? =some fn) (hb:fn.body=some c)
 (a:fn.ntmps=N) (hn:Nat.ble args.length N=true) (h:kK P ⟨N,[],F,none⟩ c (Bm P fn R) (jo args) w):aU P f args.toArray w R:=by
 subst a
 refine callsIn_wide.1 (callsIn_of_wp_marks (F:=Fence.wide) (n:=0) hf hb trivial ?_)
 rw [rf fn args F hn]
 exact h
section
variable {P:Program} {n:Nat} {F:List Nat} {σ:Nat→Value} {w:World} {fn:Func} {R:Value→World→Prop}
theorem IN {e:Exit} (he:e= .ret∨e= .normal) {v:Value} (hr:(results fn (act ⟨n,[],F,none⟩ σ).tmps).run P w= .ok v w) (a:R v w):qb ⟨n,[],F,none⟩ (Bm P fn R) e σ w:=by
 rcases he with rfl | rfl <;> exact ⟨v,hr,v,rfl,a⟩
theorem yH {t u:Nat} {v v':Value} (h:fn.results= #[.tmp t,.tmp u]) (hv:ev ⟨n,[],F,none⟩ σ (.tmp t)=v) (hu:ev ⟨n,[],F,none⟩ σ (.tmp u)=v') (a:R (.tuple #[v,v']) w):qb ⟨n,[],F,none⟩ (Bm P fn R) .ret σ w:=
 IN (.inl rfl) (by rw [results_tmp2 h,ka,ka,hv,hu]) a
theorem IP {D:Nat} {v:Value} (a:w.heap[D]? =some (.deferred (some []))) (hr:∀ w',(results fn (act ⟨n,[{target:= .collected D,args:= #[]}],F,none⟩ σ).tmps).run P w'= .ok v w') (i:R v (w.putObj D (.deferred none))):
 qb ⟨n,[{target:= .collected D,args:= #[]}],F,none⟩ (Bm P fn R) .ret σ w:=
 ⟨FrameMode.noConfusion,.inl ⟨_,_,rfl,run_takeDeferred a,⟨v,hr _,v,rfl,i⟩⟩⟩
theorem yI {D t u:Nat} {v v':Value} (h:fn.results= #[.tmp t,.tmp u]) (hv:ev ⟨n,[{target:= .collected D,args:= #[]}],F,none⟩ σ (.tmp t)=v) (hu:ev ⟨n,[{target:= .collected D,args:= #[]}],F,none⟩ σ (.tmp u)=v')
 (a:w.heap[D]? =some (.deferred (some []))) (i:R (.tuple #[v,v']) (w.putObj D (.deferred none))):qb ⟨n,[{target:= .collected D,args:= #[]}],F,none⟩ (Bm P fn R) .ret σ w:=
 IP a (fun w'=>by rw [results_tmp2 h,ka,ka,hv,hu]) i
end
theorem cw {w:World} {B t size n pp a:Nat} {v:Value} {xs:List Value} {cs:Array Value} {z:Nat×Nat} (h:w.ownsRow B t size v n xs) (hp:w.heap[pp]? =some (.cells cs a z)) (hne:t≠a):v.ownBlock≠some pp:=by
 intro hk
 rcases h.2 with ⟨h1,_⟩ | ⟨g,cap,cur,h1,_,hg,_⟩
 · rw [h1] at hk; simp [Value.ownBlock] at hk
 · rw [h1] at hk
   simp only [Value.ownBlock,Option.some.injEq] at hk
   subst hk
   rw [hg] at hp
   simp only [Option.some.injEq,Obj.cells.injEq] at hp
   exact hne hp.2.1
section
variable {P:Program} {N:Fm} {σ:Nat→Value} {w:World} {dst:Option Nat} {ty:TypeId} {pos :String} {af:Array Edge} {g:Option (Nat×Bool)} {x:Operand} {K:(Nat→Value)→World→Prop}
theorem C6 {e:TypeId} {v:Value} (a:ev N σ x=v) (h1:v.oneCell'=true) (k:∀ b w',b=w.heap.size→Nw w w'→w'.heap[b]? =some (.cells [v].toArray e (0,0))→K (fi σ dst (.pointer (some ⟨b,0,none⟩))) w'):
 cH P N ⟨dst,.box e x,ty,pos,af,g⟩ σ w K:=by
 refine kM (v:=fun b=> .pointer (some ⟨b,0,none⟩)) (ob:= .cells [v].toArray e (0,0)) ?_ k
 have :=l8 h1
 simp [execOp,Instr.box,a,this,newVar,newRow]
end
theorem nD (w:World) (k:Nat) (o:Obj):Md (fun j=>j=k) w (w.putObj k o):=
 ⟨rfl,rfl,by simp [World.putObj],fun j _ hne=>World.putObj_heap_other hne⟩
def gE (w w':World):Prop := ∀ (k:Nat) (o:Obj),w.heap[k]? =some o→(∀ cur e z,o≠.cells cur e z)→w'.heap[k]? =some o
theorem gE.trans {a b c:World} (h:gE a b) (i:gE b c):gE a c:=fun k o j hn=>i k o (h k o j hn) hn
theorem gE.md {F:Nat→Prop} {w w':World} (hm:Md F w w') (hF:∀ k,F k→∃ cur e z,w.heap[k]? =some (.cells cur e z)):gE w w':=fun k o a hn=>by
 rw [hm.gp k (Array.getElem?_eq_some_iff.1 a).1 (fun hk=>by obtain ⟨c,e,z,h⟩:=hF k hk; rw [a] at h; exact hn _ _ _ (Option.some.inj h))]; exact a
theorem gE.wk {w w':World} (hm:Wk w w'):gE w w':=gE.md hm fun _ h=>h.elim
theorem oP {w:World} {B e size n:Nat} {v:Value} {xs:List Value} (h:w.ownsRow B e size v n xs):∀ k,v.ownBlock=some k→∃ cur e z,w.heap[k]? =some (.cells cur e z):=by
 intro k hk
 rcases h.2 with ⟨rfl,_⟩ | ⟨g,cap,a,rfl,_,hg,_⟩
 · simp [Value.ownBlock] at hk
 · simp only [Value.ownBlock,Option.some.injEq] at hk; subst hk; exact ⟨_,_,_,hg⟩
def Cx {α:Type} (B:Nat) (a:List α→World→Prop):Prop := ∀ pre W W' (F:Nat→Prop),a pre W→Md F W W'→(∀ k,F k→B≤k∧∀ cur e z,W.heap[k]?≠some (.cells cur e z))→a pre W'
section
variable {F:Nat→Prop} {W W':World} {B:Nat}
theorem ry {b e:Nat} {cs:Array Value} {z:Nat×Nat} (h:W.heap[b]? =some (.cells cs e z)) (hm:Md F W W') (hF:∀ k,F k→B≤k∧∀ cur e z,W.heap[k]?≠some (.cells cur e z)):W'.heap[b]? =some (.cells cs e z):=by
 rw [hm.gp b (Array.getElem?_eq_some_iff.1 h).1 (fun hk=>(hF b hk).2 _ _ _ h)]; exact h
theorem BG {a e size n:Nat} {v:Value} {xs:List Value} (h:W.ownsRow a e size v n xs) (hm:Md F W W') (hF:∀ k,F k→B≤k∧∀ cur e z,W.heap[k]?≠some (.cells cur e z)):W'.ownsRow a e size v n xs:=
 bS h hm fun k hk hf=>by obtain ⟨c,e,z,h1⟩:=oP h k hk; exact (hF k hf).2 _ _ _ h1
theorem BH {w:World} (h:Wk w W) (hm:Md F W W') (hB:w.heap.size≤B) (hF:∀ k,F k→B≤k∧∀ cur e z,W.heap[k]?≠some (.cells cur e z)):Wk w W':=Md.trans' h hm fun k hk hf=>by have :=(hF k hf).1; omega
end
def vK {α:Type} (P:Program) (q:Nat) (lb:Array Value) (p:α→Array Value) (xs:List α) (j:World→Prop):Prop :=
 ∀ (l:Nat) (a:List α→World→Prop) (W:World),a [] W→(∀ pre W,a pre W→j W)→(∀ pre W1 i,a pre W1→Wk W1 i→a pre i)→
   (∀ pre x rest W1,xs=pre++x::rest→a pre W1→YieldAt Fence.wide 0 P l (p x) W1 fun e W'=>e= .returned (.bool true)∧a (pre++ [x]) W')→
   Calls P q (#[.func (.yield l) #[] #[]]++lb) W fun e W'=>(∃ v,e= .returned v)∧a xs W'
def KC (R:World→Prop):Exit→(Nat→Value)→World→Prop
 | .normal,_,w=>R w
 | _,_,_=>False
theorem Cz (N:Fm):∀ (l:List (Tmp×Value)) (σ:Nat→Value),l.foldl (fun t p=>t.setIfInBounds p.1 p.2) (act N σ).tmps=(act N (l.foldl (fun s p=>cW s p.1 p.2) σ)).tmps:=by
 intro l
 induction l with
 | nil=>intro σ; rfl
 | cons p l ih=>
   intro σ
   rw [List.foldl_cons,List.foldl_cons,← ih]
   congr 1
   have :=congrArg Act.tmps (gP N σ (some p.1) p.2)
   exact this
theorem A2 {α:Type} {P:Program} {id n:Nat} {g:Operand} {ps:Array Tmp} {M body:Code} {I:List Nat} {σ:Nat→Value} {w:World} {B:Exit→Act→World→Prop} {J:Nat} {lb:Array Value}
 (E:α→Array Value) (xs:List α) (Y:World→Prop) (i:List α→World→Prop) (hg:ev ⟨n,[],I,none⟩ σ g= .func (.func J) #[] lb) (hc:aV P J) (ao:∀ x,(E x).size=ps.size)
 (am:vK P J lb E xs Y) (ae:i [] w) (aj:∀ pre W,i pre W→Y W) (O:Cx w.heap.size i) (ab:α→Nat→Value)
 (ha:∀ (l:Nat) (x:α) (W:World) (K:(Nat→Value)→World→Prop),K (ab x) W→c5 P ⟨n,[],[],some l⟩ M (jN K fun _ _ _=>False) ((ps.toList.zip (E x).toList).foldl (fun s p=>cW s p.1 p.2) σ) W)
 (hb:∀ (l:Nat) (pre:List α) (x:α) (rest:List α) (W:World),xs=pre++x::rest→i pre W→c5 P ⟨n,[],[],some l⟩ body (KC fun W'=>gE W W'∧i (pre++ [x]) W') (ab x) W)
 (hd:∀ (D:Nat) (W:World),w.heap.size≤D→i xs W→W.heap[D]? =some (.deferred (some []))→qb ⟨n,[{target:= .collected D,args:= #[]}],I,none⟩ B .normal σ W):
 kK P ⟨n,[],I,none⟩ (.block id (.rangeFunc g ps M body)) B σ w:=by
 refine wpIn_block (wpIn_rangeFunc ?_)
 intro fn _
 obtain ⟨rc,G⟩:∃ rc:LoopState→Option Code→Loop,rc=fun st aq=> {state:=st,pending:=aq,fn,tmps:=(act ⟨n,[],I,none⟩ σ).tmps,params:=ps,assign:=M,body,defers:=w.heap.size} :=⟨_,rfl⟩
 obtain ⟨W1,U⟩:∃ W1,(w.alloc (.deferred (some []))).alloc (.loop (rc .ready none))=W1:=⟨_,rfl⟩
 have ai:W1.heap[w.heap.size+1]? =some (.loop (rc .ready none)):=by
  rw [← U]; have :=World.alloc_heap_new (w.alloc (.deferred (some []))) (.loop (rc .ready none)); rwa [World.size_alloc] at this
 have ah:W1.heap[w.heap.size]? =some (.deferred (some [])):=by
  rw [← U]; exact (Below.heap_alloc _ _ _ (by simp)).trans (World.alloc_heap_new w _)
 have hn:∀ (W:World) (o:Obj),Wk W (W.alloc o):=fun W o=>(Av W o).md
 have ag:i [] W1:=by rw [← U]; exact O _ _ _ _ (O _ _ _ _ ae (hn _ _) (fun _ h=>h.elim)) (hn _ _) (fun _ h=>h.elim)
 have ak:(act ⟨n,[],I,none⟩ σ).eval g= .func (.func J) #[] lb:=by rw [fI]; exact hg
 refine ⟨w.heap.size+1,[{target:= .collected w.heap.size,args:= #[]}],W1,{target:= .fn (.func J) lb,args:= #[.func (.yield (w.heap.size+1)) #[] #[]]},W1,J,
  #[.func (.yield (w.heap.size+1)) #[] #[]]++lb,W1,?_,?_,fun _ _=>trivial,?_,fun h0=>(by cases h0),?_⟩
 · rw [← U,G]; exact run_enterLoop_outer _ _ _ _ _
 · simp only [resolve,ak]
   simp [go_sem]
 · have :=hc (#[.func (.yield (w.heap.size+1)) #[] #[]]++lb) W1
   simp [invoke,go_sem,this]
 · have hput:∀ (pre:List α) (W:World) (o V:Obj),i pre W→W.heap[w.heap.size+1]? =some o→(∀ cur e z,o≠.cells cur e z)→i pre (W.putObj (w.heap.size+1) V):=fun pre W o V h1 h2 h3=>
    O _ _ _ _ h1 (nD W _ V) fun k hk=>⟨by omega,fun cur e z h4=>by subst hk; rw [h2] at h4; exact h3 _ _ _ (Option.some.inj h4)⟩
   refine callsIn_wide.2 (Calls.mono (am (w.heap.size+1)
    (fun pre W=>i pre W∧W.heap[w.heap.size+1]? =some (.loop (rc .ready none))∧W.heap[w.heap.size]? =some (.deferred (some [])))
    W1 ⟨ag,ai,ah⟩ (fun pre W h=>aj pre W h.1)
    (fun pre A C h hm=>⟨O _ _ _ _ h.1 hm (fun _ h=>h.elim),(hm.gp _ (Array.getElem?_eq_some_iff.1 h.2.1).1 (fun h=>h)).trans h.2.1,(hm.gp _ (Array.getElem?_eq_some_iff.1 h.2.2).1 (fun h=>h)).trans h.2.2⟩) ?_) ?_)
   · rintro pre x rest W ap ⟨hi,hl,hk⟩
     have hlt:w.heap.size+1 < W.heap.size:=(Array.getElem?_eq_some_iff.1 hl).1
     have hy:=run_yield (P:=P) (args:=E x) hl (by rw [G]; exact ao x)
     rw [G] at hy
     refine ⟨fn,_,M,body,hy,roundIn_of_wpIn (F:=Fence.wide) trivial ?_⟩
     have hset:((ps.zip (E x)).foldl (fun tmps (p:Tmp×Value)=>tmps.setIfInBounds p.1 p.2) (act ⟨n,[],I,none⟩ σ).tmps)=(act ⟨n,[],[],some (w.heap.size+1)⟩ ((ps.toList.zip (E x).toList).foldl (fun s p=>cW s p.1 p.2) σ)).tmps:=by
      rw [← Array.foldl_toList,Array.toList_zip]
      exact Cz ⟨n,[],[],some (w.heap.size+1)⟩ _ σ
     have h1:=ha (w.heap.size+1) x W (fun q W'=> ∃ aa,(Instr.beginRound (w.heap.size+1)).run P W'= .ok () aa∧
      body.wpIn (Fence.wide.inRound (w.heap.size+1)) 0 P (roundPost P (w.heap.size+1) fun e W'=>e= .returned (.bool true)∧i (pre++ [x]) W'∧W'.heap[w.heap.size+1]? =some (.loop (rc .ready none))∧W'.heap[w.heap.size]? =some (.deferred (some []))) (act ⟨n,[],[],some (w.heap.size+1)⟩ q) aa) ?_
     · unfold c5 at h1
       have ac:({tmps:=(ps.zip (E x)).foldl (fun tmps (p:Tmp×Value)=>tmps.setIfInBounds p.1 p.2) (act ⟨n,[],I,none⟩ σ).tmps,defers:= []} :Act)=act ⟨n,[],[],some (w.heap.size+1)⟩ ((ps.toList.zip (E x).toList).foldl (fun s p=>cW s p.1 p.2) σ):=by rw [hset]; rfl
       rw [ac]
       refine wpIn_mono h1 ?_
       intro e a w' j
       cases e with
       | normal=>obtain ⟨q,rfl,hq⟩:=j; exact hq
       | panic c=>obtain ⟨q,rfl,hq⟩:=j; exact hq q fun _ _=>rfl
       | outgrown=>exact j.elim
       | _=>obtain ⟨q,rfl,hq⟩:=j; exact hq
     refine ⟨_,run_beginRound hl (by rw [G]),?_⟩
     have hl2:(W.putObj (w.heap.size+1) (.loop {rc .ready none with state:= .busy})).heap[w.heap.size+1]? =some (.loop {rc .ready none with state:= .busy}):=World.putObj_heap_same hlt
     have an:(W.putObj (w.heap.size+1) (.loop {rc .ready none with state:= .busy})).heap[w.heap.size]? =some (.deferred (some [])):=(World.putObj_heap_other (by omega)).trans hk
     have h2:=hb (w.heap.size+1) pre x rest _ ap (hput _ _ _ (.loop {rc .ready none with state:= .busy}) hi hl (fun _ _ _ h=>by cases h))
     unfold c5 at h2
     refine wpIn_mono h2 ?_
     intro e a au j
     cases e with
     | normal=>
       obtain ⟨q,rfl,Z,al⟩:=j
       have hl3:=Z _ _ hl2 (fun _ _ _ h=>by cases h)
       have hk3:=Z _ _ an (fun _ _ _ h=>by cases h)
       have hr:=run_endRound (P:=P) none hl3
       rw [G] at hr hl3 ⊢
       exact ⟨_,_,hr,rfl,hput _ _ _ _ al hl3 (fun _ _ _ h=>by cases h),World.putObj_heap_same (Array.getElem?_eq_some_iff.1 hl3).1,(World.putObj_heap_other (by omega)).trans hk3⟩
     | panic c=>obtain ⟨q,rfl,hq⟩:=j; exact (hq q fun _ _=>rfl).elim
     | outgrown=>exact j.elim
     | _=>obtain ⟨q,rfl,hq⟩:=j; exact hq.elim
   · rintro e ar ⟨⟨v,rfl⟩,hi,hl,hk⟩
     have hrun:=run_endLoop (P:=P) hl (by rw [G]; simp)
     rw [G] at hrun
     refine ⟨none,_,hrun,?_⟩
     rw [G] at hl
     exact hd w.heap.size _ (Nat.le_refl _) (hput _ _ _ _ hi hl (fun _ _ _ h=>by cases h)) ((World.putObj_heap_other (by omega)).trans hk)
section
variable {P:Program} {N:Fm} {ops:Array Oper} {Q:Exit→(Nat→Value)→World→Prop} {rest:List Oper} {σ:Nat→Value} {w:World} {d':Option Nat} {d:Nat} {op:Op} {ty:TypeId} {pos :String} {af:Array Edge} {v:Value}
def kL (P:Program) (N:Fm) (ops:Array Oper) (Q:Exit→(Nat→Value)→World→Prop) (l:List Oper) (σ:Nat→Value) (w:World):Prop :=wpListIn (fe N.r) 0 P ops (lift N Q) l (act N σ) w
theorem Kz {id:Nat} {l:List Oper} (h:kL P N l.toArray Q l σ w):c5 P N (.region id l.toArray false) Q σ w:=by
 unfold c5; exact wpIn_region_lit h
theorem Js (h:Q .normal σ w):kL P N ops Q [] σ w:=⟨σ,rfl,h⟩
def uk (o:Op):Bool:=match o with | .defer _=>false | _=>true
theorem Ju {o:Op} (h:uk o=true):∀ c,o≠.defer c:=fun c e=>by subst e; cases h
theorem ey (hn:uk op=true) (h:cH P N ⟨d',op,ty,pos,af,none⟩ σ w (fun σ w=>kL P N ops Q rest σ w)):kL P N ops Q (⟨d',op,ty,pos,af,none⟩::rest) σ w:=by
 unfold kL wpListIn
 rw [if_pos (gC _ rfl _)]
 refine ⟨fun f _=>qm _ f,?_⟩
 rw [td,Oper.semAt_eq _ _ _ (Ju hn)]
 unfold cH Oper.wp at h
 generalize (execOp (act N σ).eval ⟨d',op,ty,pos,af,none⟩).run P w=x at h ⊢
 cases x with
 | ok n w'=>
   cases n <;> simp only [Oper.upon,Oper.uponIn] at h ⊢ <;>
    first
     | (obtain ⟨a,ha,hk⟩:=h; rw [ha]; exact hk)
     | (refine ⟨fun h0=>(by rw [ox] at h0; cases h0),CallsIn.mono (yL h) fun e w'' he=> ?_⟩
        cases e with
        | returned v=>obtain ⟨a,ha,hk⟩:=he; simp only; rw [ha]; exact hk
        | panicked c=>exact he.elim
        | outgrown=>obtain ⟨_,_,hf⟩:=he; exact hf.elim)
     | (refine ⟨fun h0=>(by rw [ox] at h0; cases h0),RowsIn.mono (yM h) fun v w'' he=> ?_⟩
        obtain ⟨a,ha,hk⟩:=he; rw [ha]; exact hk)
 | halt x w'=>cases x <;> simp only [Oper.upon] at h
theorem py (hn:uk op=true) (h:(execOp (ev N σ) ⟨some d,op,ty,pos,af,none⟩).run P w= .ok (.value v) w) (k:kL P N ops Q rest (cW σ d v) w):kL P N ops Q (⟨some d,op,ty,pos,af,none⟩::rest) σ w:=
 ey hn (ke h k)
theorem Mu {l:Nat} {fo:Operand} {args:Array Operand} {i:Array TypeId} {L:List Value} {R:World→Prop} (hv:ev N σ fo= .func (.yield l) #[] #[]) (p:args.toList.map (ev N σ)=L)
 (hy:YieldAt Fence.wide 0 P l L.toArray w fun e W'=>e= .returned (.bool true)∧R W') (k:∀ W',R W'→kL P N ops Q rest (cW σ d (.bool true)) W'):
 kL P N ops Q (⟨some d,.call ⟨.value fo,args,i⟩,ty,pos,af,none⟩::rest) σ w:=by
 obtain ⟨fn,tmps,a,b,hrun,j⟩:=hy
 unfold kL wpListIn
 rw [if_pos (gC _ rfl _)]
 refine ⟨fun f _=>qm _ f,?_⟩
 rw [td,Oper.semAt_eq _ _ _ (fun c e=>by cases e),fI]
 have hm:args.map (ev N σ)=L.toArray:=by rw [← p,← Array.toList_map]
 have q:(execOp (ev N σ) ⟨some d,.call ⟨.value fo,args,i⟩,ty,pos,af,none⟩).run P w= .ok (.round l fn tmps a b) w:=by
  simp [execOp,resolve,hv,Deferred.ofValue,invoke,hm,hrun]
 rw [q]
 simp only [Oper.uponIn]
 refine ⟨fun h0=>(by rw [ox] at h0; cases h0),?_⟩
 have h1:RoundIn (fe N.r) (0 - 1) P l fn tmps a b w fun e W'=>e= .returned (.bool true)∧R W':=by
  cases hr:N.r with
  | none=>exact j
  | some k=>exact j
 refine RoundIn.mono h1 ?_
 rintro e W' ⟨rfl,hw⟩
 simp only
 rw [gP]
 exact k W' hw
end
end Go.Hb
end
section
namespace Go.Hb
open Go.RowKit
def dO (P:Program) (f:FuncId) (args:Array Value) (w:World) (R:Value→World→Prop) (Pn:List PanicEntry→World→Prop):Prop :=
 Calls P f args w fun e w'=>(∃ v,e= .returned v∧R v w')∨∃ c,e= .panicked c∧Pn c w'
def yP (P:Program) (fn:Func) (N:Fm) (R:Value→World→Prop) (Pn:List PanicEntry→World→Prop):Exit→(Nat→Value)→World→Prop
 | .normal,σ,w=> ∃ v,(results fn (act N σ).tmps).run P w= .ok v w∧R v w
 | .ret,σ,w=> ∃ v,(results fn (act N σ).tmps).run P w= .ok v w∧R v w
 | .panic c,_,w=>Pn c w
 | _,_,_=>False
theorem gh {P:Program} {fn:Func} {N:Fm} {R:Value→World→Prop} {Pn:List PanicEntry→World→Prop} {e:Exit} {σ:Nat→Value} {w:World} (h:fin P fn N R e σ w):yP P fn N R Pn e σ w:=by
 cases e <;> first | exact h | exact h.elim
theorem gy {P:Program} {f:FuncId} {N:Nat} {fn:Func} {c:Code} {args:List Value} {w:World} {R:Value→World→Prop} {Pn:List PanicEntry→World→Prop} (hf:P.funcs[f]? =some fn) (hb:fn.body=some c)
 (j:fn.ntmps=N) (hn:Nat.ble args.length N=true) (h:c5 P ⟨N,[],[],none⟩ c (yP P fn ⟨N,[],[],none⟩ R Pn) (jo args) w):dO P f args.toArray w R Pn:=by
 subst j
 refine calls_of_wp hf hb ?_
 rw [rf fn args [] hn]
 unfold c5 at h
 refine Code.wp_mono ?_ (wpIn_wide.1 h)
 intro e a w hl
 cases e with
 | normal=>obtain ⟨σ,rfl,v,hr,i⟩:=hl; exact ⟨rfl,v,hr,.inl ⟨v,rfl,i⟩⟩
 | ret=>obtain ⟨σ,rfl,v,hr,i⟩:=hl; exact ⟨rfl,v,hr,.inl ⟨v,rfl,i⟩⟩
 | exit id=>obtain ⟨σ,rfl,hq⟩:=hl; exact hq.elim
 | goto l=>obtain ⟨σ,rfl,hq⟩:=hl; exact hq.elim
 | panic c=>obtain ⟨σ,rfl,hq⟩:=hl; exact ⟨rfl,.inr ⟨c,rfl,hq σ fun _ _=>rfl⟩⟩
 | outgrown=>exact hl.elim
section
variable {P:Program} {N:Fm} {Q:Exit→(Nat→Value)→World→Prop} {σ:Nat→Value} {w:World} {ops:Array Oper} {rest:List Oper} {dst:Option Nat} {ty:TypeId} {pos :String} {af:Array Edge} {g:Option (Nat×Bool)} {x:Operand}
def kN (P:Program) (N:Fm) (o:Oper) (σ:Nat→Value) (w:World) (K:(Nat→Value)→World→Prop) (Pn:List PanicEntry→World→Prop):Prop :=
 Oper.wp P o (act N σ) w (fun a w=> ∃ σ,a=act N σ∧K σ w) (fun e a w=>match e with | .panic c=>a=act N σ∧Pn c w | _=>False)
theorem rM {o:Oper} {K:(Nat→Value)→World→Prop} {Pn:List PanicEntry→World→Prop} {j:Act→World→Prop} (h:kN P N o σ w K Pn) (hk:∀ σ w,K σ w→j (act N σ) w) (hp:∀ c w',Pn c w'→∀ s,(∀ i∈N.F,s i=σ i)→Q (.panic c) s w'):o.wp P (act N σ) w j (lift N Q):=by
 unfold kN at h
 unfold Oper.wp at*
 generalize (execOp (act N σ).eval o).run P w=r at h ⊢
 have p:∀ a w,(∃ σ,a=act N σ∧K σ w)→j a w:=by rintro a w ⟨σ,rfl,h⟩; exact hk _ _ h
 have q:∀ c (a:Act) w',(a=act N σ∧Pn c w')→lift N Q (.panic c) a w':=by rintro c a w' ⟨rfl,h⟩; exact ⟨σ,rfl,hp c w' h⟩
 cases r with
 | ok n w'=>
   cases n <;> simp only [Oper.upon] at h ⊢ <;>
    first
     | exact p _ _ h
     | exact Calls.mono h (fun e w'' he=>by
      cases e with
      | returned v=>exact p _ _ he
      | panicked c=>exact q _ _ _ ⟨rfl,he.2⟩
      | outgrown=>obtain ⟨_,_,hf⟩:=he; exact hf.elim)
     | exact Rows.mono h (fun _ _ he=>p _ _ he)
 | halt x w'=>cases x <;> simp only [Oper.upon] at h ⊢ <;> exact q _ _ _ ⟨rfl,h.2⟩
theorem cz {f:FuncId} {args:Array Operand} {a:Array TypeId} {L:List Value} {R:Value→World→Prop} {Pn:List PanicEntry→World→Prop} {K:(Nat→Value)→World→Prop} (hc:aV P f) (hr:dO P f L.toArray w R Pn) (i:args.toList.map (ev N σ)=L)
 (k:∀ v w',R v w'→K (fi σ dst v) w'):kN P N ⟨dst,.call ⟨.value (.func f),args,a⟩,ty,pos,af,g⟩ σ w K Pn:=by
 unfold kN Oper.wp
 have hm:args.map (ev N σ)=L.toArray:=by rw [← i,← Array.toList_map]
 have q:(execOp (ev N σ) ⟨dst,.call ⟨.value (.func f),args,a⟩,ty,pos,af,g⟩).run P w= .ok (.enter f L.toArray) w:=by
  have h2:=hc L.toArray w
  simp [execOp,resolve,ev,Deferred.ofValue,invoke,hm,h2]
 rw [fI,q]
 simp only [Oper.upon]
 refine Calls.mono hr ?_
 rintro e w' (⟨v,rfl,p⟩ | ⟨c,rfl,j⟩)
 · exact ⟨_,gP ..,k v w' p⟩
 · exact ⟨trivial,j⟩
theorem Cc {f:FuncId} {fo:Operand} {first cap:Array Value} {args:Array Operand} {a:Array TypeId} {L:List Value} {R:Value→World→Prop} {Pn:List PanicEntry→World→Prop} {K:(Nat→Value)→World→Prop} (hc:aV P f) (hv:ev N σ fo= .func (.func f) first cap) (hr:dO P f L.toArray w R Pn) (i:first.toList++args.toList.map (ev N σ)++cap.toList=L)
 (k:∀ v w',R v w'→K (fi σ dst v) w'):kN P N ⟨dst,.call ⟨.value fo,args,a⟩,ty,pos,af,g⟩ σ w K Pn:=by
 unfold kN Oper.wp
 have hm:first++args.map (ev N σ)++cap=L.toArray:=by rw [← i]; simp
 have q:(execOp (ev N σ) ⟨dst,.call ⟨.value fo,args,a⟩,ty,pos,af,g⟩).run P w= .ok (.enter f L.toArray) w:=by
  have h2:=hc L.toArray w
  simp only [execOp,resolve,hv,Deferred.ofValue,invoke]
  simp [hm,h2]
 rw [fI,q]
 simp only [Oper.upon]
 refine Calls.mono hr ?_
 rintro e w' (⟨v,rfl,p⟩ | ⟨c,rfl,j⟩)
 · exact ⟨_,gP ..,k v w' p⟩
 · exact ⟨trivial,j⟩
theorem eP {o:Oper} {Pn:List PanicEntry→World→Prop} (hg:o.guard=none) (h:kN P N o σ w (fun σ w=>dJ P N ops Q rest σ w) Pn) (hp:∀ c w',Pn c w'→∀ a,(∀ i∈N.F,a i=σ i)→Q (.panic c) a w'):dJ P N ops Q (o::rest) σ w:=by
 unfold dJ wpList
 rw [if_pos (gC o hg _)]
 refine .inl (rM h (fun σ w hk=> ?_) hp)
 unfold dJ at hk; exact hk
theorem Ke {t:TypeId} {v:Value} (j:ev N σ x= .iface t v) (hp:∀ a,(∀ i∈N.F,a i=σ i)→Q (.panic [{v:= .iface t v,recovered:=false}]) a w):dJ P N ops Q (⟨dst,.panic x,ty,pos,af,none⟩::rest) σ w:=by
 unfold dJ wpList
 rw [if_pos (gC _ rfl _)]
 refine .inl ?_
 unfold Oper.wp
 have hr:(execOp (ev N σ) ⟨dst,.panic x,ty,pos,af,none⟩).run P w= .halt (.panic (.iface t v)) w:=by
  simp [execOp,j,Instr.panic]
 rw [fI,hr]
 exact ⟨σ,rfl,hp⟩
theorem Jj {t:TypeId} {d:TypeDesc} {v:Value} (hu:P.underlying t=some d) (hd:(match d with | .interface _=>false | _=>true)=true) (a:ev N σ x=v):(execOp (ev N σ) ⟨dst,.makeInterface t x,ty,pos,af,g⟩).run P w= .ok (.value (.iface t v)) w:=by
 cases d <;> first | (cases hd; done) | simp [execOp,Instr.makeInterface,a,dd hu]
def mO (P:Program) (t:TypeId):Bool:=match P.underlying t with | some (.interface _)=>false | some _=>true | none=>false
theorem Jk {t:TypeId} {v:Value} (h:mO P t=true) (a:ev N σ x=v):(execOp (ev N σ) ⟨dst,.makeInterface t x,ty,pos,af,g⟩).run P w= .ok (.value (.iface t v)) w:=by
 unfold mO at h
 cases hd:P.underlying t with
 | none=>rw [hd] at h; cases h
 | some d=>rw [hd] at h; exact Jj hd (by cases d <;> first | rfl | cases h) a
theorem LG {xt a:TypeId} {zv:Value} (hu:mO P a=true) (hz:zeroV P a=some zv) (i:ev N σ x= .nilIface):(execOp (ev N σ) ⟨dst,.typeAssert x xt a true,ty,pos,af,g⟩).run P w= .ok (.value (.tuple #[zv,.bool false])) w:=by
 unfold mO at hu
 cases hd:P.underlying a with
 | none=>rw [hd] at hu; cases hu
 | some d=>rw [hd] at hu; cases d <;> first | (cases hu; done) | simp [execOp,Instr.typeAssert,i,dd hd,rO hz]
theorem LF {xt a:TypeId} {v:Value} (hu:mO P a=true) (i:ev N σ x= .iface a v):(execOp (ev N σ) ⟨dst,.typeAssert x xt a true,ty,pos,af,g⟩).run P w= .ok (.value (.tuple #[v,.bool true])) w:=by
 unfold mO at hu
 cases hd:P.underlying a with
 | none=>rw [hd] at hu; cases hu
 | some d=>rw [hd] at hu; cases d <;> first | (cases hu; done) | simp [execOp,Instr.typeAssert,i,dd hd]
variable {S:World→Prop} {fuel:Nat} {aT:Array Bool}
theorem nA {o:Oper} {Pn:List PanicEntry→World→Prop} (i:Nat) (hi:ops[i]? =some o) (hr:jG ops aT i=true) (hg:o.guard=none)
 (h:kN P N o σ w (fun σ w=>S w∧eD P N ops Q S fuel (aT.setIfInBounds i true) σ w) Pn) (hp:∀ c w',Pn c w'→∀ a,(∀ i∈N.F,a i=σ i)→Q (.panic c) a w'):eD P N ops Q S (fuel+1) aT σ w:=by
 unfold eD at*
 refine wpAnyH_all (rs:= [i]) (by simpa [jG] using hr) (by simp) ?_
 intro k hk
 obtain rfl :k=i:=by simpa using hk
 unfold wpOp
 simp only [hi]
 rw [if_pos (gC _ hg _)]
 exact .inl (rM h (fun σ w hk=>hk) hp)
end
section
variable {P:Program} {N:Fm} {Q:Exit→(Nat→Value)→World→Prop} {σ:Nat→Value} {w:World} {ops:Array Oper} {S:World→Prop} {fuel:Nat} {aT:Array Bool}
theorem HY {o a:Oper} {Pn:List PanicEntry→World→Prop} (i j:Nat) (hi:ops[i]? =some o) (q:ops[j]? =some a) (hr:((Region.ready .any ops aT)== [i,j])=true) (hg:o.guard=none) (hg1:a.guard=none)
 (h:kN P N o σ w (fun σ w=>S w∧eD P N ops Q S fuel (aT.setIfInBounds i true) σ w) Pn) (hp:∀ c w',Pn c w'→∀ p,(∀ i∈N.F,p i=σ i)→Q (.panic c) p w')
 (h1:cH P N a σ w (fun σ w=>S w∧eD P N ops Q S fuel (aT.setIfInBounds j true) σ w)):eD P N ops Q S (fuel+1) aT σ w:=by
 unfold eD at*
 refine wpAnyH_all (rs:= [i,j]) (by simpa using hr) (by simp) ?_
 intro k hk
 simp only [List.mem_cons,List.not_mem_nil,or_false] at hk
 rcases hk with rfl | rfl
 · unfold wpOp
   simp only [hi]
   rw [if_pos (gC _ hg _)]
   exact .inl (rM h (fun _ _ hk=>hk) hp)
 · unfold wpOp
   simp only [q]
   rw [if_pos (gC _ hg1 _)]
   exact .inl (nU h1 (fun _ _ hk=>hk))
end
section
variable {P:Program} {N:Fm} {Q:Exit→(Nat→Value)→World→Prop} {σ:Nat→Value} {w:World} {ops:Array Oper} {S:World→Prop} {fuel r:Nat} {aT:Array Bool}
theorem z8 {o:Oper} {Pn:List PanicEntry→World→Prop} (i:Nat) (hi:ops[i]? =some o) (hr:jG ops aT i=true) (hg:o.guard=none)
 (h:kN P N o σ w (fun σ w=>S w∧fj P N ops Q S r fuel (aT.setIfInBounds i true) σ w) Pn) (hp:∀ c w',Pn c w'→∀ j,(∀ i∈N.F,j i=σ i)→Q (.panic c) j w'):fj P N ops Q S r (fuel+1) aT σ w:=by
 unfold fj at*
 have a:Region.ready .any ops aT= [i]:=by simpa [jG] using hr
 refine ⟨fun h0=>absurd (a ▸ h0) (by simp),fun k hk=> ?_⟩
 rw [a] at hk
 obtain rfl :k=i:=by simpa using hk
 unfold wpOp
 simp only [hi]
 rw [if_pos (gC _ hg _)]
 exact .inl (rM h (fun σ w hk=>⟨fun _=>hk.1,hk.2⟩) hp)
end
abbrev lG (P:Program) (fn:Func) (R:Value→World→Prop):Exit→Act→World→Prop :=bodyPostD P fn (fun e w'=> ∃ v,e= .returned v∧R v w')
theorem Gj {P:Program} {f:FuncId} {N:Nat} {fn:Func} {c:Code} {args:List Value} {w:World} {R:Value→World→Prop} (F:List Nat) (hf:P.funcs[f]? =some fn) (hb:fn.body=some c)
 (a:fn.ntmps=N) (hn:Nat.ble args.length N=true) (h:kK P ⟨N,[],F,none⟩ c (lG P fn R) (jo args) w):aU P f args.toArray w R:=by
 subst a
 refine calls_of_wp_defers hf hb ?_
 rw [rf fn args F hn]
 exact wpIn_wide.1 h
section
variable {P:Program} {n:Nat} {D:List Deferred} {F:List Nat} {σ:Nat→Value} {w:World} {fn:Func} {R:Value→World→Prop} {B:Exit→Act→World→Prop}
theorem GF {v:Value} (hr:(results fn (act ⟨n,[],F,none⟩ σ).tmps).run P w= .ok v w) (a:R v w):qb ⟨n,[],F,none⟩ (lG P fn R) .ret σ w:=⟨v,hr,v,rfl,a⟩
theorem IT:¬LetsOut (lG P fn R):=fun ⟨_,_,h⟩=>by obtain ⟨v,h,_⟩:=h; cases h
theorem F3 {id d:Nat} {f:FuncId} (hB:¬LetsOut B) {cs:Array Operand} {q s:TypeId} {p1 p:String} {i j:Array Edge} {y:Code} (caps:Array Value) (C:cs.toList.map (ev ⟨n,[],F,none⟩ σ)=caps.toList) (hd:d < n)
 (h:kK P ⟨n,[{target:= .fn (.func f) caps,args:= #[]}],F,none⟩ y B (cW σ d (.func (.func f) #[] caps)) w):
 kK P ⟨n,[],F,none⟩ (.region id #[⟨some d,.makeFunc (.func f) #[] cs,q,p1,i,none⟩,⟨none,.defer ⟨.value (.tmp d),#[],#[]⟩,s,p,j,none⟩] false) (Exit.then (y.wpIn (fe none) 0 P B) B) σ w:=by
 have E:cs.map (ev ⟨n,[],F,none⟩ σ)=caps:=Array.toList_inj.1 (by rw [Array.toList_map]; exact C)
 refine wpIn_region ?_
 have A:¬LetsOut (Exit.then (y.wpIn (fe none) 0 P B) B):=fun ⟨a,w,h⟩=>hB ⟨a,w,h⟩
 refine tU (r:=none) A rfl _ _ _ ?_
 show wpOps P _ _ [0,1] _ _
 simp only [wpOps,List.getElem?_toArray,List.getElem?_cons_zero,List.getElem?_cons_succ]
 rw [if_pos (gC _ rfl _)]
 refine .inl ?_
 unfold Oper.wp
 have h1:(execOp (act ⟨n,[],F,none⟩ σ).eval ⟨some d,.makeFunc (.func f) #[] cs,q,p1,i,none⟩).run P w= .ok (.value (.func (.func f) #[] caps)) w:=by
  rw [fI,mf,E]; simp
 rw [h1]
 simp only [Oper.upon]
 rw [if_pos (gC _ rfl _),gP]
 refine .inl ?_
 have h2:(execOp (act ⟨n,[],F,none⟩ (fi σ (some d) (.func (.func f) #[] caps))).eval ⟨none,.defer ⟨.value (.tmp d),#[],#[]⟩,s,p,j,none⟩).run P w= .ok (.defer {target:= .fn (.func f) caps,args:= #[]}) w:=by
  have G:ev ⟨n,[],F,none⟩ (cW σ d (.func (.func f) #[] caps)) (.tmp d)= .func (.func f) #[] caps:=by
   show cond (Nat.blt d n) (cW σ d _ d) undef=_
   rw [show Nat.blt d n=true from by simpa using hd]
   show cW σ d _ d=_
   unfold cW; simp
  rw [fI]
  show (execOp (ev ⟨n,[],F,none⟩ (cW σ d (.func (.func f) #[] caps))) _).run P w=_
  simp [execOp,resolve,G,Deferred.ofValue]
 rw [h2]
 exact h
end
theorem JI {P:Program} {ops:Array Oper} {Q:Exit→Act→List Frame→World→Prop} {cs:List Frame} (j:¬LetsOut fun e a w=>Q e a cs w):∀ (l:List Nat) (a:Act) (w:World),wpOps P ops (fun e a w=>Q e a cs w) l a w→wpOpsS P ops Q l a cs w:=by
 intro l
 induction l with
 | nil=>exact fun _ _ h=>h
 | cons i l ih=>
   intro a w h
   simp only [wpOps] at h
   simp only [wpOpsS]
   cases ho:ops[i]? with
   | none=>simp only [ho] at h ⊢; exact ih a w h
   | some o=>
     simp only [ho] at h ⊢
     by_cases hw:Region.wanted o (yielded ops a.tmps)=true
     · rw [if_pos hw] at h ⊢
       rcases h with h | h
       · unfold Oper.wp at h
         generalize (execOp a.eval o).run P w=x at h
         cases x with
         | ok n w'=>
           cases n <;> simp only [Oper.upon] at h ⊢ <;>
            first
             | exact ih _ _ h
             | exact Calls.mono h (fun e w'' he=>by cases e <;> first | exact ih _ _ he | exact he)
             | exact Rows.mono h (fun v w'' he=>ih _ _ he)
         | halt x w'=>cases x <;> simp only [Oper.upon] at h ⊢ <;> exact h
       · exact absurd h.2 j
     · rw [if_neg hw] at h ⊢
       exact ih _ _ h
theorem IW {P:Program} {ops:Array Oper} {Q i:Exit→Act→World→Prop} (hq:∀ e a w,Q e a w→i e a w) (j:¬LetsOut Q):∀ (l:List Oper) (a:Act) (w:World),wpList P ops Q l a w→wpList P ops i l a w:=by
 intro l
 induction l with
 | nil=>exact fun _ _ h=>hq _ _ _ h
 | cons o l ih=>
   intro a w h
   unfold wpList at h ⊢
   split at h
   · rename_i hw
     rw [if_pos hw]
     rcases h with h | h
     · left
       unfold Oper.wp at h ⊢
       generalize (execOp a.eval o).run P w=x at h
       cases x with
       | ok n w'=>
         cases n <;> simp only [Oper.upon] at h ⊢ <;>
          first
           | exact ih _ _ h
           | exact Calls.mono h (fun e w'' he=>by
            cases e with
            | returned v=>exact ih _ _ he
            | panicked c=>exact hq _ _ _ he
            | outgrown=>exact absurd he j)
           | exact Rows.mono h (fun v w'' he=>ih _ _ he)
       | halt x w'=>cases x <;> simp only [Oper.upon] at h ⊢ <;> exact hq _ _ _ h
     · exact absurd h.2 j
   · rename_i hw
     rw [if_neg hw]; exact ih _ _ h
theorem xP {P:Program} {f:FuncId} {fn:Func} {id N d:Nat} {ty:TypeId} {pos :String} {af:Array Edge} {rest:List Oper} {y:Code} {args:List Value} {w:World} {u p:FrameMode} {v:Value} {R:World→Prop}
 (hf:P.funcs[f]? =some fn) (hb:fn.body=some (.seq (.region id (⟨some d,.call ⟨.builtin .recover,#[],#[]⟩,ty,pos,af,none⟩::rest).toArray false) y)) (E:fn.ntmps=N) (hn:Nat.ble args.length N=true)
 (I:∀ (c₀:Frame) (cs:List Frame),c₀.mode=u→(recoverD (c₀::cs)=some (v,{c₀ with mode:=p} ::cs))∨(recoverD (c₀::cs)=none∧v= .nilIface∧p=u))
 (h:dJ P ⟨N,[],[],none⟩ (⟨some d,.call ⟨.builtin .recover,#[],#[]⟩,ty,pos,af,none⟩::rest).toArray (jN (fun σ w=>c5 P ⟨N,[],[],none⟩ y (fin P fn ⟨N,[],[],none⟩ fun _ w=>R w) σ w) (fin P fn ⟨N,[],[],none⟩ fun _ w=>R w)) rest (cW (jo args) d v) w):
 CallsD P f args.toArray u w fun e u1 w'=> ∃ v,e= .returned v∧u1=p∧R w':=by
 subst E
 refine callsD_of_wpS hf hb ?_
 intro c₀ cs hu
 rw [rf fn args [] hn]
 refine wpS_seq (wpS_region ?_)
 have hsz:List.range (⟨some d,.call ⟨.builtin .recover,#[],#[]⟩,ty,pos,af,none⟩::rest).toArray.size=0::(List.range' 1 rest.length):=by
  rw [List.size_toArray,List.length_cons,List.range_eq_range',List.range'_succ]
 rw [hsz]
 simp only [wpOpsS,List.getElem?_toArray,List.getElem?_cons_zero]
 rw [if_pos (gC _ rfl _)]
 have J:(execOp (act ⟨fn.ntmps,[],[],none⟩ (jo args)).eval ⟨some d,.call ⟨.builtin .recover,#[],#[]⟩,ty,pos,af,none⟩).run P w= .ok .recover w:=by
  rw [fI]
  simp [execOp,resolve,invoke,builtin]
 rw [J]
 simp only
 obtain ⟨q,hcs2⟩:∃ q,q=({c₀ with mode:=p} ::cs:List Frame):=⟨_,rfl⟩
 have G:∀ X:Act→List Frame→Prop,X ((act ⟨fn.ntmps,[],[],none⟩ (jo args)).put (some d) v) q→
  (match recoverD (c₀::cs) with
   | some (v,s)=>X ((act ⟨fn.ntmps,[],[],none⟩ (jo args)).put (some d) v) s
   | none=>X ((act ⟨fn.ntmps,[],[],none⟩ (jo args)).put (some d) .nilIface) (c₀::cs)):=by
  intro X hX
  rcases I c₀ cs hu with h1 | ⟨h1,h2,h3⟩
  rw [h1]; subst hcs2; exact hX
  rw [h1]; subst h2 h3
  have :({c₀ with mode:=p} :Frame)=c₀:=by subst hu; rfl
  rw [this] at hcs2; subst hcs2; exact hX
 refine G (fun a s=>wpOpsS P _ _ _ a s w) ?_
 rw [gP]
 refine JI ?_ _ _ _ ?_
 rintro ⟨a,w,h⟩
 simp only [Exit.thenS,bodyPostS] at h
 obtain ⟨_,_,h,_⟩:=h; cases h
 have h1:=wpOps_eq_wpList (P:=P) (ops:=(⟨some d,.call ⟨.builtin .recover,#[],#[]⟩,ty,pos,af,none⟩::rest).toArray) (Q:=fun e a w'=>Exit.thenS (Code.wpS P y (bodyPostS P fn c₀ cs fun e u1 w'=> ∃ v,e= .returned v∧u1=p∧R w')) (bodyPostS P fn c₀ cs fun e u1 w'=> ∃ v,e= .returned v∧u1=p∧R w') e a q w') rest 1 (fun j=>by simp [Nat.add_comm])
 rw [h1]
 unfold dJ at h
 refine IW ?_ ud _ _ _ h
 intro e a w' hl
 have C:∀ (e:Exit) (σ:Nat→Value) (w':World),fin P fn ⟨fn.ntmps,[],[],none⟩ (fun _ w=>R w) e σ w'→bodyPostS P fn c₀ cs (fun e u1 w'=> ∃ v,e= .returned v∧u1=p∧R w') e (act ⟨fn.ntmps,[],[],none⟩ σ) q w':=by
  intro e σ w' hq
  cases e with
  | normal=>obtain ⟨v,hr,A⟩:=hq; exact ⟨rfl,p,hcs2,v,hr,v,rfl,rfl,A⟩
  | ret=>obtain ⟨v,hr,A⟩:=hq; exact ⟨rfl,p,hcs2,v,hr,v,rfl,rfl,A⟩
  | _=>exact hq.elim
 cases e with
 | normal=>
   obtain ⟨σ,rfl,hq⟩:=hl
   refine wpS_of_wp ?_
   simp only [jN] at hq
   unfold c5 at hq
   refine Code.wp_mono ?_ (wpIn_wide.1 hq)
   intro e a w' hl
   cases e with
   | panic c=>obtain ⟨σ,rfl,hq⟩:=hl; exact (hq σ fun _ _=>rfl).elim
   | outgrown=>exact hl.elim
   | _=>obtain ⟨σ,rfl,hq⟩:=hl; exact C _ σ w' hq
 | panic c=>obtain ⟨σ,rfl,hq⟩:=hl; exact (hq σ fun _ _=>rfl).elim
 | outgrown=>exact hl.elim
 | ret=>obtain ⟨σ,rfl,hq⟩:=hl; exact C .ret σ w' hq
 | exit i=>obtain ⟨σ,rfl,hq⟩:=hl; exact hq.elim
 | goto i=>obtain ⟨σ,rfl,hq⟩:=hl; exact hq.elim
section
variable {P:Program} {n:Nat} {F:List Nat} {σ:Nat→Value} {w:World} {fn:Func} {R:Value→World→Prop}
theorem GG {g:FuncId} {caps:Array Value} {M:World→Prop} (hu:(invoke (.fn (.func g) caps) #[]).run P w= .ok (.enter g caps) w)
 (hc:CallsD P g caps .returning w fun e u1 w'=> ∃ v,e= .returned v∧u1= .returning∧M w') (a:∀ w',M w'→∃ v,(results fn (act ⟨n,[{target:= .fn (.func g) caps,args:= #[]}],F,none⟩ σ).tmps).run P w'= .ok v w'∧R v w'):
 qb ⟨n,[{target:= .fn (.func g) caps,args:= #[]}],F,none⟩ (lG P fn R) .ret σ w:=by
 refine leaves_cons (by simp) hu ?_
 refine CallsD.mono hc ?_
 rintro e i w' ⟨v,rfl,rfl,hm⟩
 obtain ⟨v2,h1,h2⟩:=a w' hm
 exact ⟨v2,h1,v2,rfl,h2⟩
theorem GH {g:FuncId} {caps:Array Value} {M:World→Prop} {v:Value} (hu:(invoke (.fn (.func g) caps) #[]).run P w= .ok (.enter g caps) w)
 (hc:CallsD P g caps (.panicking [{v:=v,recovered:=false}]) w fun e u1 w'=> ∃ x,e= .returned x∧u1= .panicking [{v:=v,recovered:=true}]∧M w') (a:∀ w',M w'→∃ v,(results fn (act ⟨n,[{target:= .fn (.func g) caps,args:= #[]}],F,none⟩ σ).tmps).run P w'= .ok v w'∧R v w'):
 qb ⟨n,[{target:= .fn (.func g) caps,args:= #[]}],F,none⟩ (lG P fn R) (.panic [{v:=v,recovered:=false}]) σ w:=by
 refine leaves_cons (by simp) hu ?_
 refine CallsD.mono hc ?_
 rintro e i w' ⟨x,rfl,rfl,hm⟩
 obtain ⟨v2,h1,h2⟩:=a w' hm
 exact ⟨v2,h1,v2,rfl,h2⟩
end
end Go.Hb
end
section
namespace Go.Hb
open Go.RowKit
def jb (w:World) (B e n:Nat) (v:Value) (xs:List Value):Prop :=
 ∃ a cp,v= .slice a n cp∧n≤cp∧(xs= []∨∃ b o cur z,a=some ⟨b,o,none⟩∧B≤b∧w.heap[b]? =some (.cells cur e z)∧∀ (j:Nat) u,xs[j]? =some u→cur[o+j]? =some u)
theorem Tg.LK {w:World} {B e n:Nat} {v:Value} {xs:List Value} (h:Tg w B e n v xs):jb w B e n v xs:=by
 obtain ⟨a,cp,rfl,hc,i⟩:=h
 refine ⟨a,cp,rfl,hc,i.imp id ?_⟩
 rintro ⟨b,cur,z,ha,hb,hg,i⟩
 exact ⟨b,0,cur,z,ha,hb,hg,fun j u hu=>by rw [Nat.zero_add]; exact i j u hu⟩
theorem jb.cells {w:World} {B e n cp:Nat} {a:Option Addr} {xs:List Value} (h:jb w B e n (.slice a n cp) xs):n≤cp∧aw w.heap a xs:=by
 obtain ⟨p,c',hv,hc,i⟩:=h
 cases hv
 rcases i with h | ⟨b,o,cur,z,rfl,_,hg,i⟩
 · subst h; exact ⟨hc,aw.nil _ _⟩
 · refine ⟨hc,fun _=>rfl,fun j u hu=> ?_⟩
   show Hb.aE w.heap b (o+j)=_
   rw [aQ hg]; exact i j u hu
theorem jb.slice {w:World} {B e n:Nat} {v:Value} {xs:List Value} (h:jb w B e n v xs):∃ a cp,v= .slice a n cp:=let ⟨a,cp,hv,_⟩:=h; ⟨a,cp,hv⟩
theorem jb.md {F:Nat→Prop} {w w':World} {B e n:Nat} {v:Value} {xs:List Value} (h:jb w B e n v xs) (hm:Md F w w') (hF:∀ k,F k→∀ cur z,w.heap[k]?≠some (.cells cur e z)):jb w' B e n v xs:=by
 obtain ⟨a,cp,rfl,hc,h | ⟨b,o,cur,z,rfl,hb,hg,i⟩⟩:=h
 · exact ⟨a,cp,rfl,hc,.inl h⟩
 · exact ⟨_,cp,rfl,hc,.inr ⟨b,o,cur,z,rfl,hb,by rw [hm.gp b (Array.getElem?_eq_some_iff.1 hg).1 (fun hk=>hF b hk cur z hg)]; exact hg,i⟩⟩
theorem jb.k4 {w:World} {B e n m cp:Nat} {a:Option Addr} {xs:List Value} (h:jb w B e (n+1) (.slice a (n+1) cp) xs) (i:xs.length=(n+1)*m):jb w B e n (.slice (ee a cp 1 m) n (cp - 1)) (xs.drop m):=by
 obtain ⟨q,c',hv,hc,hh⟩:=h
 cases hv
 refine ⟨_,_,rfl,by omega,?_⟩
 rcases hh with rfl | ⟨b,o,cur,z,rfl,hb,hg,p⟩
 · exact .inl (by simp)
 · unfold ee
   by_cases h1:cp=1
   · refine .inl (List.eq_nil_of_length_eq_zero ?_)
     obtain rfl :n=0:=by omega
     rw [List.length_drop,i]; omega
   · rw [if_neg h1]
     refine .inr ⟨b,o+1 *m,cur,z,?_,hb,hg,fun j u hu=> ?_⟩
     · rw [Option.map_some,jc]
     · rw [List.getElem?_drop] at hu
       have :=p _ u hu
       rw [show o+1 *m+j=o+(m+j) from by omega]; exact this
def c4 (w:World) (B e:Nat) (vs:List Value) (ls:List (List Nat)):Prop :=vs.length=ls.length∧∀ (i:Nat) v l,vs[i]? =some v→ls[i]? =some l→Tg w B e l.length v (l.map aO)
theorem c4.nil (w:World) (B e:Nat):c4 w B e [] []:=⟨rfl,fun i v l hv=>by simp at hv⟩
theorem c4.md {F:Nat→Prop} {w w':World} {B e:Nat} {vs:List Value} {ls:List (List Nat)} (h:c4 w B e vs ls) (hm:Md F w w') (hF:∀ k,F k→∀ cur z,w.heap[k]?≠some (.cells cur e z)):c4 w' B e vs ls:=⟨h.1,fun i v l h1 h2=>(h.2 i v l h1 h2).md hm hF⟩
theorem c4.wk {w w':World} {B e:Nat} {vs:List Value} {ls:List (List Nat)} (h:c4 w B e vs ls) (hm:Wk w w'):c4 w' B e vs ls:=h.md hm fun _ hk=>hk.elim
theorem c4.mono {w:World} {B a e:Nat} {vs:List Value} {ls:List (List Nat)} (h:c4 w B e vs ls) (hB:a≤B):c4 w a e vs ls:=⟨h.1,fun i v l h1 h2=>(h.2 i v l h1 h2).mono hB⟩
theorem c4.snoc {w:World} {B e:Nat} {vs:List Value} {ls:List (List Nat)} {v:Value} {l:List Nat} (ha:c4 w B e vs ls) (hq:Tg w B e l.length v (l.map aO)):c4 w B e (vs++ [v]) (ls++ [l]):=by
 refine ⟨by rw [List.length_append,List.length_append,ha.1]; rfl,fun i a p h1 h2=> ?_⟩
 have hl:=ha.1
 by_cases hi:i < vs.length
 · rw [List.getElem?_append_left hi] at h1
   rw [List.getElem?_append_left (by omega)] at h2
   exact ha.2 i a p h1 h2
 · rw [List.getElem?_append_right (by omega)] at h1
   rw [List.getElem?_append_right (by omega),← hl] at h2
   cases hj:i - vs.length with
   | zero=>rw [hj] at h1 h2; cases h1; cases h2; exact hq
   | succ j=>rw [hj] at h1; simp at h1
def fL (t ln:Nat) (e:Int):List PanicEntry:= [{v:= .iface t (.agg [.int .i64 1,.int .i64 (ln:Nat),.int .i64 e].toArray),recovered:=false}]
theorem dt {h:World} {b:Nat} {isK:Value→Prop} {f:Value→Option Value} (hm:bP h.heap b isK f):tag h b=1:=let ⟨_,h1,_⟩:=hm; LH h1
def Wr (L:List Nat) (ms mt mc B:Nat) (w:World) (k:Nat):Prop :=B≤k∧(k=ms∨k=mt∨k=mc∨L.contains (tag w k)=true)
abbrev Mw (L:List Nat) (ms mt mc B:Nat) (w w':World):Prop :=Md (Wr L ms mt mc B w) w w'
section
variable {L:List Nat} {ms mt mc B:Nat} {w w' w'':World}
theorem Mw.trans (h:Mw L ms mt mc B w w') (a:Mw L ms mt mc B w' w''):Mw L ms mt mc B w w'':=by
 refine Md.trans' h a fun k hk hw=> ?_
 refine Classical.byContradiction fun hn=> ?_
 have :=Md.tag h hk hn
 unfold Wr at hw
 rw [this] at hw
 exact hn hw
theorem Wk.mw (h:Wk w w'):Mw L ms mt mc B w w':=h.mono fun _ _ hf=>hf.elim
theorem Mw.of {F:Nat→Prop} (h:Md F w w') (hF:TF w L F) (hB:∀ k,F k→B≤k):Mw L ms mt mc B w w':=h.mono fun k _ hf=>⟨hB k hf,.inr (.inr (.inr (hF k hf)))⟩
theorem Mw.wk {a:World} (h0:Wk a w) (h:Mw L ms mt mc B w w') (hB:a.heap.size≤B):Wk a w':=Md.trans' h0 h fun k hk hw=>by have :=hw.1; omega
theorem Wr.ne (hs:tag w ms=1) (a:tag w mt=1) (hc:tag w mc=1) {e:Nat} (hl:L.contains (e+2)=false):∀ k,Wr L ms mt mc B w k→∀ cur z,w.heap[k]?≠some (.cells cur e z):=by
 rintro k ⟨_,rfl | rfl | rfl | h⟩ cur z hg <;> have h9:=cV hg
 · omega
 · omega
 · omega
 · rw [h9,hl] at h; cases h
end
end Go.Hb
end
section
namespace Go.Hb
open Go.RowKit
section
variable {P:Program} {N:Fm} {σ:Nat→Value} {w:World} {dst:Option Nat} {ty:TypeId} {pos :String} {af:Array Edge} {g:Option (Nat×Bool)} {x y:Operand}
theorem Gu (d:Nat) {t e:TypeId} {a:Option Addr} {n c:Nat} (hu:P.underlying t=some (.slice e)):(Op.equalIn (d+1) t (.slice a n c) (.slice none 0 0)).run P w= .ok a.isNone w:=by
 cases a <;> simp [Op.equalIn,dd hu]
theorem Gv {t e:TypeId} {a:Option Addr} {n c:Nat} (hu:P.underlying t=some (.slice e)):(Op.equal t (.slice a n c) (.slice none 0 0)).run P w= .ok a.isNone w:=Gu 9999 hu
theorem mF {t j e:TypeId} {a:Option Addr} {n c:Nat} (hu:P.underlying t=some (.slice e)) (i:ev N σ x= .slice a n c) (hy:ev N σ y= .slice none 0 0):
 (execOp (ev N σ) ⟨dst,.binOp .eql t x y j,ty,pos,af,g⟩).run P w= .ok (.value (.bool a.isNone)) w:=by
 have h:(binOp .eql t (.slice a n c) (.slice none 0 0)).run P w= .ok (.bool a.isNone) w:=by
  simp only [binOp]; simp [Gv hu]
 simp [execOp,i,hy,eqGuard,h]
end
def Rd (h:Array Obj) (v:Value) (n size:Nat) (xs:List Value):Prop := ∃ a c,v= .slice a n c∧aw h a xs∧xs.length=n*size∧(a=none→n=0)
theorem Rd.fY {w:World} {B e size n:Nat} {v:Value} {xs:List Value} (h:w.ownsRow B e size v n xs):Rd w.heap v n size xs:=by
 obtain ⟨a,c,rfl,h1,_,_,h3⟩:=nG h
 refine ⟨a,c,rfl,h1,h.1,fun ha=> ?_⟩
 subst ha
 rcases h.2 with ⟨h4,h5⟩ | ⟨g,cap,cur,h4,_⟩
 · exact h5
 · simp at h4
theorem AG {w:World} {B e size n k cp:Nat} {a:Option Addr} {xs:List Value} (h:w.ownsRow B e size (.slice a n cp) n xs) (hk:k≤n) (ha:a≠none):w.ownsRow B e size (.slice a k cp) k (xs.take (k*size)):=by
 obtain ⟨h0,h⟩:=h
 refine ⟨by rw [List.length_take,h0]; exact Nat.min_eq_left (Nat.mul_le_mul_right _ hk),?_⟩
 rcases h with ⟨h1,_⟩ | ⟨g,cap,cur,h1,h2,h3,h4,h5,i,j⟩
 · simp only [Value.slice.injEq] at h1; exact absurd h1.1 ha
 · simp only [Value.slice.injEq,true_and] at h1
   obtain ⟨rfl,rfl⟩:=h1
   refine .inr ⟨g,_,cur,rfl,h2,h3,by omega,h5,i,?_⟩
   rw [← j,List.take_take,Nat.min_eq_left (Nat.mul_le_mul_right _ hk)]
section
variable {P:Program} {N:Fm} {σ:Nat→Value} {w:World} {dst:Option Nat} {ty:TypeId} {pos :String} {af:Array Edge} {g:Option (Nat×Bool)} {x y z u:Operand} {K:(Nat→Value)→World→Prop}
theorem Lf {t n len cap:Nat} {a:Option Addr} {k k' s:IntKind} {i j m:Nat} (he:ez P t=some n) (p:ev N σ x= .slice a len cap) (hy:ev N σ y= .int k (i:Nat)) (hz:ev N σ z= .int k' (j:Nat)) (hu:ev N σ u= .int s (m:Nat)) (h:i≤j∧j≤m∧m≤cap):
 (execOp (ev N σ) ⟨dst,.slice t x (some y) (some z) (some u),ty,pos,af,g⟩).run P w= .ok (.value (.slice (ee a m i n) (j - i) (m - i))) w:=by
 have h1:(0:Int)≤(i:Int):=by omega
 have h2:(0:Int)≤(j:Int):=by omega
 have h3:(0:Int)≤(m:Int):=by omega
 unfold ez at he
 cases hd:P.underlying t with
 | none=>rw [hd] at he; cases he
 | some d=>
   rw [hd] at he
   cases d <;> first | (cases he; done) | skip
   rename_i e
   cases hi':P.info? e with
   | none=>simp [hi'] at he
   | some q=>
     simp only [hi',Option.map_some,Option.some.injEq] at he
     subst he
     simp only [execOp,Instr.sliceAt,Instr.slice,p,hy,hz,hu,Option.map_some,Instr.sliceBounds,Instr.sliceBound,asIntOf]
     simp [dd hd,fF hi',sizeOf,h.1,h.2.1,h.2.2,ee]
theorem CT {t e size bytes B n m cp c gg:Nat} {xs news:List Value} {a:Option Addr} (C:eo P t e size bytes=true) (s:w.ownsRow B e size (.slice (some ⟨gg,0,none⟩) n cp) n xs) (E:ev N σ x= .slice (some ⟨gg,0,none⟩) n cp)
 (hy:ev N σ y= .slice a m c) (hc:aw w.heap a news) (ha:a≠none) (hl:news.length=m*size) (h1:news.all Value.oneCell'=true) (A:n+m≤cp)
 (k:∀ w',Md (fun q=>q=gg) w w'→w'.ownsRow B e size (.slice (some ⟨gg,0,none⟩) (n+m) cp) (n+m) (xs++news)→K (fi σ dst (.slice (some ⟨gg,0,none⟩) (n+m) cp)) w'):
 cH P N ⟨dst,.call ⟨.builtin .append,#[x,y],#[t,t]⟩,ty,pos,af,g⟩ σ w K:=by
 obtain ⟨hu,i,zv,hi,hz,hs,hby,I,G⟩:=mS C
 obtain ⟨ad,rfl⟩:∃ ad,a=some ad:=by cases a with | none=>exact absurd rfl ha | some ad=>exact ⟨ad,rfl⟩
 have hn:∀ j v,news[j]? =some v→w.cell? (ad.add j)=some v:=fun j v p=>by
  have hne:news≠[]:=fun e=>by rw [e] at p; simp at p
  have h2:=hc.ok hne
  simp only [Option.some.injEq] at h2
  rw [h2,jc,jU]; exact hc.aE j v p
 obtain ⟨w',hr,h2,h3⟩:=Go.run_append_fits (P:=P) (w:=w) B t ty e i size hu hi hs gg n cp xs s ad m c news hl hn (oa h1) A
 refine ke (w':=w') (v:= .slice (some ⟨gg,0,none⟩) (n+m) cp) ?_ (k w' ⟨h3.os,h3.output,h3.size,fun q hq hne=>h3.block q hq (fun e=>hne (Option.some.inj e))⟩ h2)
 simp [execOp,resolve,invoke,builtin,E,hy,hr]
end
end Go.Hb
end
section
namespace Go.Hb
def lP (P:Program) (t:TypeId):Option (Nat×Nat):=
 match P.underlying t with
 | some (.array n e)=>(P.info? e).map fun i=>(n,i.size)
 | _=>none
section
variable {P:Program} {N:Fm} {σ:Nat→Value} {w:World} {dst:Option Nat} {ty:TypeId} {pos :String} {af:Array Edge} {g:Option (Nat×Bool)} {x y:Operand}
theorem iw {t n a b off :Nat} {k:IntKind} {i:Int} (he:lP P t=some (n,a)) (p:ev N σ x= .pointer (some ⟨b,off,none⟩)) (hy:ev N σ y= .int k i) (h0:0≤i∧i < n):
 (execOp (ev N σ) ⟨dst,.indexAddr t x y,ty,pos,af,g⟩).run P w= .ok (.value (.pointer (some ⟨b,off+i.toNat*a,none⟩))) w:=by
 unfold lP at he
 cases hd:P.underlying t with
 | none=>rw [hd] at he; cases he
 | some d=>
   rw [hd] at he
   cases d <;> first | (cases he; done) | skip
   rename_i m e
   cases hi:P.info? e with
   | none=>simp [hi] at he
   | some j=>
     simp only [hi,Option.map_some,Option.some.injEq,Prod.mk.injEq] at he
     obtain ⟨rfl,rfl⟩:=he
     simp [execOp,Instr.indexAt,Instr.sureAddr,p,hy,asIntOf,dd hd,h0.1,h0.2,sizeOf,fF hi,jc]
end
theorem Jf {h:Array Obj} {b:Nat} {a:List UInt8} (hB:bG h b (marksOf a)) (c:UInt8):Hb.aE h b (0 +((c.toNat:Nat):Int).toNat*1)=some (.bool (decide (c∈a))):=by
 rw [hB.aE,show 0 +((c.toNat:Nat):Int).toNat*1=c.toNat from by omega]; exact Jc a c
theorem Jg {h:Array Obj} {b:Nat} {a:List UInt8} {c:UInt8} (hB:bG h b ((marksOf a).set (0 +((c.toNat:Nat):Int).toNat*1) (.bool true))):bG h b (marksOf (a++ [c])):=by
 rw [show 0 +((c.toNat:Nat):Int).toNat*1=c.toNat from by omega,Je] at hB; exact hB
end Go.Hb
end
section
namespace Go.Hb
theorem Iv (c:UInt8):∀ l:List UInt8,Lib.indexByte l c=dD c l:=by
 intro l
 induction l with
 | nil=>rfl
 | cons b l ih=>
   unfold Lib.indexByte
   rw [ih]
   rw [show dD c (b::l)=if (b::l).idxOf c < (b::l).length then ((b::l).idxOf c:Int) else -1 from rfl,List.idxOf_cons]
   by_cases h:(b==c)=true
   · rw [if_pos h,h]; rfl
   · have i:(b==c)=false :=by simpa using h
     rw [if_neg h,i]
     simp only [cond_false,List.length_cons]
     by_cases h1:l.idxOf c < l.length
     · have a:dD c l=l.idxOf c:=if_pos h1
       rw [a,if_neg (fun hb=>by have :=eq_of_beq hb; omega),if_pos (by omega)]; rfl
     · have a:dD c l= -1:=if_neg h1
       rw [a,if_pos (by decide),if_neg (by omega)]
theorem KQ {P:Program} {f:FuncId} {fn:Func} (hf:P.funcs[f]? =some fn) (a:(fn.name== "runtime.NumGoroutine")=false) (hb:fn.body.isNone=true) (hn:Extern.findNext fn=none)
 (he:Extern.find fn=some Extern.BytealgIndexByte.indexByte) (l:List UInt8) (c:UInt8) (w:World):(callFunc f #[str l,.int .u8 c.toNat]).run P w= .ok (.value (.int .i64 (dD c l))) w:=by
 rw [run_callFunc_extern hf a hb hn he]
 unfold str
 rw [Lib.run_indexByteString]
 have h1:((c.toNat:Int)).toNat.toUInt8=c:=UInt8.toNat_inj.1 (by simp)
 rw [h1,Iv]
 rfl
theorem KP {P:Program} {f:FuncId} {fn:Func} (hf:P.funcs[f]? =some fn) (a:(fn.name== "runtime.NumGoroutine")=false) (hb:fn.body.isNone=true) (hn:Extern.findNext fn=none)
 (he:Extern.find fn=some Extern.BytealgCount.count) (l:List UInt8) (c:UInt8) (w:World):(callFunc f #[str l,.int .u8 c.toNat]).run P w= .ok (.value (.int .i64 (l.count c:Nat))) w:=by
 rw [run_callFunc_extern hf a hb hn he]
 unfold str
 rw [Lib.run_countString]
 have h1:((c.toNat:Int)).toNat.toUInt8=c:=UInt8.toNat_inj.1 (by simp)
 rw [h1]
 rfl
section
variable {P:Program} {N:Fm} {σ:Nat→Value} {w:World} {dst:Option Nat} {ty:TypeId} {pos :String} {af:Array Edge} {g:Option (Nat×Bool)}
theorem xW {f:FuncId} {a b v:Value} {args:Array Operand} {i:Array TypeId} (h:(callFunc f #[a,b]).run P w= .ok (.value v) w) (j:args.toList.map (ev N σ)= [a,b]):
 (execOp (ev N σ) ⟨dst,.call ⟨.value (.func f),args,i⟩,ty,pos,af,g⟩).run P w= .ok (.value v) w:=by
 have :args.map (ev N σ)= #[a,b]:=by rw [← Array.toList_inj,Array.toList_map,j]
 simp [execOp,resolve,ev,Deferred.ofValue,invoke,this,h]
end
end Go.Hb
end
section
namespace Go.Hb
open Go.RowKit
theorem KU {L:List Value} {o:Nat} {v:Value} (h:o < L.length):(L.set o v).take (o+1)=L.take o++ [v]:=by
 rw [List.set_eq_take_append_cons_drop,if_pos h,List.take_append,List.length_take,Nat.min_eq_left (by omega),Nat.add_sub_cancel_left,List.take_of_length_le (by rw [List.length_take]; omega)]
 rfl
theorem KS {L:List Value} {o m:Nat} {v:Value} (h:o < m):(L.set o v).drop m=L.drop m:=by
 rw [List.drop_set,if_pos h]
theorem Bf (b e:Nat):∀ (vs:List Value) (o:Nat) (L:List Value) (w:World),w.heap[b]? =some (.cells L.toArray e (0,0))→o+vs.length≤L.length→
 (w.setCells b o vs).heap[b]? =some (.cells (L.take o++vs++L.drop (o+vs.length)).toArray e (0,0))∧Md (fun k=>k=b) w (w.setCells b o vs):=by
 intro vs
 induction vs with
 | nil=>intro o L w hb _; exact ⟨by simpa [World.setCells] using hb,Md.refl _ _⟩
 | cons v r ih=>
   intro o L w hb hl
   simp only [List.length_cons] at hl
   have h1:(w.setCell ⟨b,o,none⟩ v).heap[b]? =some (.cells (L.set o v).toArray e (0,0)):=by
    have hlt:=(Array.getElem?_eq_some_iff.1 hb).1
    have hv:w.heap[b]= .cells L.toArray e (0,0):=(Array.getElem?_eq_some_iff.1 hb).2
    simp only [World.setCell]
    rw [Array.getElem?_eq_getElem (by simpa using hlt),Array.getElem_modify]
    simp [hv,List.setIfInBounds_toArray]
   have a:Md (fun k=>k=b) w (w.setCell ⟨b,o,none⟩ v):=⟨rfl,rfl,by simp [World.setCell],fun k _ hk=>Below.heap_setCell w _ v k hk⟩
   obtain ⟨h2,h3⟩:=ih (o+1) (L.set o v) _ h1 (by rw [List.length_set]; omega)
   refine ⟨?_,Md.trans a h3⟩
   show ((w.setCell ⟨b,o,none⟩ v).setCells b (o+1) r).heap[b]? =_
   rw [h2,KU (by omega),KS (by omega),List.length_cons,show o+1 +r.length=o+(r.length+1) from by omega]
   simp
section
variable {P:Program} {N:Fm} {σ:Nat→Value} {w:World} {ty:TypeId} {pos :String} {af:Array Edge} {g:Option (Nat×Bool)} {x:Operand} {K:(Nat→Value)→World→Prop}
theorem E0 {t e B n k cp c' m:Nat} {a:Option Addr} {xs:List Value} {z:Value} (I:P.underlying t=some (.slice e)) (hz:zeroV P e=some z) (h1:z.oneCell'=true) (E:w.ownsRow B e 1 (.slice a n cp) n xs)
 (p:ev N σ x= .slice (ee a cp k 1) m c') (hm:m=n - k) (hk:k < n) (M:∀ w',Md (fun q=>(Value.slice a n cp).ownBlock=some q) w w'→w'.ownsRow B e 1 (.slice a n cp) n (xs.take k++List.replicate (n - k) z)→K σ w'):
 cH P N ⟨none,.call ⟨.builtin .clear,#[x],#[t]⟩,ty,pos,af,g⟩ σ w K:=by
 obtain ⟨h0,h⟩:=E
 subst hm
 rcases h with ⟨h,rfl⟩ | ⟨gg,O,cur,h,hB,hg,hle,A,hsz,J⟩
 · omega
 · simp only [Value.slice.injEq,true_and] at h
   obtain ⟨rfl,rfl⟩:=h
   have G:ee (some ⟨gg,0,none⟩) cp k 1=some ⟨gg,k,none⟩:=by
    unfold ee; rw [if_neg (by omega)]; simp [jc]
   rw [G] at p
   have i:w.heap[gg]? =some (.cells cur.toList.toArray e (0,0)):=by simpa using hg
   have hcl:cur.toList.length=cp*1:=by rw [Array.length_toList]; exact hsz
   have hrun:=Lib.run_clear_slice (P:=P) w t e ty z I (fun w=>rO hz w) (by cases z <;> first | rfl | (cases h1; done)) h1 gg k (n - k) c' (by omega)
    (fun j C=>by rw [jU,aQ i]; simp; omega) (fun j C=>by simp only [World.frozen?,show w.heap[gg]? =_ from i]; simp)
   obtain ⟨h2,h3⟩:=Bf gg e (List.replicate (n - k) z) k cur.toList w i (by rw [List.length_replicate,hcl]; omega)
   refine ke (w':=w.setCells gg k (List.replicate (n - k) z)) (v:= .tuple #[]) ?_ (M _ (h3.mono fun q _ hq=>by subst hq; rfl) ⟨?_,.inr ⟨gg,cp,_,rfl,hB,h2,hle,A,?_,?_⟩⟩)
   · simp [execOp,resolve,invoke,builtin,p,hrun]
   · rw [List.length_append,List.length_take,List.length_replicate,h0]; omega
   · simp only [List.size_toArray,List.length_append,List.length_take,List.length_drop,List.length_replicate,hcl]; omega
   · rw [List.length_replicate,Nat.mul_one]
     have s:(cur.toList.take k++List.replicate (n - k) z++cur.toList.drop (k+(n - k))).toArray.toList=(cur.toList.take k++List.replicate (n - k) z)++cur.toList.drop (k+(n - k)):=rfl
     rw [s,List.take_append,List.length_append,List.length_take,List.length_replicate,hcl,Nat.min_eq_left (by omega),show n - (k+(n - k))=0 by omega,List.take_zero,List.append_nil,List.take_of_length_le (by rw [List.length_append,List.length_take,List.length_replicate,hcl]; omega)]
     rw [← J,List.take_take,Nat.mul_one,Nat.min_eq_left (by omega)]
theorem E1 {t e B n cp c' m:Nat} {a:Option Addr} {xs:List Value} {z:Value} (I:P.underlying t=some (.slice e)) (hz:zeroV P e=some z) (h1:z.oneCell'=true) (E:w.ownsRow B e 1 (.slice a n cp) n xs) (ha:a≠none)
 (p:ev N σ x= .slice (ee a cp n 1) m c') (hm:0 < m∧n+m≤cp) (M:∀ w',Md (fun q=>(Value.slice a n cp).ownBlock=some q) w w'→w'.ownsRow B e 1 (.slice a n cp) n xs→K σ w'):
 cH P N ⟨none,.call ⟨.builtin .clear,#[x],#[t]⟩,ty,pos,af,g⟩ σ w K:=by
 obtain ⟨h0,h⟩:=E
 rcases h with ⟨h,rfl⟩ | ⟨gg,O,cur,h,hB,hg,hle,A,hsz,J⟩
 · simp only [Value.slice.injEq] at h; exact absurd h.1 ha
 · simp only [Value.slice.injEq,true_and] at h
   obtain ⟨rfl,rfl⟩:=h
   have G:ee (some ⟨gg,0,none⟩) cp n 1=some ⟨gg,n,none⟩:=by
    unfold ee; rw [if_neg (by omega)]; simp [jc]
   rw [G] at p
   have i:w.heap[gg]? =some (.cells cur.toList.toArray e (0,0)):=by simpa using hg
   have hcl:cur.toList.length=cp*1:=by rw [Array.length_toList]; exact hsz
   have hrun:=Lib.run_clear_slice (P:=P) w t e ty z I (fun w=>rO hz w) (by cases z <;> first | rfl | (cases h1; done)) h1 gg n m c' hm.1
    (fun j C=>by rw [jU,aQ i]; simp; omega) (fun j C=>by simp only [World.frozen?,show w.heap[gg]? =_ from i]; simp)
   obtain ⟨h2,h3⟩:=Bf gg e (List.replicate m z) n cur.toList w i (by rw [List.length_replicate,hcl]; omega)
   refine ke (w':=w.setCells gg n (List.replicate m z)) (v:= .tuple #[]) ?_ (M _ (h3.mono fun q _ hq=>by subst hq; rfl) ⟨h0,.inr ⟨gg,cp,_,rfl,hB,h2,hle,A,?_,?_⟩⟩)
   · simp [execOp,resolve,invoke,builtin,p,hrun]
   · simp only [List.size_toArray,List.length_append,List.length_take,List.length_drop,List.length_replicate,hcl]; omega
   · rw [List.length_replicate,Nat.mul_one]
     have s:(cur.toList.take n++List.replicate m z++cur.toList.drop (n+m)).toArray.toList=cur.toList.take n++(List.replicate m z++cur.toList.drop (n+m)):=List.append_assoc _ _ _
     rw [s,List.take_append,List.length_take,hcl,Nat.min_eq_left (by omega),Nat.sub_self,List.take_zero,List.append_nil,List.take_of_length_le (by rw [List.length_take]; omega),← J,Nat.mul_one]
end
end Go.Hb
end
section
namespace Go.Hb
open Go.RowKit
def r8 (P:Program) (t:TypeId):Option (List Value):=
 match P.info? t,P.underlying t with
 | some it,some (.array _ e)=>
   match it.zero,P.info? e with
   | some z,some ie=>if ie.size=1 then some z.cells.toList else none
   | _,_=>none
 | _,_=>none
def oS:List Value→List (Nat×Value)→Option (List Value)
 | a,[]=>some a
 | a,(i,v)::r=>if (v.oneCell' && Nat.blt i a.length)=true then oS (a.set i v) r else none
theorem Ki {a L:List Value} {ps:List (Nat×Value)} (h:oS a ps=some L):Instr.fill (fun i=>some (i*1,1)) a.toArray ps=some L.toArray:=by
 induction ps generalizing a with
 | nil=>simp only [oS,Option.some.injEq] at h; subst h; rfl
 | cons q r ih=>
   obtain ⟨i,v⟩:=q
   rw [oS] at h
   split at h
   · rename_i hc
     simp only [Bool.and_eq_true] at hc
     have hv:=l8 hc.1
     have j:i < a.length:=Nat.le_of_ble_eq_true hc.2
     simp only [Instr.fill,hv,Nat.mul_one]
     rw [if_neg (by simp; omega)]
     have :=ih h
     simp only [Nat.mul_one] at this
     rw [← this]
     simp
   · cases h
section
variable {P:Program} {N:Fm} {σ:Nat→Value} {w:World} {dst:Option Nat} {ty:TypeId} {pos :String} {af:Array Edge} {g:Option (Nat×Bool)}
theorem wP {t:TypeId} {parts:Array (Nat×Operand)} {a L:List Value} {ps:List (Nat×Value)} (h:r8 P t=some a) (hp:parts.toList.map (fun q=>(q.1,ev N σ q.2))=ps) (i:oS a ps=some L):
 (execOp (ev N σ) ⟨dst,.build t parts,ty,pos,af,g⟩).run P w= .ok (.value (.agg L.toArray)) w:=by
 unfold r8 at h
 split at h
 · rename_i it n e hi hu
   split at h
   · rename_i z j hz he
     split at h
     · rename_i hs
       simp only [Option.some.injEq] at h
       subst h
       have hb:P.built t (parts.map (fun q=>(q.1,ev N σ q.2))).toList=some L.toArray:=by
        have :=Ki i
        simp only [Array.toArray_toList] at this
        simp only [Program.built,hi,hu,hz,he,hs,Array.toList_map,hp]; exact this
       simp [execOp,run_build w t _ _ hb]
     · cases h
   · cases h
 · cases h
end
end Go.Hb
end
section
namespace Go.Hb
abbrev cR:Type :=Tx×List Nat
noncomputable def et (F:aI) (row:List Tx):Except Nat cR:=
 if row.length≠1 then .error 111
 else if (aW (row.getD 0 [])).2.2.2≠0 then .error (aW (row.getD 0 [])).2.2.2
 else if ei (aW (row.getD 0 [])).1=false∨(aW (row.getD 0 [])).1= [] then .error 21
 else if 64 < (aW (row.getD 0 [])).1.length then .error 22
 else if (aW (row.getD 0 [])).2.2.1=false then .ok ((aW (row.getD 0 [])).1,[])
 else match ed F.kind F.aliases (aW (row.getD 0 [])).2.1 with
  | .error e=> .error e
  | .ok set =>if set.all (dw F)=true then .ok ((aW (row.getD 0 [])).1,set) else .error 120
section
variable {F:aI} {row:List Tx}
theorem yC (h:row.length≠1):et F row= .error 111:=if_pos h
theorem qg (h:row.length=1) (h1:(aW (row.getD 0 [])).2.2.2≠0):et F row= .error (aW (row.getD 0 [])).2.2.2:=by
 unfold et; rw [if_neg (fun h2=>h2 h),if_pos h1]
variable (h:row.length=1) (h1:(aW (row.getD 0 [])).2.2.2=0)
include h h1
theorem qh (h2:ei (aW (row.getD 0 [])).1=false∨(aW (row.getD 0 [])).1= []):et F row= .error 21:=by
 unfold et; rw [if_neg (fun h2=>h2 h),if_neg (fun h2=>h2 h1),if_pos h2]
variable (h2:ei (aW (row.getD 0 [])).1=true) (h3:(aW (row.getD 0 [])).1≠[])
include h2 h3
omit h h1 in
theorem ou:¬(ei (aW (row.getD 0 [])).1=false∨(aW (row.getD 0 [])).1= []):=fun h=>h.elim (fun h=>by rw [h2] at h; cases h) h3
theorem yD (h4:64 < (aW (row.getD 0 [])).1.length):et F row= .error 22:=by
 unfold et; rw [if_neg (fun h2=>h2 h),if_neg (fun h2=>h2 h1),if_neg (ou h2 h3),if_pos h4]
variable (h4:¬64 < (aW (row.getD 0 [])).1.length)
include h4
theorem s6 (h5:(aW (row.getD 0 [])).2.2.1=false):et F row= .ok ((aW (row.getD 0 [])).1,[]):=by
 unfold et; rw [if_neg (fun h2=>h2 h),if_neg (fun h2=>h2 h1),if_neg (ou h2 h3),if_neg h4,if_pos h5]
variable (h5:(aW (row.getD 0 [])).2.2.1=true)
include h5
theorem yE {e:Nat} (a:ed F.kind F.aliases (aW (row.getD 0 [])).2.1= .error e):et F row= .error e:=by
 unfold et; rw [if_neg (fun h2=>h2 h),if_neg (fun h2=>h2 h1),if_neg (ou h2 h3),if_neg h4,if_neg (by rw [h5]; exact Bool.noConfusion),a]
theorem yF {set :List Nat} {i:Nat} (a:ed F.kind F.aliases (aW (row.getD 0 [])).2.1= .ok set) (hi:i < set.length) (j:dw F (set.getD i 0)=false):et F row= .error 120:=by
 unfold et; rw [if_neg (fun h2=>h2 h),if_neg (fun h2=>h2 h1),if_neg (ou h2 h3),if_neg h4,if_neg (by rw [h5]; exact Bool.noConfusion),a]
 exact if_neg (by rw [wj 0 hi j]; exact Bool.noConfusion)
theorem s7 {set :List Nat} (a:ed F.kind F.aliases (aW (row.getD 0 [])).2.1= .ok set) (j:∀ i,i < set.length→dw F (set.getD i 0)=true):et F row= .ok ((aW (row.getD 0 [])).1,set):=by
 unfold et; rw [if_neg (fun h2=>h2 h),if_neg (fun h2=>h2 h1),if_neg (ou h2 h3),if_neg h4,if_neg (by rw [h5]; exact Bool.noConfusion),a]
 exact if_pos (wm 0 j)
end
noncomputable def ek (F:aI) (eof:Nat):Nat→List Rw→Except (Nat×Nat) (List cR)
 | 0,[]=> .ok []
 | _+1,[]=> .error (eof,116)
 | 0,(ln,_)::_=> .error (ln,116)
 | n+1,(ln,row)::rows=>match et F row with
   | .error e=> .error (ln,e)
   | .ok x=>match ek F eof n rows with
     | .error e=> .error e
     | .ok r=> .ok (x::r)
noncomputable def eO (F:aI) (t:Tx):Except (Nat×Nat) (List cR):=
 if 65536 < t.length then .error (0,10)
 else match bh t with
  | []=> .error ((a7 t).length+1,116)
  | (ln,row)::rows=>if row.length≠1 then .error (ln,111) else match dy (row.getD 0 []) 8192 with
    | .error e=> .error (ln,e)
    | .ok n=>ek F ((a7 t).length+1) n rows
def fk (F:aI) (eof:Nat) (T:Except (Nat×Nat) (List cR)) (xs:List cR) (n:Nat) (rows:List Rw):Prop :=
 T=match ek F eof n rows with
  | .error e=> .error e
  | .ok r=> .ok (xs++r)
section
variable {F:aI} {eof n ln:Nat} {T:Except (Nat×Nat) (List cR)} {xs:List cR} {rows:List Rw} {row:List Tx}
theorem fk.start:fk F eof (ek F eof n rows) [] n rows:=by
 unfold fk; cases ek F eof n rows <;> rfl
theorem fk.done (h:fk F eof T xs 0 []):T= .ok xs:=by
 unfold fk at h; rw [ek] at h; simpa using h
theorem fk.ends (h:fk F eof T xs n []) (hn:0 < n):T= .error (eof,116):=by
 obtain ⟨m,rfl⟩:∃ m,n=m+1:=⟨n - 1,by omega⟩
 unfold fk at h; rw [ek] at h; exact h
theorem fk.more (h:fk F eof T xs 0 ((ln,row)::rows)):T= .error (ln,116):=by
 unfold fk at h; rw [ek] at h; exact h
theorem fk.bad {e:Nat} (h:fk F eof T xs n ((ln,row)::rows)) (hn:0 < n) (he:et F row= .error e):T= .error (ln,e):=by
 obtain ⟨m,rfl⟩:∃ m,n=m+1:=⟨n - 1,by omega⟩
 unfold fk at h; rw [ek,he] at h; exact h
theorem fk.step {x:cR} (h:fk F eof T xs n ((ln,row)::rows)) (hn:0 < n) (he:et F row= .ok x):fk F eof T (xs++ [x]) (n - 1) rows:=by
 obtain ⟨m,rfl⟩:∃ m,n=m+1:=⟨n - 1,by omega⟩
 unfold fk at h ⊢; rw [ek,he] at h
 rw [h,Nat.add_sub_cancel]
 simp only
 cases ek F eof m rows <;> simp
end
section
variable {F:aI} {t:Tx}
theorem yr (h:65536 < t.length):eO F t= .error (0,10):=if_pos h
theorem yt (h:¬65536 < t.length) (h1:bh t= []):eO F t= .error ((a7 t).length+1,116):=by
 unfold eO; rw [if_neg h,h1]
variable {ln:Nat} {row:List Tx} {rows:List Rw} (h:¬65536 < t.length) (h1:bh t=(ln,row)::rows)
include h h1
theorem F7 (h2:row.length≠1):eO F t= .error (ln,111):=by
 unfold eO; rw [if_neg h,h1]; exact if_pos h2
theorem F9 (h2:row.length=1) {e:Nat} (h3:dy (row.getD 0 []) 8192= .error e):eO F t= .error (ln,e):=by
 unfold eO; rw [if_neg h,h1]; simp only; rw [if_neg (fun h=>h h2),h3]
theorem yp (h2:row.length=1) {n:Nat} (h3:dy (row.getD 0 []) 8192= .ok n):eO F t=ek F ((a7 t).length+1) n rows:=by
 unfold eO; rw [if_neg h,h1]; simp only; rw [if_neg (fun h=>h h2),h3]
end
theorem Hl {α:Type} {a b:List α} {i:Nat} {d:α} (h:i < a.length):(a++b).getD i d=a.getD i d:=by
 rw [List.getD_eq_getElem?_getD,List.getD_eq_getElem?_getD,List.getElem?_append_left h]
def idxs (s:Tx) (xs:List cR):List Nat:=(List.range xs.length).filter fun i=>decide ((xs.getD i ([],[])).1=s)
theorem qK (s:Tx) (xs:List cR) (x:cR):idxs s (xs++ [x])=idxs s xs++(if x.1=s then [xs.length] else []):=by
 unfold idxs
 rw [List.length_append,List.length_singleton,List.range_succ,List.filter_append]
 congr 1
 · refine List.filter_congr fun i hi=> ?_
   have hi:i < xs.length:=by simpa using hi
   rw [Hl hi]
 · by_cases a:x.1=s <;> simp [List.filter,a]
theorem mJ (s:Tx) (xs:List cR):(idxs s xs).length≤xs.length:=by
 unfold idxs; have :=List.length_filter_le (fun i=>decide ((xs.getD i ([],[])).1=s)) (List.range xs.length); simpa using this
theorem zR {s:Tx} {xs:List cR} {i:Nat} (h:i < xs.length):idxs s (xs.take (i+1))=idxs s (xs.take i)++(if (xs.getD i ([],[])).1=s then [i] else []):=by
 rw [eh xs i ([],[]) h,qK,List.length_take,Nat.min_eq_left (by omega)]
theorem Gl {F:aI} {eof:Nat} :∀ {n:Nat} {rows:List Rw} {r:List cR},ek F eof n rows= .ok r→r.length=n∧rows.length=n:=by
 intro n
 induction n with
 | zero=>
   intro rows r h
   cases rows with
   | nil=>rw [ek] at h; cases h; exact ⟨rfl,rfl⟩
   | cons q rows=>rw [ek] at h; cases h
 | succ n ih=>
   intro rows r h
   cases rows with
   | nil=>rw [ek] at h; cases h
   | cons q rows=>
     rw [ek] at h
     split at h
     · cases h
     · split at h
       · cases h
       · rename_i h2
         cases h
         have :=ih h2
         simp only [List.length_cons]; omega
end Go.Hb
end
section
namespace Go.Hb
section
variable {P:Program} {N:Fm} {σ:Nat→Value} {w:World} {dst:Option Nat} {ty:TypeId} {pos :String} {af:Array Edge} {g:Option (Nat×Bool)} {x:Operand}
theorem CU {t n i b:Nat} (he:lP P t=some (n,i)) (a:ev N σ x= .pointer (some ⟨b,0,none⟩)):
 (execOp (ev N σ) ⟨dst,.slice t x none none none,ty,pos,af,g⟩).run P w= .ok (.value (.slice (some ⟨b,0,none⟩) n n)) w:=by
 unfold lP at he
 cases hd:P.underlying t with
 | none=>rw [hd] at he; cases he
 | some d=>
   rw [hd] at he
   cases d <;> first | (cases he; done) | skip
   rename_i m e
   cases hi:P.info? e with
   | none=>simp [hi] at he
   | some j=>
     simp only [hi,Option.map_some,Option.some.injEq,Prod.mk.injEq] at he
     obtain ⟨rfl,rfl⟩:=he
     simp [execOp,Instr.sliceAt,Instr.sureAddr,Instr.sliceBounds,a,dd hd,sizeOf,fF hi,jc]
def tg (P:Program) (t f:Nat):Option (Nat×Nat):=
 match P.underlying t with
 | some (.struct a)=>(a[f]?).map fun d=>(d.type,d.offset)
 | _=>none
theorem GU {t f a off n:Nat} {cs vs:List Value} (h:tg P t f=some (a,off)) (ha:cA P a=some (some n)) (j:ev N σ x= .agg cs.toArray) (hv:(cs.drop off).take n=vs):
 (execOp (ev N σ) ⟨dst,.field t x f,ty,pos,af,g⟩).run P w= .ok (.value (.agg vs.toArray)) w:=by
 subst hv
 unfold tg at h
 cases hd:P.underlying t with
 | none=>rw [hd] at h; cases h
 | some d=>
   rw [hd] at h
   cases d <;> first | (cases h; done) | skip
   rename_i p
   simp only [Option.map_eq_some_iff] at h
   obtain ⟨fd,hf,he⟩:=h
   cases he
   unfold cA at ha
   cases hd2:P.underlying fd.type with
   | none=>rw [hd2] at ha; cases ha
   | some d2=>
     rw [hd2] at ha
     cases hi:P.info? fd.type with
     | none=>simp [Program.underlying,hi] at hd2
     | some i=>
       rw [hi] at ha
       have q:cs.toArray.extract fd.offset (fd.offset+n)=((cs.drop fd.offset).take n).toArray:=by simp
       cases d2 <;> first
        | (cases ha; done)
        | (simp only [Option.map_some,Option.some.injEq] at ha; subst ha
           simp [execOp,Instr.field,dd hd,hf,j,asAgg,part,isAgg,dd hd2,sizeOf,fF hi])
end
end Go.Hb
end
section
namespace Go.Hb
def jV:bX:=⟨0,0,false,0,0⟩
def eB (F:aI):bX:=F.a3.getD (F.a3.length - 1) jV
noncomputable def fA (F:aI) (ln:Nat) (row:List Tx):Except Nat aI:=
 if row.getD 0 []=dE then (match gL ln row with | .error e=> .error e | .ok x=> .ok {F with bN:=F.bN++ [x]})
 else if row.getD 0 []=db then (match gR F.kind ln row with | .error e=> .error e | .ok x=> .ok {F with aliases:=F.aliases++ [x]})
 else match eC F.kind F.aliases (eB F) ln row with | .error e=> .error e | .ok x=> .ok {F with rules:=F.rules++ [x]}
noncomputable def eG (hd:List Tx) (eof:Nat):Nat→aI→List Rw→Except (Nat×Nat) (aI×List Rw)
 | 0,F,rows=> .ok (F,rows)
 | _+1,F,[]=> .error (eof,116)
 | n+1,F,(ln,row)::rows=>if row.take hd.length≠hd then .error (ln,116) else match fA F ln row with
   | .error e=> .error (ln,e)
   | .ok F'=>eG hd eof n F' rows
theorem rz {row:List Tx} {k:Tx} (h:row≠[]):row.take [k].length= [k]↔row.getD 0 []=k:=by
 cases row with
 | nil=>exact absurd rfl h
 | cons a l=>simp
theorem rA {row:List Tx} {k j:Tx} :row.take [k,j].length= [k,j]↔2≤row.length∧row.getD 0 []=k∧row.getD 1 []=j:=by
 match row with
 | []=>simp
 | [a]=>simp
 | a::b::l=>simp
section
variable {eof:Nat}
theorem Ht:∀ (n:Nat) (F:aI) (rows:List Rw),eG [dE] eof n F rows=match group [dE] gL eof n rows with | .error e=> .error e | .ok r=> .ok ({F with bN:=F.bN++r.1},r.2):=by
 intro n
 induction n with
 | zero=>intro F rows; simp [eG,group]
 | succ n ih=>
   intro F rows
   cases rows with
   | nil=>simp [eG,group]
   | cons q rows=>
     obtain ⟨ln,row⟩:=q
     simp only [eG,group]
     by_cases a:row.take [dE].length≠[dE]
     · rw [if_pos a,if_pos a]
     · rw [if_neg a,if_neg a]
       have h0:row.getD 0 []=dE:=by
        refine (rz ?_).1 (Classical.not_not.1 a)
        rintro rfl; exact a (by simp)
       unfold fA
       rw [if_pos h0]
       cases gL ln row with
       | error e=>rfl
       | ok x=>
         simp only
         rw [ih]
         cases group [dE] gL eof n rows with
         | error e=>rfl
         | ok r=>simp only [List.append_assoc]; rfl
theorem Hs:∀ (n:Nat) (F:aI) (rows:List Rw),eG [db] eof n F rows=match group [db] (gR F.kind) eof n rows with | .error e=> .error e | .ok r=> .ok ({F with aliases:=F.aliases++r.1},r.2):=by
 intro n
 induction n with
 | zero=>intro F rows; simp [eG,group]
 | succ n ih=>
   intro F rows
   cases rows with
   | nil=>simp [eG,group]
   | cons q rows=>
     obtain ⟨ln,row⟩:=q
     simp only [eG,group]
     by_cases a:row.take [db].length≠[db]
     · rw [if_pos a,if_pos a]
     · rw [if_neg a,if_neg a]
       have h0:row.getD 0 []=db:=by
        refine (rz ?_).1 (Classical.not_not.1 a)
        rintro rfl; exact a (by simp)
       unfold fA
       rw [if_neg (by rw [h0]; decide),if_pos h0]
       cases gR F.kind ln row with
       | error e=>rfl
       | ok x=>
         simp only
         rw [ih]
         cases group [db] (gR F.kind) eof n rows with
         | error e=>rfl
         | ok r=>simp only [List.append_assoc]; rfl
theorem Hu {h0 h1:Tx} (hk:h0≠dE) (j:h0≠db):∀ (n:Nat) (F:aI) (rows:List Rw),eG [h0,h1] eof n F rows=match group [h0,h1] (eC F.kind F.aliases (eB F)) eof n rows with | .error e=> .error e | .ok r=> .ok ({F with rules:=F.rules++r.1},r.2):=by
 intro n
 induction n with
 | zero=>intro F rows; simp [eG,group]
 | succ n ih=>
   intro F rows
   cases rows with
   | nil=>simp [eG,group]
   | cons q rows=>
     obtain ⟨ln,row⟩:=q
     simp only [eG,group]
     by_cases a:row.take [h0,h1].length≠[h0,h1]
     · rw [if_pos a,if_pos a]
     · rw [if_neg a,if_neg a]
       have i:row.getD 0 []=h0:=(rA.1 (Classical.not_not.1 a)).2.1
       unfold fA
       rw [if_neg (by rw [i]; exact hk),if_neg (by rw [i]; exact j)]
       cases eC F.kind F.aliases (eB F) ln row with
       | error e=>rfl
       | ok x=>
         simp only
         rw [ih]
         show (match group [h0,h1] (eC F.kind F.aliases (eB F)) eof n rows with | .error e=>_ | .ok r=>_)=_
         cases group [h0,h1] (eC F.kind F.aliases (eB F)) eof n rows with
         | error e=>rfl
         | ok r=>simp only [List.append_assoc]; rfl
end
section
variable {hd:List Tx} {eof n ln:Nat} {F:aI} {row:List Tx} {rows:List Rw} {T:Except (Nat×Nat) (aI×List Rw)}
theorem Hq (h:eG hd eof n F []=T) (hn:0 < n):T= .error (eof,116):=by
 obtain ⟨m,rfl⟩:∃ m,n=m+1:=⟨n - 1,by omega⟩
 exact h.symm
theorem tL (h:eG hd eof n F ((ln,row)::rows)=T) (hn:0 < n) (hr:row.take hd.length≠hd):T= .error (ln,116):=by
 obtain ⟨m,rfl⟩:∃ m,n=m+1:=⟨n - 1,by omega⟩
 rw [← h,eG,if_pos hr]
theorem Ho {e:Nat} (h:eG hd eof n F ((ln,row)::rows)=T) (hn:0 < n) (hr:row.take hd.length=hd) (he:fA F ln row= .error e):T= .error (ln,e):=by
 obtain ⟨m,rfl⟩:∃ m,n=m+1:=⟨n - 1,by omega⟩
 rw [← h,eG,if_neg (fun h2=>h2 hr),he]
theorem Hr {F':aI} (h:eG hd eof n F ((ln,row)::rows)=T) (hn:0 < n) (hr:row.take hd.length=hd) (he:fA F ln row= .ok F'):eG hd eof (n - 1) F' rows=T:=by
 obtain ⟨m,rfl⟩:∃ m,n=m+1:=⟨n - 1,by omega⟩
 rw [← h,eG,if_neg (fun h2=>h2 hr),he]; rfl
theorem Hp (h:eG hd eof 0 F rows=T):T= .ok (F,rows):=h.symm
end
def gI (head:List Tx):List Tx:=if head.length=4 then [head.getD 0 [],head.getD 1 []] else [head.getD 0 []]
theorem zI {head:List Tx} (h:head.length≠4):gI head= [head.getD 0 []]:=if_neg h
theorem zJ {head:List Tx} (h:head.length=4):gI head= [head.getD 0 [],head.getD 1 []]:=if_pos h
theorem HW {head row:List Tx} (h:row.getD 0 []≠head.getD 0 []):row.take (gI head).length≠gI head:=by
 unfold gI
 split
 · exact fun h2=>h (rA.1 h2).2.1
 · intro h2
   cases row with
   | nil=>simp at h2
   | cons a l=>exact h ((rz (by simp)).1 h2)
theorem zL {head row:List Tx} (h4:head.length=4) (h:row.length < 2∨row.getD 1 []≠head.getD 1 []):row.take (gI head).length≠gI head:=by
 rw [zJ h4]
 intro h2
 have :=rA.1 h2
 rcases h with h | h
 · omega
 · exact h this.2.2
theorem zM {head row:List Tx} (h0:row.getD 0 []=head.getD 0 []) (hr:row≠[]) (h1:head.length=4→2≤row.length∧row.getD 1 []=head.getD 1 []):row.take (gI head).length=gI head:=by
 unfold gI
 split
 · rename_i h4; exact rA.2 ⟨(h1 h4).1,h0,(h1 h4).2⟩
 · exact (rz hr).2 h0
def lr (k:Tx):Int:=if k∈cO then (cO.idxOf k:Nat) else -1
theorem nK {k:Tx} :(0≤lr k)↔k∈cO:=by
 unfold lr; split
 · rename_i h; exact ⟨fun _=>h,fun _=>by omega⟩
 · rename_i h; exact ⟨fun h2=>by omega,fun h2=>absurd h2 h⟩
end Go.Hb
end
section
namespace Go.Hb
def rK:Tx:= [83,70,88,32,65,32,89,32,48,10]
def vw:Tx:= [50,10,102,108,121,47,65,10,105,110,92,47,111,117,116,10]
def nS:aI:=⟨1,[],[],[0,0,0,0,0],3,[],[],[⟨65,2,true,0,0⟩],[]⟩
def mU:List cR:= [([102,108,121],[65]),([105,110,47,111,117,116],[])]
theorem Au {b:UInt8} {m:Int} (h:48≤b.toNat∧b.toNat≤57) (hm:((b.toNat - 48:Nat):Int)≤m):dy [b] m= .ok (b.toNat - 48):=by
 have hv:du [b]=b.toNat - 48:=by simp [du]
 have hz:¬l1 [b]:=by rintro (h | ⟨h,_⟩) <;> simp at h
 have hd:sW [b]:=fun i hi=>by
  have hi:i=0:=by simpa using hi
  subst hi
  exact decide_eq_true h
 unfold dy
 rw [um hz hd (by rw [hv]; omega),hv]
 rfl
theorem Mk:bh rK= [(1,[[83,70,88],[65],[89],[48]])]:=by decide+kernel
theorem Ml:bh vw= [(1,[[50]]),(2,[[102,108,121,47,65]]),(3,[[105,110,92,47,111,117,116]])]:=by decide+kernel
theorem vz:dm 1 [65]=65:=by unfold dm; decide+kernel
theorem Mi:eF fJ [65]= .ok 65:=by
 unfold eF eE fJ
 simp only
 rw [vz]
 simp [dw,dK]
theorem Mg:eM rK= .ok nS:=by
 unfold eM
 rw [if_neg (by decide),Mk]
 simp only [List.length_cons,List.length_nil]
 have hh:bA ((a7 rK).length+1) fJ [] [] 1 [[83,70,88],[65],[89],[48]]= .ok (nS,[]):=by
  unfold bA
  simp only [List.getD_cons_zero]
  rw [if_neg (by decide),if_neg (by decide),if_neg (by decide),if_neg (by decide),if_neg (by decide),if_neg (by decide),if_neg (by decide)]
  unfold eN
  simp only [List.getD_cons_zero,List.getD_cons_succ]
  rw [Mi]
  simp only
  rw [if_neg (by simp),Au (by decide) (by decide)]
  rfl
 rw [eH]
 simp only [List.getD_cons_zero]
 rw [if_neg (by decide),if_neg (by decide),if_neg (by decide),hh]
 simp only
 rw [eH,if_pos rfl]
 rfl
theorem Mj:iP 1 [65]= .ok [65]:=by
 have h1:cg 1 [65]= [[65]]:=by decide+kernel
 have h:cX 1 [65]=([65],0):=by
  unfold cX
  rw [h1,if_neg (by simp),if_neg (by simp [vz]),if_neg (by simp),List.map_cons,List.map_nil,vz]
  decide+kernel
 unfold iP
 rw [h]; rfl
theorem Mh:eO nS vw= .ok mU:=by
 have a:et nS [[102,108,121,47,65]]= .ok ([102,108,121],[65]):=by
  have hw:aW [102,108,121,47,65]=([102,108,121],[65],true,0):=by decide+kernel
  refine (s7 (row:= [[102,108,121,47,65]]) (set := [65]) rfl ?_ ?_ ?_ ?_ ?_ ?_ ?_).trans ?_
  all_goals try simp only [List.getD_cons_zero,hw]
  · decide
  · decide
  · simp
  · show ed 1 [] [65]=_
    unfold ed; rw [if_pos rfl]; exact Mj
  · intro i hi
    have :i=0:=by simpa using hi
    subst this; decide
 have j:et nS [[105,110,92,47,111,117,116]]= .ok ([105,110,47,111,117,116],[]):=by
  have hw:aW [105,110,92,47,111,117,116]=([105,110,47,111,117,116],[],false,0):=by decide+kernel
  refine (s6 (row:= [[105,110,92,47,111,117,116]]) rfl ?_ ?_ ?_ ?_ ?_).trans ?_
  all_goals try simp only [List.getD_cons_zero,hw]
  · decide
  · decide
  · simp
 have hn:dy [50] 8192= .ok 2:=Au (by decide) (by decide)
 rw [yp (by decide) Ml rfl (show dy ([[50]].getD 0 []) 8192= .ok 2 from hn),ek,a]
 simp only
 rw [ek,j]
 simp only
 rw [ek]
 rfl
end Go.Hb
end
section
set_option maxRecDepth 20000
set_option maxHeartbeats 1000000
namespace Go.Hb.eX
open Go.Proofs
def gW (l:List (Tx×Tx)):List Value:=l.flatMap fun p=> [str p.1,str p.2]
def k0 (c:bX):List Value:= [aO c.flag,.int .i64 (c.kind:Nat),.bool c.dX,.int .i64 (c.first:Nat),.int .i64 (c.count:Nat)]
def jv (l:List bX):List Value:=l.flatMap k0
def iz (q:eK×Value):List Value:= [.int .i64 (q.1.kind:Nat),aO q.1.flag,.bool q.1.dX,str q.1.strip,str q.1.add,str q.1.cond,q.2]
def fZ (l:List (eK×Value)):List Value:=l.flatMap iz
structure bO where
 rb:Nat
 fb:Nat
 ms:Nat
 mt:Nat
 mc:Nat
 eof:Nat
structure dW where
 v9:Value
 v10:Value
 v11:Value
 cC:Value
 sa:List Value
 rn:List Value
structure eI where
 vr:Value
 vs:List (Nat×Value)
 vn:Value
def kB (F:aI) (V:dW) (mc:Nat):List Value:= [.int .i64 (F.kind:Nat),str F.mC,str F.tr,aO (F.sp.getD 0 0),aO (F.sp.getD 1 0),aO (F.sp.getD 2 0),aO (F.sp.getD 3 0),aO (F.sp.getD 4 0),.int .i64 (F.least:Nat),V.v9,V.v10,V.v11,V.cC,.map (some mc)]
def oU (H:bO) (R:eI) (ln:Nat):List Value:= [.pointer (some ⟨H.fb,0,none⟩),R.vr,.int .i64 (ln:Nat),.int .i64 (H.eof:Nat),.map (some H.ms),.map (some H.mt),R.vn]
structure cD (w:World) (B fb mc:Nat) (F:aI) (V:dW):Prop where
 cells:w.heap[fb]? =some (.cells (kB F V mc).toArray 89 (0,0))
 o9:World.ownsRow w B 163 2 V.v9 F.bN.length (gW F.bN)
 dI:World.ownsRow w B 54 1 V.v10 F.aliases.length V.sa
 al:c4 w B 71 V.sa F.aliases
 dp:World.ownsRow w B 157 5 V.v11 F.a3.length (jv F.a3)
 cQ:World.ownsRow w B 155 7 V.cC F.rules.length (fZ (F.rules.zip V.rn))
 nx:c4 w B 71 V.rn (F.rules.map (·.next))
 cm:∃ f,bP w.heap mc (lg .u16) f∧∀ x:Nat,f (aO x)=(F.a3.findIdx? fun c=>decide (c.flag=x)).map fun i:Nat=>Value.int .i64 i
 lo:B≤fb∧B≤mc
 ef:F.sp.length=5
theorem cD.md {G:Nat→Prop} {w w':World} {B fb mc:Nat} {F:aI} {V:dW} (h:cD w B fb mc F V) (hm:Md G w w') {L:List Nat} (hT:TF w L G) (a:(L.contains 91 || L.contains 165 || L.contains 56 || L.contains 73 || L.contains 159 || L.contains 157)=false) (j:¬G mc):cD w' B fb mc F V:=by
 simp only [Bool.or_eq_false_iff] at a
 obtain ⟨⟨⟨⟨⟨h1,h2⟩,h3⟩,h4⟩,h5⟩,h6⟩:=a
 have hfl:∀ k,G k→∀ cur z,w.heap[k]?≠some (.cells cur 71 z):=fun k hk cur z hg=>hT.no (cV hg) h4 hk
 obtain ⟨f,hf,i⟩:=h.cm
 exact ⟨hm.gw hT h.cells h1,bI h.o9 hm hT h2,bI h.dI hm hT h3,h.al.md hm hfl,bI h.dp hm hT h5,bI h.cQ hm hT h6,h.nx.md hm hfl,⟨f,hf.md hm j,i⟩,h.lo,h.ef⟩
theorem cD.wk {w w':World} {B fb mc:Nat} {F:aI} {V:dW} (h:cD w B fb mc F V) (hm:Wk w w'):cD w' B fb mc F V:=h.md (L:= []) hm (fun _ hk=>hk.elim) rfl id
structure bU (w:World) (B:Nat) (H:bO) (F:aI) (R:eI) (rows:List Rw) (ln:Nat) (seen:List Tx):Prop where
 cells:w.heap[H.rb]? =some (.cells (oU H R ln).toArray 92 (0,0))
 rws:jb w B 105 rows.length R.vr (gN R.vs)
 rt:eL w B 9 R.vs rows
 sm:∃ f,bP w.heap H.ms fM f∧∀ s:Tx,(f (str s)).getD (.int .i64 0)= .int .i64 (seen.count s:Nat)
 tm:∃ f,bP w.heap H.mt (lg .u16) f∧∀ x:Nat,x≠0→(f (aO x)).getD (.int .i64 0)= .int .i64 ((if dw F x=true then 1 else 0:Nat):Nat)
 on :World.ownsRow w B 3 1 R.vn F.rules.length (F.rules.map fun r=>Value.int .i64 (r.line:Nat))
 lo:B≤H.rb∧B≤H.ms∧B≤H.mt
 ne:H.ms≠H.mt∧H.ms≠H.mc∧H.mt≠H.mc
theorem bU.md {G:Nat→Prop} {w w':World} {B:Nat} {H:bO} {F:aI} {R:eI} {rows:List Rw} {ln:Nat} {seen:List Tx} (h:bU w B H F R rows ln seen) (hm:Md G w w') {L:List Nat} (hT:TF w L G) (i:(L.contains 94 || L.contains 107 || L.contains 11 || L.contains 5)=false) (p:¬G H.ms) (hmt:¬G H.mt):bU w' B H F R rows ln seen:=by
 simp only [Bool.or_eq_false_iff] at i
 obtain ⟨⟨⟨h1,h2⟩,h3⟩,h4⟩:=i
 obtain ⟨f,hf,j⟩:=h.sm
 obtain ⟨g,hg,hg2⟩:=h.tm
 exact ⟨hm.gw hT h.cells h1,h.rws.md hm (fun k hk cur z a=>hT.no (cV a) h2 hk),h.rt.md hm (fun k hk cur z a=>hT.no (cV a) h3 hk),⟨f,hf.md hm p,j⟩,⟨g,hg.md hm hmt,hg2⟩,bI h.on hm hT h4,h.lo,h.ne⟩
theorem bU.wk {w w':World} {B:Nat} {H:bO} {F:aI} {R:eI} {rows:List Rw} {ln:Nat} {seen:List Tx} (h:bU w B H F R rows ln seen) (hm:Wk w w'):bU w' B H F R rows ln seen:=h.md (L:= []) hm (fun _ hk=>hk.elim) rfl id id
theorem bU.bM {w:World} {B:Nat} {H:bO} {F:aI} {R:eI} {rows:List Rw} {ln:Nat} {seen:List Tx} (h:bU w B H F R rows ln seen):Hb.aE w.heap H.rb 2=some (.int .i64 (ln:Nat)):=(aQ h.cells).trans rfl
structure ik (F:aI) (rows:List Rw) (seen:List Tx):Prop where
 len:F.bN.length+F.aliases.length+F.a3.length+F.rules.length+rows.length≤70000
 sl:seen.length+rows.length≤70000
 row:∀ q∈rows,q.2≠[]∧q.2.length≤70000∧∀ x∈q.2,x.length≤70000
 kd:F.kind=1∨F.kind=2∨F.kind=3
 al:∀ l∈F.aliases,l.length≤64∧l.Pairwise (· < ·)
def St (w:World) (B:Nat) (H:bO) (F:aI) (rows:List Rw) (ln:Nat) (seen:List Tx):Prop := ∃ V R,cD w B H.fb H.mc F V∧bU w B H F R rows ln seen∧ik F rows seen
abbrev dN (B:Nat) (H:bO) (w w':World):Prop :=Mw [94,91,165,56,159,157,5] H.ms H.mt H.mc B w w'
theorem bU.cW {w w':World} {B:Nat} {H:bO} {F:aI} {R R':eI} {rows rows':List Rw} {ln ln':Nat} {seen:List Tx} (h:bU w B H F R rows ln seen) (hm:Md (fun k=>k=H.rb) w w') (hc:w'.heap[H.rb]? =some (.cells (oU H R' ln').toArray 92 (0,0))) (p:R'.vn=R.vn) (hr:jb w B 105 rows'.length R'.vr (gN R'.vs)) (j:eL w B 9 R'.vs rows'):bU w' B H F R' rows' ln' seen:=by
 obtain ⟨f,hf,i⟩:=h.sm
 obtain ⟨g,hg,hg2⟩:=h.tm
 have hT:TF w [94] (fun k=>k=H.rb):=TF.eq (cV h.cells) (by decide)
 exact ⟨hc,hr.md hm (fun k hk cur z a=>hT.no (cV a) (by decide) hk),j.md hm (fun k hk cur z a=>hT.no (cV a) (by decide) hk),⟨f,hf.md hm (hT.no (dt hf) (by decide)),i⟩,⟨g,hg.md hm (hT.no (dt hg) (by decide)),hg2⟩,p ▸ bI h.on hm hT (by decide),h.lo,h.ne⟩
theorem eL.tl {w:World} {B e:Nat} {q:Nat×Value} {r:Rw} {vs:List (Nat×Value)} {rs:List Rw} (h:eL w B e (q::vs) (r::rs)):eL w B e vs rs:=⟨by have :=h.1; simpa using this,fun i q2 a h1 h2=>h.2 (i+1) q2 a h1 h2⟩
theorem cD.put {w w':World} {B fb mc:Nat} {F F':aI} {V:dW} (h:cD w B fb mc F V) (hm:Md (fun k=>k=fb) w w') (hc:w'.heap[fb]? =some (.cells (kB F' V mc).toArray 89 (0,0))) (h1:F'.bN=F.bN) (h2:F'.aliases=F.aliases) (h3:F'.a3=F.a3) (h4:F'.rules=F.rules) (h5:F'.sp.length=5):cD w' B fb mc F' V:=by
 have hT:TF w [91] (fun k=>k=fb):=TF.eq (cV h.cells) (by decide)
 have hfl:∀ k,k=fb→∀ cur z,w.heap[k]?≠some (.cells cur 71 z):=dM h.cells (by decide)
 obtain ⟨f,hf,a⟩:=h.cm
 exact ⟨hc,h1 ▸ bI h.o9 hm hT (by decide),h2 ▸ bI h.dI hm hT (by decide),h2 ▸ h.al.md hm hfl,h3 ▸ bI h.dp hm hT (by decide),h4 ▸ bI h.cQ hm hT (by decide),h4 ▸ h.nx.md hm hfl,⟨f,hf.md hm (hT.no (dt hf) (by decide)),h3 ▸ a⟩,h.lo,h5⟩
theorem bU.fb {w w':World} {B:Nat} {H:bO} {F a:aI} {V:dW} {R:eI} {rows:List Rw} {ln:Nat} {seen:List Tx} (h:bU w B H F R rows ln seen) (hF:cD w B H.fb H.mc a V) (hm:Md (fun k=>k=H.fb) w w'):bU w' B H F R rows ln seen:=by
 have hT:TF w [91] (fun k=>k=H.fb):=TF.eq (cV hF.cells) (by decide)
 obtain ⟨f,hf,i⟩:=h.sm
 obtain ⟨g,hg,hg2⟩:=h.tm
 exact h.md hm hT (by decide) (hT.no (dt hf) (by decide)) (hT.no (dt hg) (by decide))
theorem cD.rb {w w':World} {B:Nat} {H:bO} {F a:aI} {V:dW} {R:eI} {rows:List Rw} {ln:Nat} {seen:List Tx} (h:cD w B H.fb H.mc a V) (i:bU w B H F R rows ln seen) (hm:Md (fun k=>k=H.rb) w w'):cD w' B H.fb H.mc a V:=by
 have hT:TF w [94] (fun k=>k=H.rb):=TF.eq (cV i.cells) (by decide)
 obtain ⟨f,hf,j⟩:=h.cm
 exact h.md hm hT (by decide) (hT.no (dt hf) (by decide))
theorem bU.congr {w:World} {B:Nat} {H:bO} {F F':aI} {R:eI} {rows:List Rw} {ln:Nat} {seen:List Tx} (h:bU w B H F R rows ln seen) (hr:F'.rules=F.rules) (hd:∀ x,dw F' x=dw F x):bU w B H F' R rows ln seen:=by
 obtain ⟨g,hg,hg2⟩:=h.tm
 exact ⟨h.cells,h.rws,h.rt,h.sm,⟨g,hg,fun x a=>by rw [hd]; exact hg2 x a⟩,hr ▸ h.on,h.lo,h.ne⟩
theorem bU.oL {w w':World} {B:Nat} {H:bO} {F F':aI} {R:eI} {rows:List Rw} {ln:Nat} {seen:List Tx} {f:Value→Option Value} (h:bU w B H F R rows ln seen) (hm:Md (fun k=>k=H.mt) w w') (hf:bP w'.heap H.mt (lg .u16) f) (hr:F'.rules=F.rules) (hd:∀ x:Nat,x≠0→(f (aO x)).getD (.int .i64 0)= .int .i64 ((if dw F' x=true then 1 else 0:Nat):Nat)):bU w' B H F' R rows ln seen:=by
 obtain ⟨g,hg,_⟩:=h.tm
 obtain ⟨f0,i,j⟩:=h.sm
 have hT:TF w [1] (fun k=>k=H.mt):=TF.eq (dt hg) (by decide)
 exact ⟨hm.gw hT h.cells (by decide),h.rws.md hm (fun k hk cur z a=>hT.no (cV a) (by decide) hk),h.rt.md hm (fun k hk cur z a=>hT.no (cV a) (by decide) hk),⟨f0,i.md hm h.ne.1,j⟩,⟨f,hf,hd⟩,hr ▸ bI h.on hm hT (by decide),h.lo,h.ne⟩
theorem cD.oL {w w':World} {B:Nat} {H:bO} {F a:aI} {V:dW} {R:eI} {rows:List Rw} {ln:Nat} {seen:List Tx} (h:cD w B H.fb H.mc a V) (i:bU w B H F R rows ln seen) (hm:Md (fun k=>k=H.mt) w w'):cD w' B H.fb H.mc a V:=by
 obtain ⟨g,hg,_⟩:=i.tm
 exact h.md (L:= [1]) hm (TF.eq (dt hg) (by decide)) (by decide) (fun h=>i.ne.2.2 h.symm)
theorem dN.fb {w w':World} {B:Nat} {H:bO} {a:aI} {V:dW} (hF:cD w B H.fb H.mc a V) (hm:Md (fun k=>k=H.fb) w w'):dN B H w w':=Mw.of hm (TF.eq (cV hF.cells) (by decide)) (fun k hk=>hk ▸ hF.lo.1)
theorem dN.rb {w w':World} {B:Nat} {H:bO} {F:aI} {R:eI} {rows:List Rw} {ln:Nat} {seen:List Tx} (a:bU w B H F R rows ln seen) (hm:Md (fun k=>k=H.rb) w w'):dN B H w w':=Mw.of hm (TF.eq (cV a.cells) (by decide)) (fun k hk=>hk ▸ a.lo.1)
theorem dN.mt {w w':World} {B:Nat} {H:bO} {F:aI} {R:eI} {rows:List Rw} {ln:Nat} {seen:List Tx} (a:bU w B H F R rows ln seen) (hm:Md (fun k=>k=H.mt) w w'):dN B H w w':=hm.mono fun k _ hk=>⟨hk ▸ a.lo.2.2,.inr (.inl hk)⟩
def fR (B:Nat) (H:bO) (seen:List Tx) (X:Except (Nat×Nat) (aI×List Rw)) (w:World) (v:Value) (w':World):Prop :=v= .tuple #[]∧∃ F' rows' ln',X= .ok (F',rows')∧St w' B H F' rows' ln' seen∧dN B H w w'
def fQ (B:Nat) (H:bO) (X:Except (Nat×Nat) (aI×List Rw)) (w:World) (c:List PanicEntry) (w':World):Prop := ∃ l e,X= .error (l,e)∧c=fL 25 l (e:Nat)∧dN B H w w'
def gG (F:aI) (seen:List Tx):Prop := ∀ k∈cO,k∉seen→F.sp.getD (cO.idxOf k) 0=0
theorem FW {F:aI} {i x:Nat} (hi:i < F.sp.length) (h0:F.sp.getD i 0=0) (y:Nat) (hy:y≠0):dw {F with sp:=F.sp.set i x} y=(decide (y=x) || dw F y):=by
 unfold dw
 show (decide (y∈F.sp.set i x) || _)=_
 rw [← Bool.or_assoc]
 congr 1
 rw [← Bool.decide_or,decide_eq_decide]
 constructor
 · intro h
   rcases List.mem_or_eq_of_mem_set h with h | h
   · exact .inr h
   · exact .inl h
 · rintro (h | h)
   · subst h; exact List.mem_set hi _
   · obtain ⟨j,p⟩:=List.getElem?_of_mem h
     by_cases a:i=j
     · subst a
       rw [List.getD_eq_getElem?_getD,p] at h0
       exact absurd h0 hy
     · exact List.mem_of_getElem? (i:=j) (by rw [List.getElem?_set,if_neg a]; exact p)
theorem Tg.oM {w:World} {B e e' n cp b:Nat} {a:Option Addr} {xs:List Value} {cs:Array Value} {z:Nat×Nat} (h:Tg w B e n (.slice a n cp) xs) (j:xs≠[]) (hb:w.heap[b]? =some (.cells cs e' z)) (hne:e≠e'):¬(bk a=b):=by
 obtain ⟨p,c',hv,_,hh⟩:=h
 cases hv
 rcases hh with rfl | ⟨i,cur,q,rfl,_,hg,_⟩
 · exact absurd rfl j
 · rintro rfl
   rw [show (bk (some ⟨i,0,none⟩))=i from rfl] at hb
   rw [hg] at hb
   simp only [Option.some.injEq,Obj.cells.injEq] at hb
   exact hne hb.2.1
theorem GP {F:aI} {V:dW} {mc i o x:Nat} (h5:F.sp.length=5) (hi:i < 5) (j:o=3 +i):(kB F V mc).set o (aO x)=kB {F with sp:=F.sp.set i x} V mc:=by
 subst j
 obtain ⟨k,cs,tr,sp,le,p,al,cl,q⟩:=F
 match sp,h5 with
 | [a,b,c,d,e],_=>
   match i,hi with
   | 0,_=>rfl
   | 1,_=>rfl
   | 2,_=>rfl
   | 3,_=>rfl
   | 4,_=>rfl
theorem yi (b:Bool):decide (((if b=true then 1 else 0:Nat):Int)=0)= !b:=by cases b <;> rfl
theorem BS {x y:Nat} (h:aO x=aO y):x=y:=by unfold aO at h; injection h with _ h; omega
theorem BL {F F':aI} {f:Value→Option Value} {x:Nat} (hd:dw F x=false) (hf:∀ y:Nat,y≠0→(f (aO y)).getD (.int .i64 0)= .int .i64 ((if dw F y=true then 1 else 0:Nat):Nat)) (hF:∀ y,y≠0→dw F' y=(decide (y=x) || dw F y)) (y:Nat) (hy:y≠0):(bj f (aO x) (.int .i64 (1:Nat)) (aO y)).getD (.int .i64 0)= .int .i64 ((if dw F' y=true then 1 else 0:Nat):Nat):=by
 rw [hF y hy]
 by_cases h:y=x
 · subst h; rw [oR]; simp
 · rw [nH (fun h2=>h (BS h2)),hf y hy]; simp [h]
theorem ff {G:Nat→Prop} {w w':World} (h:Md G w.drew w'):Md G w w':=⟨h.os,h.output,h.size,h.gp⟩
theorem c4.get {w:World} {B e i:Nat} {vs:List Value} {ls:List (List Nat)} (h:c4 w B e vs ls) (hi:i < ls.length):∃ v,vs[i]? =some v∧Tg w B e (ls.getD i []).length v ((ls.getD i []).map aO):=by
 have h1:i < vs.length:=by rw [h.1]; exact hi
 refine ⟨vs[i],List.getElem?_eq_getElem h1,h.2 i _ _ (List.getElem?_eq_getElem h1) ?_⟩
 rw [List.getD_eq_getElem?_getD,List.getElem?_eq_getElem hi]; rfl
theorem Tg.qS {w:World} {B e n cp:Nat} {a:Option Addr} {xs:List Value} (h:Tg w B e n (.slice a n cp) xs) (hl:xs.length=n) (ha:a=none):n=0:=by
 obtain ⟨i,c',hv,_,hh⟩:=h
 cases hv
 rcases hh with rfl | ⟨j,cur,p,h2,_⟩
 · exact hl.symm
 · rw [ha] at h2; cases h2
theorem Tg.Ah {G:Nat→Prop} {w w':World} {B e n:Nat} {v:Value} {xs:List Value} (h:Tg w B e n v xs) (hm:Md G w w') (i:∀ k,G k→k < B):Tg w' B e n v xs:=by
 obtain ⟨a,cp,rfl,hc,h | ⟨b,cur,z,rfl,hb,hg,j⟩⟩:=h
 · exact ⟨a,cp,rfl,hc,.inl h⟩
 · exact ⟨_,cp,rfl,hc,.inr ⟨b,cur,z,rfl,hb,by rw [hm.gp b (Array.getElem?_eq_some_iff.1 hg).1 (fun hk=>by have :=i b hk; omega)]; exact hg,j⟩⟩
end Go.Hb.eX
end
section
namespace Go.Hb
abbrev ae (n:Nat):Value:= .int .i64 (n:Nat)
abbrev aH (b:Nat):Value:= .pointer (some ⟨b,0,none⟩)
variable {P:Program} {N:Fm} {ops:Array Oper} {Q:Exit→(Nat→Value)→World→Prop} {σ:Nat→Value} {w:World} {S:World→Prop} {r fuel:Nat} {aT:Array Bool} {d:Nat} {op:Op} {ty:TypeId} {pos :String} {af:Array Edge} {v:Value}
theorem aB (i:Nat) (hi:ops[i]? =some ⟨some d,op,ty,pos,af,none⟩) (hy:∀ w,S w→(execOp (ev N σ) ⟨some d,op,ty,pos,af,none⟩).run P w= .ok (.value v) w) (a:S w) (k:eD P N ops Q S fuel (aT.setIfInBounds i true) (cW σ d v) w) (hf:hU N.F ops aT i=true :=by kernel_rfl):eD P N ops Q S (fuel+1) aT σ w:=hp i hi hf hy a k
theorem cT (i:Nat) (hi:ops[i]? =some ⟨some d,op,ty,pos,af,none⟩) (hy:∀ w,S w→(execOp (ev N σ) ⟨some d,op,ty,pos,af,none⟩).run P w= .ok (.value v) w) (a:S w) (k:fj P N ops Q S r fuel (aT.setIfInBounds i true) (cW σ d v) w) (hf:tG N.F ops aT r i=true :=by kernel_rfl):fj P N ops Q S r (fuel+1) aT σ w:=gK i hi hf hy a k
theorem a6 (i:Nat) (hi:ops[i]? =some ⟨some d,op,ty,pos,af,none⟩) (hy:∀ w,(execOp (ev N σ) ⟨some d,op,ty,pos,af,none⟩).run P w= .ok (.value v) w) (a:aT.getD r false =false→S w) (k:fj P N ops Q S r fuel (aT.setIfInBounds i true) (cW σ d v) w) (hf:qD N.F ops aT r i=true :=by kernel_rfl):fj P N ops Q S r (fuel+1) aT σ w:=bV i hi hf hy a k
theorem bd {x:Operand} (i:Nat) (hi:ops[i]? =some ⟨some d,.move x,ty,pos,af,none⟩) (v:Value) (a:S w) (k:eD P N ops Q S fuel (aT.setIfInBounds i true) (cW σ d v) w) (j:ev N σ x=v:=by exact rfl) (hf:hU N.F ops aT i=true :=by kernel_rfl):eD P N ops Q S (fuel+1) aT σ w:=hp i hi hf (fun _ _=>aC v j) a k
theorem a4 {x:Operand} (i:Nat) (hi:ops[i]? =some ⟨some d,.move x,ty,pos,af,none⟩) (v:Value) (a:S w) (k:fj P N ops Q S r fuel (aT.setIfInBounds i true) (cW σ d v) w) (j:ev N σ x=v:=by exact rfl) (hf:qD N.F ops aT r i=true :=by kernel_rfl):fj P N ops Q S r (fuel+1) aT σ w:=bV i hi hf (fun _=>aC v j) (fun _=>a) k
theorem aX {P:Program} {f:FuncId} {fn:Func} (hf:P.funcs[f]? =some fn) (hn:(fn.name== "runtime.NumGoroutine")=false :=by kernel_rfl) (hb:fn.body.isNone=false :=by kernel_rfl):aV P f:=Ew hf hn hb
section
variable {rest:List Oper} {x:Operand} {K:(Nat→Value)→World→Prop} {l:List Oper} {id:Nat} {y:Code}
theorem U (h:∀ K:(Nat→Value)→World→Prop,(∀ σ w,c5 P N y Q σ w→K σ w)→dJ P N l.toArray (jN K Q) l σ w) (hr:nE N.r l=true :=by exact rfl):c5 P N (.seq (.region id l.toArray false) y) Q σ w:=sq fun K a=>rg hr (h K a)
theorem au (h:K σ w):dJ P N ops (jN K Q) [] σ w:=nl (tn h)
theorem aj (h:K (cW σ d (ev N σ x)) w):dJ P N ops (jN K Q) [⟨some d,.assign x,ty,pos,af,none⟩] σ w:=p ak (nl (tn h))
theorem ag (v:Value) (h:dJ P N ops Q rest (cW σ d v) w) (a:ev N σ x=v:=by exact rfl):dJ P N ops Q (⟨some d,.move x,ty,pos,af,none⟩::rest) σ w:=p (aC v a) h
end
end Go.Hb
end
section
namespace Go.Hb.di
open Go.Proofs
theorem pC:cA Tryz.prog 105=some (some 2):=by kernel_rfl
theorem rU:cA Tryz.prog 106=some none:=by kernel_rfl
theorem CH:cA Tryz.prog 115=some none:=by kernel_rfl
theorem pD:cA Tryz.prog 116=some none:=by kernel_rfl
theorem lM:cA Tryz.prog 117=some none:=by kernel_rfl
theorem kU:cA Tryz.prog 118=some none:=by kernel_rfl
theorem vY:cA Tryz.prog 127=some (some 8):=by kernel_rfl
theorem m6:cA Tryz.prog 129=some (some 5):=by kernel_rfl
theorem rV:cA Tryz.prog 139=some none:=by kernel_rfl
theorem vZ:cA Tryz.prog 141=some none:=by kernel_rfl
theorem rW:cA Tryz.prog 155=some (some 7):=by kernel_rfl
theorem nZ:cA Tryz.prog 157=some (some 5):=by kernel_rfl
theorem n7:cA Tryz.prog 211=some none:=by kernel_rfl
theorem lN:cA Tryz.prog 213=some (some 1):=by kernel_rfl
theorem ew:cA Tryz.prog 22=some none:=by kernel_rfl
theorem m7:cA Tryz.prog 225=some none:=by kernel_rfl
theorem g6:cA Tryz.prog 227=some (some 4):=by kernel_rfl
theorem jd:cA Tryz.prog 25=some (some 3):=by kernel_rfl
theorem n8:cA Tryz.prog 261=some (some 1):=by kernel_rfl
theorem mr:cA Tryz.prog 266=some none:=by kernel_rfl
theorem bT:cA Tryz.prog 3=some none:=by kernel_rfl
theorem il:cA Tryz.prog 31=some none:=by kernel_rfl
theorem pE:cA Tryz.prog 39=some none:=by kernel_rfl
theorem pF:cA Tryz.prog 4=some none:=by kernel_rfl
theorem rX:cA Tryz.prog 45=some none:=by kernel_rfl
theorem gl:cA Tryz.prog 48=some none:=by kernel_rfl
theorem kV:cA Tryz.prog 5=some none:=by kernel_rfl
theorem kW:cA Tryz.prog 54=some none:=by kernel_rfl
theorem kq:cA Tryz.prog 56=some (some 2):=by kernel_rfl
theorem m8:cA Tryz.prog 64=some none:=by kernel_rfl
theorem kr:cA Tryz.prog 68=some (some 2):=by kernel_rfl
theorem bL:cA Tryz.prog 71=some none:=by kernel_rfl
theorem m9:cA Tryz.prog 74=some none:=by kernel_rfl
theorem n9:cA Tryz.prog 80=some none:=by kernel_rfl
theorem wa:cA Tryz.prog 81=some (some 5):=by kernel_rfl
theorem wc:cA Tryz.prog 82=some none:=by kernel_rfl
theorem mu:cA Tryz.prog 83=some none:=by kernel_rfl
theorem pG:cA Tryz.prog 84=some none:=by kernel_rfl
theorem mx:cA Tryz.prog 85=some none:=by kernel_rfl
theorem rY:cA Tryz.prog 87=some (some 13):=by kernel_rfl
theorem bz:cA Tryz.prog 9=some none:=by kernel_rfl
theorem na:cA Tryz.prog 90=some none:=by kernel_rfl
theorem wg:cA Tryz.prog 97=some none:=by kernel_rfl
theorem pL:lP Tryz.prog 114=some (5,1):=by kernel_rfl
theorem wx:lP Tryz.prog 204=some (256,1):=by kernel_rfl
theorem my:lP Tryz.prog 227=some (4,1):=by kernel_rfl
theorem r7:lP Tryz.prog 81=some (5,1):=by kernel_rfl
theorem wy:r8 Tryz.prog 227=some ([.int .u64 0,.int .u64 0,.int .u64 0,.int .u64 0]):=by kernel_rfl
theorem ju:pO Tryz.prog 139 5 9=true :=by kernel_rfl
theorem gH:aV Tryz.prog 10:=aX Tryz.func10
theorem xa:aV Tryz.prog 100:=aX Tryz.func100
theorem xc:aV Tryz.prog 101:=aX Tryz.func101
theorem Dc:aV Tryz.prog 102:=aX Tryz.func102
theorem xd:aV Tryz.prog 103:=aX Tryz.func103
theorem xe:aV Tryz.prog 104:=aX Tryz.func104
theorem Dd:aV Tryz.prog 105:=aX Tryz.func105
theorem De:aV Tryz.prog 106:=aX Tryz.func106
theorem Df:aV Tryz.prog 107:=aX Tryz.func107
theorem Dg:aV Tryz.prog 108:=aX Tryz.func108
theorem xf:aV Tryz.prog 109:=aX Tryz.func109
theorem gn:aV Tryz.prog 11:=aX Tryz.func11
theorem Dh:aV Tryz.prog 111:=aX Tryz.func111
theorem Di:aV Tryz.prog 112:=aX Tryz.func112
theorem Dj:aV Tryz.prog 113:=aX Tryz.func113
theorem Dk:aV Tryz.prog 114:=aX Tryz.func114
theorem Dl:aV Tryz.prog 115:=aX Tryz.func115
theorem xg:aV Tryz.prog 116:=aX Tryz.func116
theorem xh:aV Tryz.prog 117:=aX Tryz.func117
theorem Dm:aV Tryz.prog 118:=aX Tryz.func118
theorem xi:aV Tryz.prog 119:=aX Tryz.func119
theorem gx:aV Tryz.prog 12:=aX Tryz.func12
theorem Dn:aV Tryz.prog 120:=aX Tryz.func120
theorem Dp:aV Tryz.prog 121:=aX Tryz.func121
theorem Dq:aV Tryz.prog 122:=aX Tryz.func122
theorem Dr:aV Tryz.prog 123:=aX Tryz.func123
theorem xj:aV Tryz.prog 124:=aX Tryz.func124
theorem sd:aV Tryz.prog 125:=aX Tryz.func125
theorem xk:aV Tryz.prog 126:=aX Tryz.func126
theorem Ds:aV Tryz.prog 127:=aX Tryz.func127
theorem Dt:aV Tryz.prog 128:=aX Tryz.func128
theorem xl:aV Tryz.prog 129:=aX Tryz.func129
theorem se:aV Tryz.prog 13:=aX Tryz.func13
theorem xm:aV Tryz.prog 130:=aX Tryz.func130
theorem Du:aV Tryz.prog 131:=aX Tryz.func131
theorem Dv:aV Tryz.prog 132:=aX Tryz.func132
theorem sg:aV Tryz.prog 133:=aX Tryz.func133
theorem Dw:aV Tryz.prog 134:=aX Tryz.func134
theorem sh:aV Tryz.prog 135:=aX Tryz.func135
theorem xn:aV Tryz.prog 136:=aX Tryz.func136
theorem si:aV Tryz.prog 137:=aX Tryz.func137
theorem sj:aV Tryz.prog 138:=aX Tryz.func138
theorem xo:aV Tryz.prog 139:=aX Tryz.func139
theorem xp:aV Tryz.prog 14:=aX Tryz.func14
theorem sn:aV Tryz.prog 140:=aX Tryz.func140
theorem sr:aV Tryz.prog 141:=aX Tryz.func141
theorem Dx:aV Tryz.prog 142:=aX Tryz.func142
theorem Dy:aV Tryz.prog 143:=aX Tryz.func143
theorem pP:aV Tryz.prog 144:=aX Tryz.func144
theorem Dz:aV Tryz.prog 148:=aX Tryz.func148
theorem DA:aV Tryz.prog 149:=aX Tryz.func149
theorem ng:aV Tryz.prog 15:=aX Tryz.func15
theorem DB:aV Tryz.prog 150:=aX Tryz.func150
theorem DC:aV Tryz.prog 151:=aX Tryz.func151
theorem xq:aV Tryz.prog 152:=aX Tryz.func152
theorem xr:aV Tryz.prog 153:=aX Tryz.func153
theorem DD:aV Tryz.prog 154:=aX Tryz.func154
theorem DE:aV Tryz.prog 155:=aX Tryz.func155
theorem DF:aV Tryz.prog 156:=aX Tryz.func156
theorem DG:aV Tryz.prog 157:=aX Tryz.func157
theorem DH:aV Tryz.prog 158:=aX Tryz.func158
theorem DI:aV Tryz.prog 159:=aX Tryz.func159
theorem mz:aV Tryz.prog 16:=aX Tryz.func16
theorem DJ:aV Tryz.prog 160:=aX Tryz.func160
theorem DK:aV Tryz.prog 161:=aX Tryz.func161
theorem iL:aV Tryz.prog 162:=aX Tryz.func162
theorem DL:aV Tryz.prog 163:=aX Tryz.func163
theorem DM:aV Tryz.prog 164:=aX Tryz.func164
theorem DN:aV Tryz.prog 166:=aX Tryz.func166
theorem DO:aV Tryz.prog 167:=aX Tryz.func167
theorem DP:aV Tryz.prog 168:=aX Tryz.func168
theorem pQ:aV Tryz.prog 17:=aX Tryz.func17
theorem DQ:aV Tryz.prog 172:=aX Tryz.func172
theorem DR:aV Tryz.prog 173:=aX Tryz.func173
theorem DS:aV Tryz.prog 174:=aX Tryz.func174
theorem xu:aV Tryz.prog 175:=aX Tryz.func175
theorem DT:aV Tryz.prog 176:=aX Tryz.func176
theorem DU:aV Tryz.prog 177:=aX Tryz.func177
theorem ss:aV Tryz.prog 178:=aX Tryz.func178
theorem xv:aV Tryz.prog 179:=aX Tryz.func179
theorem xw:aV Tryz.prog 18:=aX Tryz.func18
theorem DV:aV Tryz.prog 180:=aX Tryz.func180
theorem xx:aV Tryz.prog 181:=aX Tryz.func181
theorem xy:aV Tryz.prog 182:=aX Tryz.func182
theorem su:aV Tryz.prog 186:=aX Tryz.func186
theorem xz:aV Tryz.prog 187:=aX Tryz.func187
theorem DW:aV Tryz.prog 23:=aX Tryz.func23
theorem og:aV Tryz.prog 24:=aX Tryz.func24
theorem oh:aV Tryz.prog 25:=aX Tryz.func25
theorem DX:aV Tryz.prog 26:=aX Tryz.func26
theorem xA:aV Tryz.prog 29:=aX Tryz.func29
theorem xB:aV Tryz.prog 30:=aX Tryz.func30
theorem DY:aV Tryz.prog 31:=aX Tryz.func31
theorem DZ:aV Tryz.prog 32:=aX Tryz.func32
theorem xC:aV Tryz.prog 33:=aX Tryz.func33
theorem eZ:aV Tryz.prog 34:=aX Tryz.func34
theorem D0:aV Tryz.prog 35:=aX Tryz.func35
theorem mA:aV Tryz.prog 36:=aX Tryz.func36
theorem D1:aV Tryz.prog 37:=aX Tryz.func37
theorem D2:aV Tryz.prog 38:=aX Tryz.func38
theorem D3:aV Tryz.prog 39:=aX Tryz.func39
theorem sv:aV Tryz.prog 40:=aX Tryz.func40
theorem D4:aV Tryz.prog 41:=aX Tryz.func41
theorem sw:aV Tryz.prog 42:=aX Tryz.func42
theorem D5:aV Tryz.prog 43:=aX Tryz.func43
theorem sx:aV Tryz.prog 44:=aX Tryz.func44
theorem mB:aV Tryz.prog 45:=aX Tryz.func45
theorem D6:aV Tryz.prog 46:=aX Tryz.func46
theorem D7:aV Tryz.prog 47:=aX Tryz.func47
theorem D8:aV Tryz.prog 48:=aX Tryz.func48
theorem pR:aV Tryz.prog 49:=aX Tryz.func49
theorem D9:aV Tryz.prog 50:=aX Tryz.func50
theorem xD:aV Tryz.prog 51:=aX Tryz.func51
theorem om:aV Tryz.prog 52:=aX Tryz.func52
theorem Ea:aV Tryz.prog 53:=aX Tryz.func53
theorem xE:aV Tryz.prog 54:=aX Tryz.func54
theorem sy:aV Tryz.prog 55:=aX Tryz.func55
theorem xF:aV Tryz.prog 56:=aX Tryz.func56
theorem Eb:aV Tryz.prog 57:=aX Tryz.func57
theorem Ec:aV Tryz.prog 58:=aX Tryz.func58
theorem Ed:aV Tryz.prog 59:=aX Tryz.func59
theorem Ee:aV Tryz.prog 60:=aX Tryz.func60
theorem oo:aV Tryz.prog 61:=aX Tryz.func61
theorem Ef:aV Tryz.prog 62:=aX Tryz.func62
theorem Eg:aV Tryz.prog 63:=aX Tryz.func63
theorem Eh:aV Tryz.prog 64:=aX Tryz.func64
theorem xG:aV Tryz.prog 65:=aX Tryz.func65
theorem kt:aV Tryz.prog 66:=aX Tryz.func66
theorem xH:aV Tryz.prog 67:=aX Tryz.func67
theorem pS:aV Tryz.prog 68:=aX Tryz.func68
theorem pT:aV Tryz.prog 69:=aX Tryz.func69
theorem Ei:aV Tryz.prog 70:=aX Tryz.func70
theorem Ej:aV Tryz.prog 71:=aX Tryz.func71
theorem Ek:aV Tryz.prog 72:=aX Tryz.func72
theorem sA:aV Tryz.prog 73:=aX Tryz.func73
theorem xI:aV Tryz.prog 74:=aX Tryz.func74
theorem xJ:aV Tryz.prog 75:=aX Tryz.func75
theorem El:aV Tryz.prog 76:=aX Tryz.func76
theorem xK:aV Tryz.prog 77:=aX Tryz.func77
theorem sB:aV Tryz.prog 78:=aX Tryz.func78
theorem xL:aV Tryz.prog 79:=aX Tryz.func79
theorem Em:aV Tryz.prog 80:=aX Tryz.func80
theorem En:aV Tryz.prog 81:=aX Tryz.func81
theorem sD:aV Tryz.prog 82:=aX Tryz.func82
theorem Eo:aV Tryz.prog 83:=aX Tryz.func83
theorem pU:aV Tryz.prog 84:=aX Tryz.func84
theorem xM:aV Tryz.prog 85:=aX Tryz.func85
theorem Ep:aV Tryz.prog 86:=aX Tryz.func86
theorem Er:aV Tryz.prog 87:=aX Tryz.func87
theorem xN:aV Tryz.prog 88:=aX Tryz.func88
theorem Es:aV Tryz.prog 89:=aX Tryz.func89
theorem Et:aV Tryz.prog 90:=aX Tryz.func90
theorem Eu:aV Tryz.prog 91:=aX Tryz.func91
theorem sE:aV Tryz.prog 92:=aX Tryz.func92
theorem pV:aV Tryz.prog 93:=aX Tryz.func93
theorem sF:aV Tryz.prog 94:=aX Tryz.func94
theorem Ev:aV Tryz.prog 95:=aX Tryz.func95
theorem sG:aV Tryz.prog 96:=aX Tryz.func96
theorem kX:aV Tryz.prog 97:=aX Tryz.func97
theorem sH:aV Tryz.prog 98:=aX Tryz.func98
theorem xO:aV Tryz.prog 99:=aX Tryz.func99
theorem Fe:∀ (l:List UInt8) (c:UInt8) (w:World),(callFunc 185 #[str l,.int .u8 c.toNat]).run Tryz.prog w= .ok (.value (.int .i64 (l.count c:Nat))) w:=KP Tryz.func185 (by kernel_rfl) (by kernel_rfl) (by kernel_rfl) (by kernel_rfl)
theorem FF:∀ v w,(callFunc 110 #[v]).run Tryz.prog w= .ok (.value v) w:=fun v w=>by kernel_rfl
theorem x4:da Tryz.prog 105=some 2:=by kernel_rfl
theorem FG:da Tryz.prog 115=some 1:=by kernel_rfl
theorem FH:da Tryz.prog 116=some 1:=by kernel_rfl
theorem FI:da Tryz.prog 117=some 1:=by kernel_rfl
theorem x5:da Tryz.prog 118=some 1:=by kernel_rfl
theorem x6:da Tryz.prog 127=some 8:=by kernel_rfl
theorem lU:da Tryz.prog 129=some 5:=by kernel_rfl
theorem FJ:da Tryz.prog 139=some 1:=by kernel_rfl
theorem FK:da Tryz.prog 141=some 1:=by kernel_rfl
theorem sQ:da Tryz.prog 155=some 7:=by kernel_rfl
theorem ni:da Tryz.prog 157=some 5:=by kernel_rfl
theorem x7:da Tryz.prog 211=some 1:=by kernel_rfl
theorem mD:da Tryz.prog 213=some 1:=by kernel_rfl
theorem sR:da Tryz.prog 22=some 1:=by kernel_rfl
theorem FL:da Tryz.prog 225=some 1:=by kernel_rfl
theorem k3:da Tryz.prog 227=some 4:=by kernel_rfl
theorem fU:da Tryz.prog 25=some 3:=by kernel_rfl
theorem p7:da Tryz.prog 266=some 1:=by kernel_rfl
theorem fV:da Tryz.prog 3=some 1:=by kernel_rfl
theorem FM:da Tryz.prog 39=some 1:=by kernel_rfl
theorem x8:da Tryz.prog 4=some 1:=by kernel_rfl
theorem x9:da Tryz.prog 48=some 1:=by kernel_rfl
theorem p8:da Tryz.prog 54=some 1:=by kernel_rfl
theorem ku:da Tryz.prog 56=some 2:=by kernel_rfl
theorem ya:da Tryz.prog 64=some 1:=by kernel_rfl
theorem ky:da Tryz.prog 68=some 2:=by kernel_rfl
theorem dY:da Tryz.prog 71=some 1:=by kernel_rfl
theorem yb:da Tryz.prog 74=some 1:=by kernel_rfl
theorem FN:da Tryz.prog 81=some 5:=by kernel_rfl
theorem yc:da Tryz.prog 82=some 1:=by kernel_rfl
theorem yd:da Tryz.prog 83=some 1:=by kernel_rfl
theorem ye:da Tryz.prog 84=some 1:=by kernel_rfl
theorem yf:da Tryz.prog 85=some 1:=by kernel_rfl
theorem yg:da Tryz.prog 87=some 13:=by kernel_rfl
theorem iN:da Tryz.prog 9=some 1:=by kernel_rfl
theorem FO:da Tryz.prog 99=some 2:=by kernel_rfl
theorem Gy:ez Tryz.prog 116=some 1:=by kernel_rfl
theorem qi:ez Tryz.prog 117=some 5:=by kernel_rfl
theorem qj:ez Tryz.prog 118=some 8:=by kernel_rfl
theorem iO:ez Tryz.prog 139=some 1:=by kernel_rfl
theorem Gz:ez Tryz.prog 169=some 1:=by kernel_rfl
theorem GA:ez Tryz.prog 211=some 4:=by kernel_rfl
theorem GB:ez Tryz.prog 235=some 1:=by kernel_rfl
theorem nk:ez Tryz.prog 35=some 2:=by kernel_rfl
theorem kz:ez Tryz.prog 39=some 2:=by kernel_rfl
theorem jX:ez Tryz.prog 45=some 2:=by kernel_rfl
theorem bE:ez Tryz.prog 48=some 1:=by kernel_rfl
theorem bl:ez Tryz.prog 54=some 1:=by kernel_rfl
theorem jY:ez Tryz.prog 64=some 1:=by kernel_rfl
theorem nm:ez Tryz.prog 74=some 2:=by kernel_rfl
theorem s8:ez Tryz.prog 83=some 1:=by kernel_rfl
theorem GC:ez Tryz.prog 84=some 5:=by kernel_rfl
theorem s9:ez Tryz.prog 85=some 7:=by kernel_rfl
theorem qt:bR Tryz.prog 105 0=some 0:=by kernel_rfl
theorem oz:bR Tryz.prog 105 1=some 1:=by kernel_rfl
theorem oA:bR Tryz.prog 108 0=some 0:=by kernel_rfl
theorem tv:bR Tryz.prog 108 1=some 1:=by kernel_rfl
theorem nq:bR Tryz.prog 120 0=some 0:=by kernel_rfl
theorem GV:bR Tryz.prog 120 1=some 1:=by kernel_rfl
theorem GW:bR Tryz.prog 120 2=some 2:=by kernel_rfl
theorem qu:bR Tryz.prog 120 3=some 3:=by kernel_rfl
theorem GX:bR Tryz.prog 120 4=some 8:=by kernel_rfl
theorem y7:bR Tryz.prog 120 5=some 9:=by kernel_rfl
theorem oB:bR Tryz.prog 120 6=some 10:=by kernel_rfl
theorem k5:bR Tryz.prog 120 7=some 11:=by kernel_rfl
theorem jZ:bR Tryz.prog 120 8=some 12:=by kernel_rfl
theorem iu:bR Tryz.prog 122 0=some 0:=by kernel_rfl
theorem tw:bR Tryz.prog 122 1=some 1:=by kernel_rfl
theorem kE:bR Tryz.prog 122 2=some 2:=by kernel_rfl
theorem GY:bR Tryz.prog 122 3=some 3:=by kernel_rfl
theorem k6:bR Tryz.prog 122 4=some 4:=by kernel_rfl
theorem k8:bR Tryz.prog 122 5=some 5:=by kernel_rfl
theorem GZ:bR Tryz.prog 127 0=some 0:=by kernel_rfl
theorem G0:bR Tryz.prog 127 3=some 3:=by kernel_rfl
theorem G1:bR Tryz.prog 127 4=some 4:=by kernel_rfl
theorem y8:bR Tryz.prog 127 5=some 5:=by kernel_rfl
theorem tx:bR Tryz.prog 127 6=some 6:=by kernel_rfl
theorem y9:bR Tryz.prog 127 7=some 7:=by kernel_rfl
theorem tz:bR Tryz.prog 129 0=some 0:=by kernel_rfl
theorem qv:bR Tryz.prog 129 1=some 1:=by kernel_rfl
theorem za:bR Tryz.prog 129 2=some 2:=by kernel_rfl
theorem tA:bR Tryz.prog 143 0=some 0:=by kernel_rfl
theorem qw:bR Tryz.prog 143 1=some 1:=by kernel_rfl
theorem G2:bR Tryz.prog 155 3=some 3:=by kernel_rfl
theorem G3:bR Tryz.prog 155 4=some 4:=by kernel_rfl
theorem G4:bR Tryz.prog 155 5=some 5:=by kernel_rfl
theorem qy:bR Tryz.prog 155 6=some 6:=by kernel_rfl
theorem tB:bR Tryz.prog 157 0=some 0:=by kernel_rfl
theorem qz:bR Tryz.prog 157 1=some 1:=by kernel_rfl
theorem zb:bR Tryz.prog 157 2=some 2:=by kernel_rfl
theorem G5:bR Tryz.prog 157 3=some 3:=by kernel_rfl
theorem tC:bR Tryz.prog 157 4=some 4:=by kernel_rfl
theorem mH:bR Tryz.prog 213 0=some 0:=by kernel_rfl
theorem G6:bR Tryz.prog 261 0=some 0:=by kernel_rfl
theorem nr:bR Tryz.prog 50 0=some 0:=by kernel_rfl
theorem oC:bR Tryz.prog 50 1=some 1:=by kernel_rfl
theorem nu:bR Tryz.prog 56 0=some 0:=by kernel_rfl
theorem nv:bR Tryz.prog 56 1=some 1:=by kernel_rfl
theorem oD:bR Tryz.prog 68 0=some 0:=by kernel_rfl
theorem G7:bR Tryz.prog 68 1=some 1:=by kernel_rfl
theorem nw:bR Tryz.prog 87 0=some 0:=by kernel_rfl
theorem G8:bR Tryz.prog 87 1=some 1:=by kernel_rfl
theorem G9:bR Tryz.prog 87 2=some 2:=by kernel_rfl
theorem zc:bR Tryz.prog 87 3=some 3:=by kernel_rfl
theorem tD:bR Tryz.prog 87 4=some 8:=by kernel_rfl
theorem qA:bR Tryz.prog 87 5=some 9:=by kernel_rfl
theorem k9:bR Tryz.prog 87 6=some 10:=by kernel_rfl
theorem ny:bR Tryz.prog 87 7=some 11:=by kernel_rfl
theorem la:bR Tryz.prog 87 8=some 12:=by kernel_rfl
theorem eA:bR Tryz.prog 89 0=some 0:=by kernel_rfl
theorem zd:bR Tryz.prog 89 1=some 13:=by kernel_rfl
theorem eR:bR Tryz.prog 92 0=some 0:=by kernel_rfl
theorem oE:bR Tryz.prog 92 1=some 1:=by kernel_rfl
theorem oF:bR Tryz.prog 92 2=some 2:=by kernel_rfl
theorem Ha:bR Tryz.prog 92 3=some 3:=by kernel_rfl
theorem nz:bR Tryz.prog 92 4=some 4:=by kernel_rfl
theorem tE:bR Tryz.prog 92 5=some 5:=by kernel_rfl
theorem tF:bR Tryz.prog 92 6=some 6:=by kernel_rfl
theorem ze:bR Tryz.prog 99 0=some 0:=by kernel_rfl
theorem zf:bR Tryz.prog 99 1=some 1:=by kernel_rfl
theorem Ii:(Tryz.prog.info? 143).isSome=true :=by kernel_rfl
theorem Ix:∀ (l:List UInt8) (c:UInt8) (w:World),(callFunc 169 #[str l,.int .u8 c.toNat]).run Tryz.prog w= .ok (.value (.int .i64 (dD c l))) w:=KQ Tryz.func169 (by kernel_rfl) (by kernel_rfl) (by kernel_rfl) (by kernel_rfl)
theorem mL:kj Tryz.prog 71 (lg .u16):=IE (q:= .u16) (by kernel_rfl)
theorem fw:kj Tryz.prog 9 fM:=IF (by kernel_rfl)
theorem uj:mO Tryz.prog 25=true :=by kernel_rfl
theorem Kg:ptrTo Tryz.prog 183 5=true :=by kernel_rfl
theorem Bq:eo Tryz.prog 115 219 2 32=true :=by kernel_rfl
theorem Bs:eo Tryz.prog 116 64 1 24=true :=by kernel_rfl
theorem Bt:eo Tryz.prog 117 129 5 40=true :=by kernel_rfl
theorem ri:eo Tryz.prog 118 127 8 104=true :=by kernel_rfl
theorem eV:eo Tryz.prog 139 5 1 1=true :=by kernel_rfl
theorem rj:eo Tryz.prog 211 227 4 32=true :=by kernel_rfl
theorem Bu:eo Tryz.prog 235 261 1 16=true :=by kernel_rfl
theorem Bv:eo Tryz.prog 35 68 2 40=true :=by kernel_rfl
theorem rk:eo Tryz.prog 39 56 2 40=true :=by kernel_rfl
theorem rl:eo Tryz.prog 45 50 2 32=true :=by kernel_rfl
theorem dV:eo Tryz.prog 48 9 1 16=true :=by kernel_rfl
theorem rm:eo Tryz.prog 54 71 1 2=true :=by kernel_rfl
theorem jM:eo Tryz.prog 64 3 1 8=true :=by kernel_rfl
theorem Bw:eo Tryz.prog 74 105 2 32=true :=by kernel_rfl
theorem rp:eo Tryz.prog 82 163 2 32=true :=by kernel_rfl
theorem rq:eo Tryz.prog 83 54 1 24=true :=by kernel_rfl
theorem rr:eo Tryz.prog 84 157 5 40=true :=by kernel_rfl
theorem rv:eo Tryz.prog 85 155 7 88=true :=by kernel_rfl
theorem Lq:gk Tryz.prog 105=some ([(0,1),(1,1)],[.int .i64 0,.slice none 0 0]):=by kernel_rfl
theorem Lr:gk Tryz.prog 108=some ([(0,1),(1,1)],[.slice none 0 0,.map none]):=by kernel_rfl
theorem Ls:gk Tryz.prog 120=some ([(0,1),(1,1),(2,1),(3,5),(8,1),(9,1),(10,1),(11,1),(12,1)],[.int .i64 0,.string ⟨⟨[]⟩⟩,.string ⟨⟨[]⟩⟩,.int .i64 0,.int .i64 0,.int .i64 0,.int .i64 0,.int .i64 0,.int .i64 0,.slice none 0 0,.slice none 0 0,.slice none 0 0,.slice none 0 0]):=by kernel_rfl
theorem Lt:gk Tryz.prog 122=some ([(0,1),(1,1),(2,1),(3,1),(4,1),(5,1)],[.pointer none,.slice none 0 0,.int .i64 0,.int .i64 0,.slice none 0 0,.int .i64 0]):=by kernel_rfl
theorem BC:gk Tryz.prog 127=some ([(0,1),(1,1),(2,1),(3,1),(4,1),(5,1),(6,1),(7,1)],[.int .i64 0,.int .i64 0,.bool false,.string ⟨⟨[]⟩⟩,.string ⟨⟨[]⟩⟩,.string ⟨⟨[]⟩⟩,.slice none 0 0,.int .i64 0]):=by kernel_rfl
theorem BD:gk Tryz.prog 129=some ([(0,1),(1,1),(2,1),(3,1),(4,1)],[.int .i64 0,.int .i64 0,.bool false,.int .i64 0,.int .i64 0]):=by kernel_rfl
theorem Lu:gk Tryz.prog 155=some ([(0,1),(1,1),(2,1),(3,1),(4,1),(5,1),(6,1)],[.int .i64 0,.int .u16 0,.bool false,.string ⟨⟨[]⟩⟩,.string ⟨⟨[]⟩⟩,.string ⟨⟨[]⟩⟩,.slice none 0 0]):=by kernel_rfl
theorem vf:gk Tryz.prog 157=some ([(0,1),(1,1),(2,1),(3,1),(4,1)],[.int .u16 0,.int .i64 0,.bool false,.int .i64 0,.int .i64 0]):=by kernel_rfl
theorem Lv:gk Tryz.prog 163=some ([(0,1),(1,1)],[.string ⟨⟨[]⟩⟩,.string ⟨⟨[]⟩⟩]):=by kernel_rfl
theorem o4:gk Tryz.prog 213=some ([(0,1)],[.slice none 0 0]):=by kernel_rfl
theorem Lw:gk Tryz.prog 219=some ([(0,1),(1,1)],[.string ⟨⟨[]⟩⟩,.string ⟨⟨[]⟩⟩]):=by kernel_rfl
theorem nL:gk Tryz.prog 25=some ([(0,1),(1,1),(2,1)],[.int .i64 0,.int .i64 0,.int .i64 0]):=by kernel_rfl
theorem Lx:gk Tryz.prog 261=some ([(0,1)],[.string ⟨⟨[]⟩⟩]):=by kernel_rfl
theorem BE:gk Tryz.prog 50=some ([(0,1),(1,1)],[.int .i64 0,.slice none 0 0]):=by kernel_rfl
theorem lu:gk Tryz.prog 56=some ([(0,1),(1,1)],[.string ⟨⟨[]⟩⟩,.slice none 0 0]):=by kernel_rfl
theorem lx:gk Tryz.prog 68=some ([(0,1),(1,1)],[.string ⟨⟨[]⟩⟩,.slice none 0 0]):=by kernel_rfl
theorem Ly:gk Tryz.prog 89=some ([(0,13),(13,1)],[.int .i64 0,.string ⟨⟨[]⟩⟩,.string ⟨⟨[]⟩⟩,.int .u16 0,.int .u16 0,.int .u16 0,.int .u16 0,.int .u16 0,.int .i64 0,.slice none 0 0,.slice none 0 0,.slice none 0 0,.slice none 0 0,.map none]):=by kernel_rfl
theorem Lz:gk Tryz.prog 92=some ([(0,1),(1,1),(2,1),(3,1),(4,1),(5,1),(6,1)],[.pointer none,.slice none 0 0,.int .i64 0,.int .i64 0,.map none,.map none,.slice none 0 0]):=by kernel_rfl
theorem jq:gk Tryz.prog 99=some ([(0,1),(1,1)],[.int .i64 0,.nilFunc]):=by kernel_rfl
theorem vl:Tryz.prog.underlying 106=some (.map 9 64):=by kernel_rfl
theorem BQ:Tryz.prog.underlying 116=some (.slice 64):=by kernel_rfl
theorem vm:Tryz.prog.underlying 117=some (.slice 129):=by kernel_rfl
theorem vo:Tryz.prog.underlying 118=some (.slice 127):=by kernel_rfl
theorem jr:Tryz.prog.underlying 139=some (.slice 5):=by kernel_rfl
theorem BR:Tryz.prog.underlying 141=some (.pointer 143):=by kernel_rfl
theorem LV:Tryz.prog.underlying 169=some (.slice 71):=by kernel_rfl
theorem vp:Tryz.prog.underlying 211=some (.slice 227):=by kernel_rfl
theorem nO:Tryz.prog.underlying 22=some (.pointer 89):=by kernel_rfl
theorem BT:Tryz.prog.underlying 224=some (.int .u64):=by kernel_rfl
theorem vq:Tryz.prog.underlying 235=some (.slice 261):=by kernel_rfl
theorem LW:Tryz.prog.underlying 266=some (.int .u64):=by kernel_rfl
theorem lz:Tryz.prog.underlying 28=some (.pointer 108):=by kernel_rfl
theorem u3:Tryz.prog.underlying 3=some (.int .i64):=by kernel_rfl
theorem o6:Tryz.prog.underlying 35=some (.slice 68):=by kernel_rfl
theorem kb:Tryz.prog.underlying 39=some (.slice 56):=by kernel_rfl
theorem u4:Tryz.prog.underlying 4=some (.bool):=by kernel_rfl
theorem rD:Tryz.prog.underlying 45=some (.slice 50):=by kernel_rfl
theorem dx:Tryz.prog.underlying 48=some (.slice 9):=by kernel_rfl
theorem u5:Tryz.prog.underlying 5=some (.int .u8):=by kernel_rfl
theorem js:Tryz.prog.underlying 54=some (.slice 71):=by kernel_rfl
theorem u64:Tryz.prog.underlying 64=some (.slice 3):=by kernel_rfl
theorem rE:Tryz.prog.underlying 71=some (.int .u16):=by kernel_rfl
theorem rF:Tryz.prog.underlying 74=some (.slice 105):=by kernel_rfl
theorem ea:Tryz.prog.underlying 80=some (.map 71 3):=by kernel_rfl
theorem LX:Tryz.prog.underlying 82=some (.slice 163):=by kernel_rfl
theorem rG:Tryz.prog.underlying 83=some (.slice 54):=by kernel_rfl
theorem BV:Tryz.prog.underlying 84=some (.slice 157):=by kernel_rfl
theorem rH:Tryz.prog.underlying 85=some (.slice 155):=by kernel_rfl
theorem u9:Tryz.prog.underlying 9=some (.string):=by kernel_rfl
theorem mh:Tryz.prog.underlying 90=some (.map 9 3):=by kernel_rfl
theorem iT:Tryz.prog.underlying 94=some (.map 9 99):=by kernel_rfl
theorem BX:o7 Tryz.prog 141 202 143 2=true :=by kernel_rfl
theorem L8:(Tryz.prog.underlying 224).isSome=true :=by kernel_rfl
theorem L9:(Tryz.prog.underlying 225).isSome=true :=by kernel_rfl
theorem mi:(Tryz.prog.underlying 3).isSome=true :=by kernel_rfl
theorem lC:(Tryz.prog.underlying 5).isSome=true :=by kernel_rfl
theorem Ma:(Tryz.prog.underlying 71).isSome=true :=by kernel_rfl
theorem wide:Tryz.prog.follows .mixedOrders=true :=by kernel_rfl
theorem Ce:zeroOf Tryz.prog 105=some (some [.int .i64 0,.slice none 0 0]):=by kernel_rfl
theorem Cf:zeroOf Tryz.prog 127=some (some [.int .i64 0,.int .i64 0,.bool false,.string ⟨⟨[]⟩⟩,.string ⟨⟨[]⟩⟩,.string ⟨⟨[]⟩⟩,.slice none 0 0,.int .i64 0]):=by kernel_rfl
theorem mW:zeroOf Tryz.prog 129=some (some [.int .i64 0,.int .i64 0,.bool false,.int .i64 0,.int .i64 0]):=by kernel_rfl
theorem Cg:zeroOf Tryz.prog 143=some (some [.pointer none,.slice none 0 0]):=by kernel_rfl
theorem vF:zeroOf Tryz.prog 155=some (some [.int .i64 0,.int .u16 0,.bool false,.string ⟨⟨[]⟩⟩,.string ⟨⟨[]⟩⟩,.string ⟨⟨[]⟩⟩,.slice none 0 0]):=by kernel_rfl
theorem pc:zeroOf Tryz.prog 157=some (some [.int .u16 0,.int .i64 0,.bool false,.int .i64 0,.int .i64 0]):=by kernel_rfl
theorem vG:zeroOf Tryz.prog 213=some (some [.slice none 0 0]):=by kernel_rfl
theorem Mx:zeroOf Tryz.prog 22=some (some [.pointer none]):=by kernel_rfl
theorem mX:zeroOf Tryz.prog 227=some (some [.int .u64 0,.int .u64 0,.int .u64 0,.int .u64 0]):=by kernel_rfl
theorem iU:zeroOf Tryz.prog 25=some (some [.int .i64 0,.int .i64 0,.int .i64 0]):=by kernel_rfl
theorem My:zeroOf Tryz.prog 266=some (some [.int .u64 0]):=by kernel_rfl
theorem Mz:zeroOf Tryz.prog 3=some (some [.int .i64 0]):=by kernel_rfl
theorem MA:zeroOf Tryz.prog 48=some (some [.slice none 0 0]):=by kernel_rfl
theorem Ch:zeroOf Tryz.prog 56=some (some [.string ⟨⟨[]⟩⟩,.slice none 0 0]):=by kernel_rfl
theorem Ci:zeroOf Tryz.prog 68=some (some [.string ⟨⟨[]⟩⟩,.slice none 0 0]):=by kernel_rfl
theorem MB:zeroOf Tryz.prog 74=some (some [.slice none 0 0]):=by kernel_rfl
theorem MC:zeroOf Tryz.prog 81=some (some [.int .u16 0,.int .u16 0,.int .u16 0,.int .u16 0,.int .u16 0]):=by kernel_rfl
theorem Cj:zeroOf Tryz.prog 87=some (some [.int .i64 0,.string ⟨⟨[]⟩⟩,.string ⟨⟨[]⟩⟩,.int .u16 0,.int .u16 0,.int .u16 0,.int .u16 0,.int .u16 0,.int .i64 0,.slice none 0 0,.slice none 0 0,.slice none 0 0,.slice none 0 0]):=by kernel_rfl
theorem MD:zeroOf Tryz.prog 9=some (some [.string ⟨⟨[]⟩⟩]):=by kernel_rfl
theorem ME:zeroOf Tryz.prog 99=some (some [.int .i64 0,.nilFunc]):=by kernel_rfl
theorem MF:zeroOf Tryz.prog 204=some (some (List.replicate 256 (.bool false))):=by kernel_rfl
theorem MG:zeroV Tryz.prog 25=some (.agg #[.int .i64 0,.int .i64 0,.int .i64 0]):=by kernel_rfl
theorem kP:zeroV Tryz.prog 3=some (.int .i64 0):=by kernel_rfl
theorem MH:zeroV Tryz.prog 5=some (.int .u8 0):=by kernel_rfl
theorem Ck:zeroV Tryz.prog 64=some (.slice none 0 0):=by kernel_rfl
theorem MI:zeroV Tryz.prog 71=some (.int .u16 0):=by kernel_rfl
theorem MJ:zeroV Tryz.prog 99=some (.agg #[.int .i64 0,.nilFunc]):=by kernel_rfl
end Go.Hb.di
end
section
set_option maxRecDepth 20000
set_option maxHeartbeats 1000000
namespace Go.Hb.Builder
open Go.Hb.di
open Go.Proofs
theorem Fk (b:Nat) (a:Option Addr) (i:Value) (w:World) (hb:w.heap[b]? =some (.cells [Value.pointer a,i].toArray 143 (0,0))) (hp:a=none∨a=some ⟨b,0,none⟩):
 aU Tryz.prog 87 (List.toArray [aH b]) w (fun v w'=>v= .tuple #[]∧w'.heap[b]? =some (.cells [Value.pointer (some ⟨b,0,none⟩),i].toArray 143 (0,0))∧Md (fun k=>k=b) w w'):=by
 refine enter Tryz.func87 rfl Tryz.ntmps87 rfl ?_
 refine U (fun _ j=>(ag (aH b) (p (nc rfl) (p (fa tA rfl) (p (ld vZ rfl ((aQ hb).trans rfl)) (p (g8 BR rfl rfl) (nl ?_)))))))
 refine tn (j _ _ (cb rfl (fun hc6=> ?_) (fun hc6=> ?_)))
 obtain rfl :a=none:=by simpa using hc6
 refine rg rfl (ag (aH b) (ag (aH b) (p (LN BX rfl hb rfl) (p (Fb FF rfl) (p (Hd BX rfl hb rfl) (p (nc rfl) (p (fa tA rfl) ?_)))))))
 refine e (cj FK rfl rfl rfl hb (by simp) fun w1 s hB=>nl (f0 rfl ?_))
 exact ⟨rfl,hB,s⟩
 obtain rfl :a=some ⟨b,0,none⟩:=hp.resolve_left (by rintro rfl; simp at hc6)
 refine U (fun _ q=>(ag (aH b) (p (nc rfl) (p (fa tA rfl) (p (ld vZ rfl ((aQ hb).trans rfl)) (ag (aH b) (p (Jn BR Ii rfl rfl) ?_)))))))
 refine au ((q _ _ (cf rfl (az (f0 rfl ?_)))))
 exact ⟨rfl,hb,Md.refl _ _⟩
theorem Cd (b:Nat) (i:Value) (l:List UInt8) (c:UInt8) (w:World) (hb:Bd 143 5 w b i l) (hl:l.length≤70368744177664):
 aU Tryz.prog 54 (List.toArray [aH b,.int .u8 c.toNat]) w (fun v w'=>v= .nilIface∧∃ A,Bd 143 5 w' b A (l++ [c])∧Md (BF b i) w w'∧∀ k,BF b A k→BF b i k∨w.heap.size≤k):=by
 obtain ⟨⟨ah,hbl,ae⟩,hown,hnil⟩:=hb
 have hlt:b < w.heap.size:=(Array.getElem?_eq_some_iff.1 hbl).1
 have I:∀ k,i.ownBlock=some k→k≠b∧k < w.heap.size:=fun k hk=>by have :=hown.lt k hk; exact ⟨by omega,this.2⟩
 refine enter Tryz.func54 rfl Tryz.ntmps54 rfl ?_
 refine U (fun _ M=>(aj (((M _ _ (U (fun _ O=>(ag (aH b) ?_))))))))
 refine e (cl Er (Fk b ah i w hbl ae) rfl fun v6 w6 hR6=> ?_)
 obtain ⟨_,G,q⟩:=hR6
 have ho1:=bS hown q (fun k hk=>(I k hk).1)
 have hs1:=q.size
 refine au ((O _ _ (U (fun _ V=>(ag (aH b) (ag (aH b) (p (nc rfl) (p (fa qw rfl) ?_))))))))
 refine p (ld rV rfl ((aQ G).trans rfl)) (ag (.int .u8 c.toNat) (e (ec eV rfl rfl fun ai w13 al j aa=>e (ap eV (aG ho1 j.md) rfl (by have :=j.size; omega) rfl (aw.cU aa) (rfl) (rfl) (by omega) (by omega) fun J w14 s C hz14 ac=> ?_))))
 have hb14:=C.aA (Wk.aA j.md G) (fun h=>(I b h).1 rfl)
 refine p (nc rfl) (p (fa qw rfl) (e (cj FJ rfl rfl (by obtain ⟨a,c,h,_⟩:=nG s; exact congrArg Value.oneCell' h) hb14 (by simp) fun w3 E ab=>au ((V _ _ (U (fun _ Y=>(p ak ?_))))))))
 refine au ((Y _ _ (rt (f1 rfl rfl ?_))))
 have Z:∀ k,J.ownBlock=some k→k≠b:=fun k hk=>by have :=s.lt k hk; omega
 refine ⟨rfl,J,⟨⟨_,ab,.inr rfl⟩,?_,?_⟩,?_,?_⟩
 rw [List.length_append,pw]; exact bS s E (fun k hk=>Z k hk)
 rw [hz14]; simp
 refine Md.trans' (Md.trans' (Md.trans' (q.mono (fun k _ h=> .inl h)) j.md (fun _ _ h=>h.elim)) C (fun k _ h=> .inr h)) E (fun k _ h=> .inl h)
 rintro k (rfl | hk)
 exact .inl (.inl rfl)
 by_cases h:i.ownBlock=some k
 exact .inl (.inr h)
 have :=ac k hk; have h1:=q.size; have h2:=j.md.size; exact .inr (by rcases this with h3 | h3; exact absurd h3 h; omega)
theorem vj (b:Nat) (q:Value) (l:List UInt8) (w:World) (hb:Bd 143 5 w b q l) (hl:l.length≤70368744177664):
 aU Tryz.prog 55 (List.toArray [aH b]) w (fun v w'=>v=str l∧Md (fun k=>q.ownBlock=some k) w w'):=by
 obtain ⟨⟨J,hbl,G⟩,hown,hnil⟩:=hb
 obtain ⟨a,c,rfl,hcs,hle,hk,E⟩:=nG hown
 refine enter Tryz.func55 rfl Tryz.ntmps55 rfl ?_
 refine U (fun _ s=>(aj (((s _ _ (sq (fun _ A=> ?_)))))))
 have i:(fun w'=>Md (fun k=>(Value.slice a l.length c).ownBlock=some k) w w') w.drew:=(Md.refl _ _).drew
 refine bD (fun w'=>Md (fun k=>(Value.slice a l.length c).ownBlock=some k) w w') rfl wide i (bd 0 rfl (aH b) i (aB 1 rfl (fun _ _=>nc rfl) i (aB 2 rfl (fun _ _=>fa qw rfl) i (aB 3 rfl (fun w' j=>ld rV rfl (j.aE ((aQ hbl).trans rfl) (fun h=>by have :=hown.lt _ h; omega))) i (bd 5 rfl (aH b) i (aB 6 rfl (fun _ _=>nc rfl) i (aB 7 rfl (fun _ _=>fa qw rfl) i ?_)))))))
 refine aB 8 rfl (fun w' j=>ld rV rfl (j.aE ((aQ hbl).trans rfl) (fun h=>by have :=hown.lt _ h; omega))) i (aB 9 rfl (fun _ _=>ba jr rfl rfl) i ?_)
 refine aB 4 rfl (fun _ _=>Mb (v:= .nilFunc) rfl (by
  by_cases h:l= []
  have :=hnil.2 h; simp only [Value.slice.injEq] at this; exact .inl this.1
  right; have :0 < l.length:=List.length_pos_iff.2 h; omega)) i ?_
 refine he 10 rfl (by kernel_rfl) (Mc Kg rfl rfl hown rfl (by omega) fun w13 C I=> ?_)
 have p:(fun w'=>Md (fun k=>(Value.slice a l.length c).ownBlock=some k) w w') w13:=i.trans' C (fun _ _ h=>h)
 refine ⟨p,?_⟩
 exact aB 11 rfl (fun _ _=>ak) p (hn (by kernel_rfl) (tn (A _ _ (rt (f1 rfl rfl (⟨rfl,p⟩))))))
end Go.Hb.Builder
end
section
set_option maxRecDepth 20000
set_option maxHeartbeats 1000000
namespace Go.Hb.ko
open Go.Hb.di
open Go.Proofs
open Go.Hb.Builder
theorem g9 (b:UInt8):mG b=decide ((b.toNat:Int)=92∨(b.toNat:Int)=47∨(b.toNat:Int)=35):=by
 unfold mG; exact decide_eq_decide.2 (by omega)
theorem ti (b:UInt8):fq b=decide (32 < (b.toNat:Int)∧(b.toNat:Int)≠127):=by
 unfold fq; exact decide_eq_decide.2 (by omega)
theorem GO {b:UInt8} (h:32 < (b.toNat:Int)) (h1:(b.toNat:Int)≠127):fq b=true :=by rw [ti]; exact decide_eq_true ⟨h,h1⟩
theorem th {b:UInt8} (h:¬(32 < (b.toNat:Int)∧(b.toNat:Int)≠127)):fq b=false :=by rw [ti]; exact decide_eq_false h
theorem yU (b:UInt8) (w:World):
 aU Tryz.prog 103 (List.toArray [.int .u8 b.toNat]) w (fun v w'=>v= .bool (fq b)∧Wk w w'):=by
 refine enter Tryz.func103 rfl Tryz.ntmps103 rfl ?_
 refine U (fun _ i=>(aj (((i _ _ (U (fun _ a=>(ag (.int .u8 b.toNat) ?_))))))))
 refine p (gt rfl rfl) (p mv (gs (t:=5) rfl (fun hg5=> ?_) (fun hg5=> ?_)))
 refine pg rfl rfl rfl (aC (.int .u8 b.toNat) rfl) (pg rfl rfl rfl (bB rfl rfl) (p (bg rfl) (aj (((a _ _ (rt (f1 rfl rfl ?_))))))))
 exact ⟨by show Value.bool (decide _)=_; rw [ti]; exact bv (by constructor <;> intro h <;> first | exact ⟨by omega,h⟩ | exact h.2),Md.refl _ _⟩
 refine sk rfl rfl rfl rfl (sk rfl rfl rfl rfl (p (a5 rfl) (aj (((a _ _ (rt (f1 rfl rfl ?_))))))))
 exact ⟨by show Value.bool false =_; rw [th (by omega)],Md.refl _ _⟩
theorem Jb (b:UInt8) (w:World):
 aU Tryz.prog 53 (List.toArray [.int .u8 b.toNat]) w (fun v w'=>v= .bool (mG b)∧Wk w w'):=by
 refine enter Tryz.func53 rfl Tryz.ntmps53 rfl ?_
 refine U (fun _ A=>(aj (((A _ _ (sq (fun _ q=>U (fun _ C=> ?_))))))))
 refine ag (.int .u8 b.toNat) (au ((C _ _ (aA (sq (fun _ s=>U (fun _ E=>(p (bf rfl rfl) ?_))))))))
 refine aj (((E _ _ (cd rfl (fun a=> ?_) (fun a=> ?_)))))
 refine az (tn (s _ _ (cd rfl (fun a=> ?_) (fun a=> ?_))))
 refine U (fun _ j=>(aj (((j _ _ (rt (br (tr ?_))))))))
 refine f1 rfl rfl ?_
 first | exact ⟨by show Value.bool true =_; rw [g9,decide_eq_true (by omega)],Md.refl _ _⟩ | exact ⟨by show Value.bool false =_; rw [g9,decide_eq_false (by omega)],Md.refl _ _⟩
 refine az (bn (tn (q _ _ (U (fun _ j=>(aj (((j _ _ ?_)))))))))
 refine rt (f1 rfl rfl ?_)
 first | exact ⟨by show Value.bool true =_; rw [g9,decide_eq_true (by omega)],Md.refl _ _⟩ | exact ⟨by show Value.bool false =_; rw [g9,decide_eq_false (by omega)],Md.refl _ _⟩
 refine U (fun _ j=>(p (bf rfl rfl) (aj (((j _ _ (cd rfl (fun a=> ?_) (fun a=> ?_))))))))
 refine az (tn (s _ _ (cd rfl (fun a=> ?_) (fun a=> ?_))))
 refine U (fun _ i=>(aj (((i _ _ (rt (br (tr ?_))))))))
 refine f1 rfl rfl ?_
 first | exact ⟨by show Value.bool true =_; rw [g9,decide_eq_true (by omega)],Md.refl _ _⟩ | exact ⟨by show Value.bool false =_; rw [g9,decide_eq_false (by omega)],Md.refl _ _⟩
 refine az (bn (tn (q _ _ (U (fun _ i=>(aj (((i _ _ ?_)))))))))
 refine rt (f1 rfl rfl ?_)
 first | exact ⟨by show Value.bool true =_; rw [g9,decide_eq_true (by omega)],Md.refl _ _⟩ | exact ⟨by show Value.bool false =_; rw [g9,decide_eq_false (by omega)],Md.refl _ _⟩
 refine rg rfl (p (bf rfl rfl) (aj (((s _ _ (cd rfl (fun a=> ?_) (fun a=> ?_)))))))
 refine U (fun _ i=>(aj (((i _ _ (rt (br (tr ?_))))))))
 refine f1 rfl rfl ?_
 first | exact ⟨by show Value.bool true =_; rw [g9,decide_eq_true (by omega)],Md.refl _ _⟩ | exact ⟨by show Value.bool false =_; rw [g9,decide_eq_false (by omega)],Md.refl _ _⟩
 refine az (bn (tn (q _ _ (U (fun _ i=>(aj (((i _ _ ?_)))))))))
 refine rt (f1 rfl rfl ?_)
 first | exact ⟨by show Value.bool true =_; rw [g9,decide_eq_true (by omega)],Md.refl _ _⟩ | exact ⟨by show Value.bool false =_; rw [g9,decide_eq_false (by omega)],Md.refl _ _⟩
theorem B5 (s:List UInt8) (w:World) (hs:s.length≤1048576):
 aU Tryz.prog 74 (List.toArray [str s]) w (fun v w'=>v= .bool (lD s)∧Wk w w'):=by
 refine enter Tryz.func74 rfl Tryz.ntmps74 rfl ?_
 refine U (fun _ V=>(aj (((V _ _ (sq (fun _ aa=>U (fun _ I=> ?_))))))))
 refine ag (str s) (p (cI rfl rfl) (p mv (gs (t:=6) rfl (fun hg6=> ?_) (fun hg6=> ?_))))
 refine sk rfl rfl rfl rfl (sk rfl rfl rfl rfl (sk rfl rfl rfl rfl (p (bg rfl) (au ((I _ _ (ct rfl (sq (fun _ a=> ?_)))))))))
 exact rg rfl (aj (((a _ _ (rt (tr (f1 rfl rfl (⟨by show Value.bool false =_; unfold lD; rw [decide_eq_false (by rw [hg6]; simp)],Md.refl _ _⟩))))))))
 refine pg rfl rfl rfl (aC (str s) rfl) (pg rfl rfl rfl (bK u9 rfl rfl) (pg rfl rfl rfl (gt rfl rfl) (p (a5 rfl) (au ((I _ _ (cd rfl (fun hc10=> ?_) (fun hc10=> ?_))))))))
 refine U (fun _ a=>(aj (((a _ _ (rt (tr (f1 rfl rfl ?_))))))))
 exact ⟨by show Value.bool false =_; unfold lD; rw [decide_eq_false (by omega)],Md.refl _ _⟩
 refine az (tn (aa _ _ (sq (fun _ a=>U (fun _ ab=>(ag (str s) (p (bK u9 rfl rfl) (p mv ?_))))))))
 refine au ((ab _ _ (aA (lp (fun J q wI=> ∃ (i:Nat),(i≤s.length∧1≤s.length∧s.length≤64)∧(∀ j,j < i→fq (s.getD j 0)=true)∧(Wk w wI)∧(q 0=str s)∧(q 12= .int .i64 s.length)∧(q 13= .int .i64 i)∧(s.length - i=J)) _ ⟨0,(⟨by omega,by rcases Nat.eq_zero_or_pos s.length with h | h <;> first | exact absurd (List.length_eq_zero_iff.1 h) hg6 | exact h,by omega⟩),((fun j O=>by omega)),(Md.refl _ _),rfl,rfl,rfl,rfl⟩ ?_))))
 rintro J q wI ⟨i,hi,hp,C,am,an,ao,rfl⟩
 refine fx 0 am (fx 12 an (fx 13 ao (U (fun _ ac=>(p (lt rfl rfl) (au ((ac _ _ (sq (fun _ ae=>cd rfl (fun al=> ?_) (fun al=> ?_)))))))))))
 refine az (tn (ae _ _ (sq (fun _ A=>aA (U (fun _ ah=>(ag (.int .i64 i) (p (bF (.int .i64 i) rfl) ?_))))))))
 refine au ((ah _ _ (U (fun _ Y=>(ag (str s) (ag (.int .i64 i) (p (dA u9 rfl rfl (by omega)) (e (cl xd (yU (s.getD i 0) _) rfl fun ap w19 ai=> ?_)))))))))
 obtain ⟨rfl,M⟩:=ai
 refine p (no rfl) (au ((Y _ _ (cb rfl (fun E=> ?_) (fun E=> ?_)))))
 have G:fq (s.getD i 0)=false :=by simpa using E
 refine U (fun _ Z=>(aj (((Z _ _ (rt (br (tr ?_))))))))
 exact tr (br (tr (f1 rfl rfl (⟨by show Value.bool false =_; unfold lD; rw [nf (i:=i) (by omega) G,decide_eq_false (by simp)],Md.trans C M⟩))))
 have G:fq (s.getD i 0)=true :=by simpa using E
 refine az (bn (tn (A _ _ (rg rfl (p (ad rfl rfl (bm (by omega))) (p mv (nl (tn ?_))))))))
 exact ⟨_,by omega,i+1,(by omega),((fun j O=>by rcases Nat.lt_or_ge j i with h | h <;> first | exact hp j h | (rw [show j=i by omega]; exact G))),(Md.trans C M),rfl,rfl,rfl,rfl⟩
 refine ext (te _ (te _ (be (tn (a _ _ (U (fun _ A=>(p ak ?_))))))))
 exact au ((A _ _ (rt (f1 rfl rfl (⟨by show Value.bool true =_; unfold lD; rw [oe (fun j O=>hp j (by omega)),decide_eq_true ⟨hi.2.1,hi.2.2,rfl⟩],C⟩)))))
theorem vE (s:List UInt8) (w:World) (hs:s.length≤1048576):
 aU Tryz.prog 73 (List.toArray [str s]) w (fun v w'=>v=AS (aW s)∧Wk w w'):=by
 refine enter Tryz.func73 rfl Tryz.ntmps73 rfl ?_
 refine U (fun _ ai=>(p ak (p ak (p ak (aj (((ai _ _ ?_))))))))
 refine U (fun _ ap=>(e (fT Cg fun a w6 hb6 aJ hB6=>au ((ap _ _ (sq (fun _ aq=>U (fun _ ar=> ?_))))))))
 refine aj (((ar _ _ (aA (lp (fun ae G wI=> ∃ (i:Nat) (acc:List UInt8) (j:Value),(i≤s.length∧acc.length≤i)∧(Bd 143 5 wI a j acc)∧(Wk w wI)∧(fO acc (s.drop i)=aW s)∧(G 0=str s)∧(G 6=aH a)∧(G 7= .int .i64 i)∧(s.length - i=ae)) _ ⟨0,[],.slice none 0 0,(by simp),(Bd.new hB6),aJ.md,rfl,rfl,rfl,rfl,rfl⟩ ?_)))))
 rintro ae G wI ⟨i,acc,j,hi,q,A,hd,aX,aY,aZ,rfl⟩
 refine fx 0 aX (fx 6 aY (fx 7 aZ (sq (fun _ av=>U (fun _ aw=>(ag (.int .i64 i) (ag (str s) (p (bK u9 rfl rfl) (p (lt rfl rfl) ?_)))))))))
 refine au ((aw _ _ (cd rfl (fun aP=> ?_) (fun aP=> ?_))))
 refine az (tn (av _ _ (sq (fun _ O=>aA (U (fun _ ax=>(ag (str s) (ag (.int .i64 i) ?_))))))))
 refine p (dA u9 rfl rfl (by omega)) (au ((ax _ _ (aA ?_))))
 refine c7 (fun I wC=> ∃ (k:Nat),(k < s.length∧i≤k∧k≤i+1)∧(Bd 143 5 wC a j acc)∧(Wk w wC)∧(fO (acc++ [s.getD k 0]) (s.drop (k+1))=aW s)∧(I 0=str s)∧(I 6=aH a)∧(I 7= .int .i64 k)) ?_ ?_
 refine aA (sq (fun _ V=>aA (sq (fun _ al=>aA (sq (fun _ am=>sq (fun _ an=>sq (fun _ ao=> ?_))))))))
 refine rg rfl (p (bf rfl rfl) (aj (((ao _ _ (cd rfl (fun aQ=> ?_) (fun aQ=> ?_)))))))
 have aO:(s.getD i 0).toNat=47:=by omega
 refine ext (te _ (te _ (be (tn (al _ _ (sq (fun _ ab=>sq (fun _ J=> ?_))))))))
 have C:(fun w'=>True) wI.drew:=trivial
 refine bD (fun w'=>True) rfl wide C (bd 1 rfl (str s) C (bd 2 rfl (.int .i64 i) C (aB 3 rfl (fun _ _=>bc ((i+1:Nat):Int) rfl rfl (aR (by omega) (by omega))) C (aB 4 rfl (fun _ _=>kJ u9 rfl rfl (by omega)) C (he 0 rfl (by kernel_rfl) (cl sy (vj a j acc _ (q.md (Md.refl (fun _=>False) _).drew (fun _ _ h=>h)) (by omega)) rfl fun a4 w21 aK=> ?_))))))
 obtain ⟨rfl,aF⟩:=aK
 have E:(fun w'=>True) w21:=trivial
 refine ⟨E,?_⟩
 refine aB 5 rfl (fun _ _=>ak) E (aB 6 rfl (fun _ _=>ak) E (aB 7 rfl (fun _ _=>ak) E (aB 8 rfl (fun _ _=>ak) E (hn (by kernel_rfl) (tn (J _ _ (rt (tr ?_))))))))
 refine br (tr (br (tr (br (br (tr (tr ?_)))))))
 refine br (tr (f4 rfl rfl rfl rfl rfl ?_))
 skip
 exact ⟨by rw [← hd,drop_cons 0 (by omega :i < s.length),vD aO]; rfl,q.vg A (Md.trans (Md.refl _ _).drew aF) (by omega)⟩
 refine az (tn (an _ _ (U (fun _ ab=>(p (bf rfl rfl) (aj (((ab _ _ ?_)))))))))
 refine cd rfl (fun aS=> ?_) (fun aS=> ?_)
 have Z:(s.getD i 0).toNat=92:=by omega
 refine ext (te _ (ks (by decide) (te _ (be (tn (V _ _ (U (fun _ J=> ?_))))))))
 refine ag (.int .i64 i) (p (bc ((i+1:Nat):Int) rfl rfl (aR (by omega) (by omega))) (aj (((J _ _ (U (fun _ ac=>(p mv ?_))))))))
 refine ag (str s) (p (bK u9 rfl rfl) (p (bf rfl rfl) (p mv (gs (t:=32) rfl (fun aV=> ?_) (fun aV=> ?_)))))
 refine sk rfl rfl rfl rfl (sk rfl rfl rfl rfl (sk rfl rfl rfl rfl (sk rfl rfl rfl rfl (sk rfl rfl rfl rfl (p (bg rfl) (au ((ac _ _ ?_))))))))
 refine ct rfl (U (fun _ M=>(p ak (p ak (p ak (p ak (nl ?_)))))))
 refine tn (M _ _ (rt (br (tr (br (br (tr (tr ?_))))))))
 refine br (tr (f4 rfl rfl rfl rfl rfl ?_))
 exact ⟨by rw [← hd,drop_cons 0 (by omega :i < s.length),List.drop_eq_nil_of_le (by omega),vA Z]; rfl,A⟩
 refine pg rfl rfl rfl (aC (str s) rfl) (pg rfl rfl rfl mv (pg rfl rfl rfl (dA u9 rfl rfl (by omega)) (eg rfl rfl rfl (cl Ea (Jb (s.getD (i+1) 0) _) rfl fun a6 w36 aL=> ?_))))
 obtain ⟨rfl,Y⟩:=aL
 refine pg rfl rfl rfl (no rfl) (p (a5 rfl) (au ((ac _ _ (cb rfl (fun aa=> ?_) (fun aa=> ?_))))))
 refine U (fun _ M=>(p ak (p ak (p ak (aj (((M _ _ ?_))))))))
 refine rt (br (tr (br (br (tr (tr (br ?_)))))))
 refine tr (f4 rfl rfl rfl rfl rfl ?_)
 exact ⟨by rw [← hd,drop_cons 0 (by omega :i < s.length),drop_cons 0 (by omega :i+1 < s.length),vB Z (by simpa using aa)]; rfl,Md.trans A Y⟩
 exact az (bn (tn (⟨i+1,(by omega),(q.md Y (fun _ _ h=>h)),(Md.trans A Y),((by rw [← hd,drop_cons 0 (by omega :i < s.length),drop_cons 0 (by omega :i+1 < s.length),o8 Z (by simpa using aa)])),rfl,rfl,rfl⟩)))
 refine az (tn (am _ _ (ext (ks (by decide) (te _ (ks (by decide) (te _ (be ?_))))))))
 exact tn (⟨i,(by omega),q,A,((by rw [← hd,drop_cons 0 (by omega :i < s.length),vC (by omega) (by omega)])),rfl,rfl,rfl⟩)
 rintro I wC ⟨k,hk,ah,aE,aT,a0,a1,a2⟩
 refine fx 0 a0 (fx 6 a1 (fx 7 a2 (U (fun _ V=>(ag (str s) (ag (.int .i64 k) (p (dA u9 rfl rfl (by omega)) (e (cl xE (Cd a j (acc) (s.getD k 0) _ ah (by omega)) rfl fun a7 w42 aM=> ?_)))))))))
 obtain ⟨rfl,ay,aD,aG,a3⟩:=aM
 refine au ((V _ _ (ext (be (bn (tn (O _ _ (rg rfl (ag (.int .i64 k) ?_)))))))))
 exact p (ad rfl rfl (bm (by omega))) (aj (((⟨_,by omega,k+1,acc++ [s.getD k 0],ay,(by rw [List.length_append,List.length_singleton]; omega),aD,(ah.step aE aG (by omega)),aT,rfl,rfl,rfl,rfl⟩))))
 refine ext (te _ (te _ (be (tn (aq _ _ (U (fun _ O=>(e (cl sy (vj a j acc _ q (by omega)) rfl fun a8 w43 aN=> ?_)))))))))
 obtain ⟨rfl,aI⟩:=aN
 refine p ak (p ak (p ak (aj (((O _ _ (rt (f4 rfl rfl rfl rfl rfl ?_))))))))
 exact ⟨by rw [← hd,List.drop_eq_nil_of_le (by omega),rN]; rfl,q.vg A aI (by omega)⟩
theorem IU (s:List UInt8) (w:World) (hs:s.length≤1048576):
 aU Tryz.prog 95 (List.toArray [str s]) w (fun v w'=>v= .tuple #[str (letE s).1,.int .i64 (letE s).2]∧Wk w w'):=by
 refine enter Tryz.func95 rfl Tryz.ntmps95 rfl ?_
 refine U (fun _ ao=>(p ak (aj (((ao _ _ (U (fun _ aw=> ?_))))))))
 refine e (al MF fun O w4 aW G ac=> ?_)
 have hB4x:bG w4.heap O (marksOf []):=by rw [Jd]; exact ac
 refine au ((aw _ _ (sq (fun _ ax=>U (fun _ ay=>(ag (str s) (p (cI rfl rfl) (nl ?_))))))))
 refine tn (ay _ _ (cd rfl (fun hc8=> ?_) (fun hc8=> ?_)))
 refine U (fun _ M=>(p ak (aj (((M _ _ (rt (tr ?_))))))))
 exact f2 rfl rfl rfl (⟨by show Value.tuple #[str [],.int .i64 21]=_; unfold letE; rw [if_pos (.inl hc8)]; rfl,G.md⟩)
 refine az (tn (ax _ _ (U (fun _ M=>(e (fT Cg fun E w5 hb5 an aI=>au ((M _ _ (sq (fun _ aB=> ?_))))))))))
 refine U (fun _ aC=>(ag (str s) (p (bK u9 rfl rfl) (p mv (au ((aC _ _ (aA ?_))))))))
 have hb4l:=ac.lt
 refine lp (fun ab a wI=> ∃ (i:Nat) (q:Value),(i≤s.length)∧(∀ j,j < i→fq (s.getD j 0)=true)∧(bG wI.heap O (marksOf (lets (s.take i))))∧(Bd 143 5 wI E q (lets (s.take i)))∧(Wk w wI)∧(a 0=str s)∧(a 4=aH O)∧(a 5=aH E)∧(a 10= .int .i64 s.length)∧(a 11= .int .i64 i)∧(s.length - i=ab)) _ ⟨0,.slice none 0 0,(by omega),((fun j aa=>by omega)),(an.md.B hB4x),(Bd.new aI),(Md.trans G.md an.md),rfl,rfl,rfl,rfl,rfl,rfl⟩ ?_
 rintro ab a wI ⟨i,q,hi,hp,am,V,Y,aQ,aT,aV,aR,aS,rfl⟩
 refine fx 0 aQ (fx 4 aT (fx 5 aV (fx 10 aR (fx 11 aS ?_))))
 have hll:=uc (s.take i)
 rw [List.length_take] at hll
 have hbl4:=am.lt
 refine U (fun _ aD=>(p (lt rfl rfl) (au ((aD _ _ (sq (fun _ aE=>cd rfl (fun aP=> ?_) (fun aP=> ?_))))))))
 refine az (tn (aE _ _ (sq (fun _ C=>aA (U (fun _ ap=>(ag (.int .i64 i) (p (bF (.int .i64 i) rfl) ?_))))))))
 refine au ((ap _ _ (sq (fun _ aq=>U (fun _ ar=>(ag (str s) (ag (.int .i64 i) (p (dA u9 rfl rfl (by omega)) ?_))))))))
 refine e (cl xd (yU (s.getD i 0) _) rfl fun aY w17 aM=> ?_)
 obtain ⟨rfl,hE17⟩:=aM
 refine p (no rfl) (au ((ar _ _ (cb rfl (fun hc18=> ?_) (fun hc18=> ?_)))))
 have I:fq (s.getD i 0)=false :=by simpa using hc18
 refine U (fun _ J=>(p ak (aj (((J _ _ (rt (tr ?_))))))))
 exact br (tr (tr (br (tr (f2 rfl rfl rfl (⟨by show Value.tuple #[str [],.int .i64 21]=_; unfold letE; rw [if_pos (.inr (nf (by omega) I))]; rfl,Md.trans Y hE17⟩))))))
 have I:fq (s.getD i 0)=true :=by simpa using hc18
 have ae:Wk w w17:=Md.trans Y hE17
 have hB17:=hE17.B am
 have hBd17:=V.md hE17 (fun _ _ h=>h)
 have hsz17:=hE17.size
 refine az (tn (aq _ _ (U (fun _ J=>(ag (str s) (ag (.int .i64 i) (p (dA u9 rfl rfl (by omega)) (p (iw wx rfl rfl (by have :=UInt8.toNat_lt (s.getD i 0); omega)) ?_))))))))
 refine p (ld pF rfl (Jf hB17 _)) (p (no rfl) (au ((J _ _ (cb rfl (fun Z=> ?_) (fun Z=> ?_))))))
 have A:¬s.getD i 0∈lets (s.take i):=of_decide_eq_false (by simpa using Z)
 refine U (fun _ av=>(ag (str s) (ag (.int .i64 i) (p (dA u9 rfl rfl (by omega)) (p (iw wx rfl rfl (by have :=UInt8.toNat_lt (s.getD i 0); omega)) (e (st x8 rfl rfl (rfl) (hB17) (by rw [Ag]; have :=UInt8.toNat_lt (s.getD i 0); omega) fun wt11_4 ah aG=> ?_)))))))
 have hMk11:=Jg aG
 have aK:Wk w wt11_4:=Md.trans' ae ah (fun k hk h=>by omega)
 have hBd11:=hBd17.md ah (fun k hk h=>by have :=hBd17.fL hk; omega)
 refine au ((av _ _ (rg rfl (ag (str s) (ag (.int .i64 i) (p (dA u9 rfl rfl (by omega)) (e (cl xE (Cd E q (lets (s.take i)) (s.getD i 0) _ hBd11 (by omega)) rfl fun aZ a1 aN=> ?_))))))))
 obtain ⟨rfl,aF,aJ,ai,aX⟩:=aN
 refine nl (bn (tn (C _ _ (rg rfl (p (ad rfl rfl (bm (by omega))) (p mv (nl (tn ?_))))))))
 exact ⟨_,by omega,i+1,aF,(by omega),((fun j aa=>by rcases Nat.lt_or_ge j i with h | h <;> first | exact hp j h | (rw [show j=i by omega]; exact I))),((by rw [l5 (by omega),if_neg A]; exact ai.B hMk11 (fun h=>by have :=hBd11.fL h; omega))),((by rw [l5 (by omega),if_neg A]; exact aJ)),(hBd11.step aK ai (by have :=G.md.size; omega)),rfl,rfl,rfl,rfl,rfl,rfl⟩
 have A:s.getD i 0∈lets (s.take i):=by simpa using Z
 refine az (bn (tn (C _ _ (rg rfl (p (ad rfl rfl (bm (by omega))) (p mv (nl (tn ?_))))))))
 exact ⟨_,by omega,i+1,q,(by omega),((fun j aa=>by rcases Nat.lt_or_ge j i with h | h <;> first | exact hp j h | (rw [show j=i by omega]; exact I))),((by rw [l5 (by omega),if_pos A]; exact hB17)),((by rw [l5 (by omega),if_pos A]; exact hBd17)),ae,rfl,rfl,rfl,rfl,rfl,rfl⟩
 refine ext (te _ (te _ (be (tn (aB _ _ (U (fun _ C=>(e (cl sy (vj E q (lets (s.take i)) _ V (by have :=uc (s.take i); rw [List.length_take] at this; omega)) rfl fun a0 a2 aO=> ?_)))))))))
 obtain ⟨rfl,aL⟩:=aO
 exact p ak (aj (((C _ _ (rt (f2 rfl rfl rfl (⟨by show Value.tuple #[str (lets (s.take i)),.int .i64 0]=_; unfold letE; rw [if_neg (by rw [oe (fun j aa=>hp j (by omega))]; exact fun h=>h.elim hc8 Bool.noConfusion),show s.take i=s from List.take_of_length_le (by omega)]; rfl,V.vg Y aL (by have :=G.md.size; omega)⟩)))))))
end Go.Hb.ko
end
section
set_option maxRecDepth 20000
set_option maxHeartbeats 1000000
namespace Go.Hb.gF
open Go.Hb.di
open Go.Proofs
theorem qJ {s:List UInt8} (h:¬s= []) (h1:¬(1 < s.length∧(s.getD 0 0).toNat=48)):¬l1 s:=fun hz=>hz.elim h h1
theorem AP {s:List UInt8} (h:¬l1 s):0 < s.length:=List.length_pos_iff.2 (fun e=>h (.inl e))
theorem qV (s:List UInt8) (most:Int) (w:World) (hs:s.length≤1048576) (hm: -9223372036854775808≤most∧most≤9223372036854775807):
 aU Tryz.prog 68 (List.toArray [str s,.int .i64 most]) w (fun v w'=>v= .tuple #[.int .i64 (cJ s most).1,.int .i64 (cJ s most).2]∧Wk w w'):=by
 refine enter Tryz.func68 rfl Tryz.ntmps68 rfl ?_
 refine U (fun _ Y=>(p ak (aj (((Y _ _ ?_))))))
 refine c7 (fun J I=>(¬l1 s)∧(I=w)∧(J 0=str s)∧(J 1= .int .i64 most)) ?_ ?_
 refine U (fun _ A=>(ag (str s) (p (cI rfl rfl) (p mv (gs (t:=11) rfl (fun hg11=> ?_) (fun hg11=> ?_))))))
 refine sk rfl rfl rfl rfl (sk rfl rfl rfl rfl (sk rfl rfl rfl rfl (sk rfl rfl rfl rfl (eu rfl rfl rfl (eu rfl rfl rfl (eu rfl rfl rfl (sk rfl rfl rfl rfl ?_)))))))
 refine p (bg rfl) (au ((A _ _ (ct rfl (U (fun _ C=>(p ak (p ak ?_))))))))
 exact au ((C _ _ (rt (tr (f2 rfl rfl rfl (⟨by show Value.tuple #[.int .i64 0,.int .i64 13]=_; rw [qU (.inl hg11)]; rfl,Md.refl _ _⟩))))))
 refine pg rfl rfl rfl (aC (str s) rfl) (pg rfl rfl rfl (bK u9 rfl rfl) (pg rfl rfl rfl (gt rfl rfl) (pg rfl rfl rfl mv (gs (t:=15) rfl (fun ar=> ?_) (fun ar=> ?_)))))
 refine pg rfl rfl rfl (aC (str s) rfl) (pg rfl rfl rfl (fD 0 u9 rfl rfl (by omega)) (pg rfl rfl rfl (bf rfl rfl) (pg rfl rfl rfl (bg rfl) (p (a5 rfl) (au ((A _ _ (cd rfl (fun an=> ?_) (fun an=> ?_)))))))))
 refine U (fun _ C=>(p ak (aj (((C _ _ (rt (tr ?_))))))))
 exact f2 rfl rfl rfl (⟨by show Value.tuple #[.int .i64 0,.int .i64 13]=_; rw [qU (.inr ⟨by omega,by omega⟩)]; rfl,Md.refl _ _⟩)
 have hh:=qJ (s:=s) hg11 (by omega)
 exact az (tn (⟨hh,rfl,rfl,rfl⟩))
 refine sk rfl rfl rfl rfl (sk rfl rfl rfl rfl (sk rfl rfl rfl rfl (pg rfl rfl rfl (a5 rfl) (p (a5 rfl) (au ((A _ _ (cf rfl ?_))))))))
 exact az (tn (⟨(qJ (s:=s) hg11 (by omega)),rfl,rfl,rfl⟩))
 rintro J I ⟨hh,al,ay,aB⟩
 refine fx 0 ay (fx 1 aB ?_)
 subst al
 have hp:=AP hh
 refine U (fun _ A=>(aj (((A _ _ (sq (fun _ C=>U (fun _ aa=> ?_))))))))
 refine ag (str s) (p (bK u9 rfl rfl) (p mv (au ((aa _ _ (aA (lp (fun M q wI=> ∃ (i:Nat),(i≤s.length)∧(wI=I)∧((du (s.take i):Int)≤max 0 most∧(0 < i→(du (s.take i):Int)≤most))∧(∀ j,j < i→lV (s.getD j 0)=true)∧(q 0=str s)∧(q 1= .int .i64 most)∧(q 6=ae (du (s.take i)))∧(q 22= .int .i64 s.length)∧(q 23= .int .i64 i)∧(s.length - i=M)) _ ⟨0,(by omega),rfl,((by rw [List.take_zero]; show (0:Int)≤_∧_; omega)),((fun j V=>by omega)),rfl,rfl,(iv (by first | rfl | (rw [jx (by omega)]))),rfl,rfl,rfl⟩ ?_)))))))
 rintro M q wI ⟨i,hi,am,hn,O,aD,aE,aH,aF,aG,rfl⟩
 refine fx 0 aD (fx 1 aE (fx 6 aH (fx 22 aF (fx 23 aG ?_))))
 subst am
 have hb8:=UInt8.toNat_lt (s.getD i 0)
 refine U (fun _ ab=>(p (lt rfl rfl) (au ((ab _ _ (sq (fun _ ac=>cd rfl (fun ao=> ?_) (fun ao=> ?_))))))))
 refine az (tn (ac _ _ (sq (fun _ G=>aA (U (fun _ ah=>(ag (.int .i64 i) (p (bF (.int .i64 i) rfl) ?_))))))))
 refine au ((ah _ _ (U (fun _ ai=>(ag (str s) (ag (.int .i64 i) (p (dA u9 rfl rfl (by omega)) (p (ot u3 lC rfl (bm (by omega))) ?_))))))))
 refine p (sb rfl rfl (bm (by omega))) (aj (((ai _ _ (sq (fun _ Z=>U (fun _ E=>(p mv ?_))))))))
 refine p (lt rfl rfl) (p mv (gs (t:=33) rfl (fun av=> ?_) (fun av=> ?_)))
 refine sk rfl rfl rfl rfl (sk rfl rfl rfl rfl (p (bg rfl) (p mv (sk rfl rfl rfl rfl (sk rfl rfl rfl rfl (sk rfl rfl rfl rfl (p (bg rfl) ?_)))))))
 refine p mv (sk rfl rfl rfl rfl (sk rfl rfl rfl rfl (sk rfl rfl rfl rfl (sk rfl rfl rfl rfl (sk rfl rfl rfl rfl (sk rfl rfl rfl rfl (p (bg rfl) ?_)))))))
 refine au ((E _ _ (ct rfl (U (fun _ a=>(p ak (p ak (nl ?_))))))))
 refine tn (a _ _ (rt (tr (br (tr (tr (br (tr ?_))))))))
 exact f2 rfl rfl rfl (⟨by show Value.tuple #[.int .i64 0,.int .i64 13]=_; rw [qT (i:=i) (by omega) (qd (by omega))]; rfl,Md.refl _ _⟩)
 refine pg rfl rfl rfl mv (pg rfl rfl rfl (gt rfl rfl) (p (a5 rfl) (p mv (gs (t:=37) rfl (fun aw=> ?_) (fun aw=> ?_)))))
 refine sk rfl rfl rfl rfl (sk rfl rfl rfl rfl (sk rfl rfl rfl rfl (p (bg rfl) (p mv (sk rfl rfl rfl rfl (sk rfl rfl rfl rfl (sk rfl rfl rfl rfl ?_)))))))
 refine sk rfl rfl rfl rfl (sk rfl rfl rfl rfl (sk rfl rfl rfl rfl (p (bg rfl) (au ((E _ _ (ct rfl (sq (fun _ a=> ?_)))))))))
 refine rg rfl (p ak (aj (((a _ _ (rt (tr (br ?_))))))))
 exact tr (tr (br (tr (f2 rfl rfl rfl (⟨by show Value.tuple #[.int .i64 0,.int .i64 13]=_; rw [qT (i:=i) (by omega) (qd (by omega))]; rfl,Md.refl _ _⟩)))))
 refine pg rfl rfl rfl (aC (.int .i64 most) rfl) (pg rfl rfl rfl mv (pg rfl rfl rfl (lt rfl rfl) (p (a5 rfl) (p mv (gs (t:=42) rfl (fun ax=> ?_) (fun ax=> ?_))))))
 refine sk rfl rfl rfl rfl (sk rfl rfl rfl rfl (sk rfl rfl rfl rfl (sk rfl rfl rfl rfl (sk rfl rfl rfl rfl (sk rfl rfl rfl rfl (p (bg rfl) (nl ?_)))))))
 refine tn (E _ _ (ct rfl (U (fun _ a=>(p ak (aj (((a _ _ ?_)))))))))
 refine rt (tr (br (tr (tr (br (tr (f2 rfl rfl rfl ?_)))))))
 exact ⟨by show Value.tuple #[.int .i64 0,.int .i64 13]=_; rw [oN (i+1) (by rw [jx (by omega)]; omega)]; rfl,Md.refl _ _⟩
 have hml:((s.getD i 0).toNat:Int) - 48≤most:=by omega
 refine pg rfl rfl rfl (aC (ae (du (s.take i))) rfl) (pg rfl rfl rfl (aC (.int .i64 most) rfl) (pg rfl rfl rfl mv (pg rfl rfl rfl (sb rfl rfl (bm (by omega))) (pg rfl rfl rfl (ma (((most - (((s.getD i 0).toNat:Int) - 48)).toNat / 10:Nat):Int) rfl rfl (by omega) (aR (by omega) (by omega))) (pg rfl rfl rfl (gt rfl rfl) (p (a5 rfl) (nl ?_)))))))
 refine tn (E _ _ (cd rfl (fun ap=> ?_) (fun ap=> ?_)))
 refine U (fun _ a=>(p ak (aj (((a _ _ (rt (tr ?_))))))))
 exact br (tr (tr (br (tr (f2 rfl rfl rfl (⟨by show Value.tuple #[.int .i64 0,.int .i64 13]=_; rw [oN (i+1) (by rw [jx (by omega)]; omega)]; rfl,Md.refl _ _⟩))))))
 have aq:lV (s.getD i 0)=true :=decide_eq_true (by omega)
 refine az (tn (Z _ _ (rg rfl (ag (ae (du (s.take i))) (p (kF ((du (s.take i)*10:Nat):Int) rfl rfl (aR (by omega) (by omega))) (p mv (p (bc ((du (s.take i)*10 +((s.getD i 0).toNat - 48):Nat):Int) rfl rfl (aR (by omega) (by omega))) (p ak ?_))))))))
 refine nl (bn (tn (G _ _ (rg rfl (p (ad rfl rfl (bm (by omega))) (p mv (nl (tn ?_))))))))
 exact ⟨_,by omega,i+1,(by omega),rfl,((by rw [jx (by omega)]; omega)),((fun j V=>by rcases Nat.lt_or_ge j i with h | h <;> first | exact O j h | (rw [show j=i by omega]; exact aq))),rfl,rfl,(iv (by first | rfl | (rw [jx (by omega)]))),rfl,rfl,rfl⟩
 refine ext (te _ (te _ (be (tn (C _ _ (U (fun _ G=>(ag (ae (du (s.take i))) ?_))))))))
 exact p (bF (ae (du (s.take i))) rfl) (aj (((G _ _ (rt (f2 rfl rfl rfl (⟨by show Value.tuple #[ae (du (s.take i)),.int .i64 0]=_; rw [show s.take i=s from List.take_of_length_le (by omega),um hh (fun j V=>O j (by omega)) (by rw [show s.take i=s from List.take_of_length_le (by omega)] at hn; omega)],Md.refl _ _⟩)))))))
theorem mR (s:List UInt8) (most:Int) (w:World) (hs:s.length≤1048576) (hm: -9223372036854775808≤most∧most≤9223372036854775807):
 aU Tryz.prog 45 (List.toArray [str s,.int .i64 most]) w (fun v w'=>v= .tuple #[.int .i64 (cJ s most).1,.int .i64 (cJ s most).2]∧Wk w w'):=by
 refine enter Tryz.func45 rfl Tryz.ntmps45 rfl ?_
 refine U (fun _ am=>(p ak (aj (((am _ _ ?_))))))
 refine c7 (fun ah ac=>(¬l1 s)∧(ac=w)∧(ah 0=str s)∧(ah 1= .int .i64 most)) ?_ ?_
 refine U (fun _ A=>(ag (str s) (p (bK u9 rfl rfl) (p (bf rfl rfl) (p mv (gs (t:=13) rfl (fun hg13=> ?_) (fun hg13=> ?_)))))))
 refine sk rfl rfl rfl rfl (sk rfl rfl rfl rfl (sk rfl rfl rfl rfl (sk rfl rfl rfl rfl (eu rfl rfl rfl (eu rfl rfl rfl (eu rfl rfl rfl (sk rfl rfl rfl rfl ?_)))))))
 refine p (bg rfl) (au ((A _ _ (ct rfl (U (fun _ C=>(p ak (p ak ?_))))))))
 exact au ((C _ _ (rt (tr (f2 rfl rfl rfl (⟨by show Value.tuple #[.int .i64 0,.int .i64 13]=_; rw [qU (.inl (List.length_eq_zero_iff.1 (by omega)))]; rfl,Md.refl _ _⟩))))))
 refine pg rfl rfl rfl (aC (str s) rfl) (pg rfl rfl rfl (bK u9 rfl rfl) (pg rfl rfl rfl (gt rfl rfl) (pg rfl rfl rfl mv (gs (t:=17) rfl (fun aH=> ?_) (fun aH=> ?_)))))
 refine pg rfl rfl rfl (aC (str s) rfl) (pg rfl rfl rfl (fD 0 u9 rfl rfl (by omega)) (pg rfl rfl rfl (bf rfl rfl) (pg rfl rfl rfl (bg rfl) (p (a5 rfl) (au ((A _ _ (cd rfl (fun ax=> ?_) (fun ax=> ?_)))))))))
 refine U (fun _ C=>(p ak (aj (((C _ _ (rt (tr ?_))))))))
 exact f2 rfl rfl rfl (⟨by show Value.tuple #[.int .i64 0,.int .i64 13]=_; rw [qU (.inr ⟨by omega,by omega⟩)]; rfl,Md.refl _ _⟩)
 exact az (tn (⟨(qJ (s:=s) (fun e=>by subst e; exact hg13 rfl) (by omega)),rfl,rfl,rfl⟩))
 refine sk rfl rfl rfl rfl (sk rfl rfl rfl rfl (sk rfl rfl rfl rfl (pg rfl rfl rfl (a5 rfl) (p (a5 rfl) (au ((A _ _ (cf rfl ?_))))))))
 exact az (tn (⟨(qJ (s:=s) (fun e=>by subst e; exact hg13 rfl) (by omega)),rfl,rfl,rfl⟩))
 rintro ah ac ⟨hh,ar,aL,aM⟩
 refine fx 0 aL (fx 1 aM ?_)
 subst ar
 have hp:=AP hh
 refine U (fun _ A=>(aj (((A _ _ (sq (fun _ C=>U (fun _ ao=> ?_))))))))
 refine aj (((ao _ _ (aA (lp (fun G J wI=> ∃ (i:Nat),(i≤s.length)∧(wI=ac)∧(∀ j,j < i→lV (s.getD j 0)=true)∧(J 0=str s)∧(J 1= .int .i64 most)∧(J 6= .int .i64 0)∧(J 7= .int .i64 i)∧(s.length - i=G)) _ ⟨0,(by omega),rfl,((fun j ai=>by omega)),rfl,rfl,rfl,rfl,rfl⟩ ?_)))))
 rintro G J wI ⟨i,hi,av,I,aN,aO,aP,aQ,rfl⟩
 refine fx 0 aN (fx 1 aO (fx 6 aP (fx 7 aQ ?_)))
 subst av
 refine sq (fun _ ap=>U (fun _ aq=>(ag (.int .i64 i) (ag (str s) (p (bK u9 rfl rfl) (p (lt rfl rfl) (nl ?_)))))))
 refine tn (aq _ _ (cd rfl (fun ay=> ?_) (fun ay=> ?_)))
 refine az (tn (ap _ _ (sq (fun _ ab=>aA (U (fun _ V=>(ag (str s) (ag (.int .i64 i) ?_))))))))
 refine p (dA u9 rfl rfl (by omega)) (p (lt rfl rfl) (p mv (gs (t:=33) rfl (fun aI=> ?_) (fun aI=> ?_))))
 refine sk rfl rfl rfl rfl (sk rfl rfl rfl rfl (sk rfl rfl rfl rfl (sk rfl rfl rfl rfl (p (bg rfl) (au ((V _ _ (ct rfl ?_))))))))
 refine U (fun _ E=>(p ak (aj (((E _ _ (rt (br ?_))))))))
 exact tr (tr (br (tr (f2 rfl rfl rfl (⟨by show Value.tuple #[.int .i64 0,.int .i64 13]=_; rw [qT (i:=i) (by omega) (qd (by omega))]; rfl,Md.refl _ _⟩)))))
 refine pg rfl rfl rfl (aC (str s) rfl) (pg rfl rfl rfl (aC (.int .i64 i) rfl) (pg rfl rfl rfl (dA u9 rfl rfl (by omega)) (pg rfl rfl rfl (gt rfl rfl) (p (a5 rfl) (au ((V _ _ (cd rfl (fun aB=> ?_) (fun aB=> ?_)))))))))
 refine U (fun _ E=>(p ak (aj (((E _ _ (rt (br ?_))))))))
 exact tr (tr (br (tr (f2 rfl rfl rfl (⟨by show Value.tuple #[.int .i64 0,.int .i64 13]=_; rw [qT (i:=i) (by omega) (qd (by omega))]; rfl,Md.refl _ _⟩)))))
 have aG:lV (s.getD i 0)=true :=decide_eq_true (by omega)
 refine az (bn (tn (ab _ _ (rg rfl (ag (.int .i64 i) (p (ad rfl rfl (bm (by omega))) (p ak (nl ?_))))))))
 exact tn (⟨_,by omega,i+1,(by omega),rfl,((fun j ai=>by rcases Nat.lt_or_ge j i with h | h <;> first | exact I j h | (rw [show j=i by omega]; exact aG))),rfl,rfl,rfl,rfl,rfl⟩)
 refine ext (te _ (te _ (be (tn (C _ _ (sq (fun _ ab=>U (fun _ V=> ?_))))))))
 refine aj (((V _ _ (aA (lp (fun G M al=> ∃ (j:Nat),(j≤s.length)∧(al=wI)∧(du (s.take j)≤9223372036854775807)∧(M 0=str s)∧(M 1= .int .i64 most)∧(M 6=ae (du (s.take j)))∧(M 8= .int .i64 j)∧(s.length - j=G)) _ ⟨0,(by omega),rfl,((by rw [List.take_zero]; exact Nat.zero_le _)),rfl,rfl,(iv (by first | rfl | (rw [jx (by omega)]))),rfl,rfl⟩ ?_)))))
 rintro G M al ⟨j,ai,aw,hn,aS,aT,aV,aW,rfl⟩
 refine fx 0 aS (fx 1 aT (fx 6 aV (fx 8 aW ?_)))
 subst aw
 refine sq (fun _ E=>U (fun _ an=>(ag (.int .i64 j) (ag (str s) (p (bK u9 rfl rfl) (p (lt rfl rfl) (nl ?_)))))))
 refine tn (an _ _ (cd rfl (fun aD=> ?_) (fun aD=> ?_)))
 refine az (tn (E _ _ (sq (fun _ O=>aA (sq (fun _ Y=> ?_))))))
 have hd2:=sV (I j (by omega))
 refine rg rfl (ag (str s) (ag (.int .i64 j) (p (dA u9 rfl rfl (by omega)) (p (sb rfl rfl (nW (by omega))) (p (ot u3 lC rfl (bm (by omega))) (p ak (nl ?_)))))))
 refine tn (Y _ _ (sq (fun _ a=>U (fun _ Z=>(ag (ae (du (s.take j))) (p (gt rfl rfl) (p mv (gs (t:=52) rfl (fun aJ=> ?_) (fun aJ=> ?_)))))))))
 refine sk rfl rfl rfl rfl (sk rfl rfl rfl rfl (sk rfl rfl rfl rfl (eu rfl rfl rfl (eu rfl rfl rfl (sk rfl rfl rfl rfl (p (bg rfl) (nl ?_)))))))
 refine tn (Z _ _ (ct rfl (U (fun _ aa=>(p ak (aj (((aa _ _ ?_)))))))))
 refine rt (tr (br (tr (tr (br (tr (f2 rfl rfl rfl ?_)))))))
 exact ⟨by show Value.tuple #[.int .i64 0,.int .i64 13]=_; rw [oN (j+1) (by rw [jx (by omega)]; omega)]; rfl,Md.refl _ _⟩
 refine pg rfl rfl rfl (aC (ae (du (s.take j))) rfl) (pg rfl rfl rfl (bf rfl rfl) (pg rfl rfl rfl mv (gs (t:=55) rfl (fun aK=> ?_) (fun aK=> ?_))))
 refine pg rfl rfl rfl mv (pg rfl rfl rfl (gt rfl rfl) (pg rfl rfl rfl (bg rfl) (p (a5 rfl) (au ((Z _ _ (cd rfl (fun aE=> ?_) (fun aE=> ?_))))))))
 refine U (fun _ aa=>(p ak (aj (((aa _ _ (rt (tr ?_))))))))
 exact br (tr (tr (br (tr (f2 rfl rfl rfl (⟨by show Value.tuple #[.int .i64 0,.int .i64 13]=_; rw [oN (j+1) (by rw [jx (by omega)]; omega)]; rfl,Md.refl _ _⟩))))))
 refine az (tn (a _ _ (rg rfl (ag (ae (du (s.take j))) (p (kF ((du (s.take j)*10:Nat):Int) rfl rfl (aR (by omega) (by omega))) (p mv (p (bc ((du (s.take j)*10 +((s.getD j 0).toNat - 48):Nat):Int) rfl rfl (aR (by omega) (by omega))) (p ak ?_))))))))
 refine nl (bn (tn (O _ _ (rg rfl (ag (.int .i64 j) (p (ad rfl rfl (bm (by omega))) (p ak (nl ?_))))))))
 exact tn (⟨_,by omega,j+1,(by omega),rfl,((by have :=sV (I j (by omega)); rw [jx (by omega)]; omega)),rfl,rfl,(iv (by first | rfl | (rw [jx (by omega)]))),rfl,rfl⟩)
 refine sk rfl rfl rfl rfl (sk rfl rfl rfl rfl (pg rfl rfl rfl (a5 rfl) (p (a5 rfl) (au ((Z _ _ (cf rfl (az ?_))))))))
 refine tn (a _ _ (rg rfl (ag (ae (du (s.take j))) (p (kF ((du (s.take j)*10:Nat):Int) rfl rfl (aR (by omega) (by omega))) (p mv (p (bc ((du (s.take j)*10 +((s.getD j 0).toNat - 48):Nat):Int) rfl rfl (aR (by omega) (by omega))) (p ak (nl ?_))))))))
 refine bn (tn (O _ _ (rg rfl (ag (.int .i64 j) (p (ad rfl rfl (bm (by omega))) (p ak (nl (tn ?_))))))))
 exact ⟨_,by omega,j+1,(by omega),rfl,((by have :=sV (I j (by omega)); rw [jx (by omega)]; omega)),rfl,rfl,(iv (by first | rfl | (rw [jx (by omega)]))),rfl,rfl⟩
 refine ext (te _ (te _ (be (tn (ab _ _ (sq (fun _ O=>U (fun _ Y=> ?_))))))))
 refine ag (ae (du (s.take j))) (ag (.int .i64 most) (p (gt rfl rfl) (au ((Y _ _ (cd rfl (fun aF=> ?_) (fun aF=> ?_)))))))
 refine U (fun _ a=>(p ak (aj (((a _ _ (rt (tr ?_))))))))
 exact f2 rfl rfl rfl (⟨by show Value.tuple #[.int .i64 0,.int .i64 13]=_; rw [oN j (by omega)]; rfl,Md.refl _ _⟩)
 refine az (tn (O _ _ (U (fun _ a=>(ag (ae (du (s.take j))) (p (bF (ae (du (s.take j))) rfl) (p ak (nl ?_))))))))
 exact tn (a _ _ (rt (f2 rfl rfl rfl (⟨by show Value.tuple #[ae (du (s.take j)),.int .i64 0]=_; rw [show s.take j=s from List.take_of_length_le (by omega),um hh (fun q hq=>I q (by omega)) (by rw [show s.take j=s from List.take_of_length_le (by omega)] at*; omega)],Md.refl _ _⟩))))
end Go.Hb.gF
end
section
set_option maxRecDepth 20000
set_option maxHeartbeats 1000000
namespace Go.Hb.fS
open Go.Hb.di
open Go.Proofs
theorem uL {s pr:List UInt8} (h:s.take pr.length=pr):pr.length≤s.length:=by
 have :=congrArg List.length h
 rw [List.length_take] at this; omega
theorem LC {s:List UInt8} (h:decide (1≤s.length∧s.drop (s.length - 1)= [13])=true):gd s=s.take (s.length - 1):=by
 have h1:=of_decide_eq_true h
 rw [z6 (by omega)] at h1
 exact yy (by omega) (by simpa using h1.2)
theorem LD {s:List UInt8} (h:decide (1≤s.length∧s.drop (s.length - 1)= [13])=false):gd s=s:=by
 have h1:=of_decide_eq_false h
 refine s5 fun h2=>h1 ⟨by omega,?_⟩
 rw [z6 (by omega),h2.2]
theorem Iw (c:UInt8):dD c [c]=0:=by unfold dD; simp
theorem zE (s pr:List UInt8) (w:World) (hs:s.length≤1099511627776) (hp:pr.length≤1099511627776):
 aU Tryz.prog 129 (List.toArray [str s,str pr]) w (fun v w'=>v= .bool (decide (s.take pr.length=pr))∧Wk w w'):=by
 refine enter Tryz.func129 rfl Tryz.ntmps129 rfl ?_
 refine U (fun _ i=>(aj (((i _ _ (U (fun _ a=>(ag (str s) ?_))))))))
 refine p (bK u9 rfl rfl) (ag (str pr) (p (bK u9 rfl rfl) (p (ge rfl rfl) (p mv (gs (t:=10) rfl (fun hg10=> ?_) (fun hg10=> ?_))))))
 refine pg rfl rfl rfl (aC (str s) rfl) (pg rfl rfl rfl (aC (str pr) rfl) (pg rfl rfl rfl (bK u9 rfl rfl) (pg rfl rfl rfl (rh u9 rfl rfl (by omega)) (pg rfl rfl rfl (aC (str pr) rfl) (pg rfl rfl rfl (cI rfl rfl) (p (bg rfl) (p ak ?_)))))))
 exact au ((a _ _ (rt (f1 rfl rfl (⟨rfl,Md.refl _ _⟩)))))
 refine sk rfl rfl rfl rfl (sk rfl rfl rfl rfl (sk rfl rfl rfl rfl (sk rfl rfl rfl rfl (sk rfl rfl rfl rfl (sk rfl rfl rfl rfl (p (a5 rfl) (p ak ?_)))))))
 exact au ((a _ _ (rt (f1 rfl rfl (⟨by show Value.bool false =_; rw [decide_eq_false (fun h=>by have :=uL h; omega)],Md.refl _ _⟩)))))
theorem LP (s pr:List UInt8) (w:World) (hs:s.length≤1099511627776) (hp:pr.length≤1099511627776):
 aU Tryz.prog 111 (List.toArray [str s,str pr]) w (fun v w'=>v=str (eW s pr)∧Wk w w'):=by
 refine enter Tryz.func111 rfl Tryz.ntmps111 rfl ?_
 refine U (fun _ j=>(aj (((j _ _ (sq (fun _ q=>U (fun _ A=> ?_))))))))
 refine ag (str s) (ag (str pr) (e (cl xl (zE s pr _ hs hp) rfl fun C w7 hR7=> ?_)))
 obtain ⟨rfl,hE7⟩:=hR7
 refine au ((A _ _ (cb rfl (fun i=> ?_) (fun i=> ?_))))
 have hpp:=of_decide_eq_true i
 have hpl:=uL hpp
 refine U (fun _ a=>(ag (str s) (ag (str pr) (p (bK u9 rfl rfl) (p (kJ u9 rfl rfl (by omega)) (p ak (nl ?_)))))))
 exact tn (a _ _ (rt (tr (f1 rfl rfl (⟨by show str (s.drop (pr.length:Int).toNat)=_; unfold eW; rw [if_pos hpp]; rfl,hE7⟩)))))
 have hpp:=of_decide_eq_false i
 refine az (tn (q _ _ (U (fun _ a=>(ag (str s) (p (bF (str s) rfl) (au ((a _ _ ?_)))))))))
 exact rt (f1 rfl rfl (⟨by show str s=_; unfold eW; rw [if_neg hpp],hE7⟩))
theorem LQ (s pr:List UInt8) (w:World) (hs:s.length≤1099511627776) (hp:pr.length≤1099511627776):
 aU Tryz.prog 89 (List.toArray [str s,str pr]) w (fun v w'=>v=str (eW s pr)∧Wk w w'):=by
 refine enter Tryz.func89 rfl Tryz.ntmps89 rfl ?_
 refine U (fun _ a=>(aj (((a _ _ (U (fun _ i=>(ag (str s) ?_))))))))
 refine ag (str pr) (e (cl Dh (LP s pr _ hs hp) rfl fun j w7 hR7=> ?_))
 obtain ⟨rfl,hE7⟩:=hR7
 exact aj (((i _ _ (rt (f1 rfl rfl (⟨rfl,hE7⟩))))))
theorem HF (s pr:List UInt8) (w:World) (hs:s.length≤1099511627776) (hp:pr.length≤1099511627776):
 aU Tryz.prog 131 (List.toArray [str s,str pr]) w (fun v w'=>v= .bool (decide (pr.length≤s.length∧s.drop (s.length - pr.length)=pr))∧Wk w w'):=by
 refine enter Tryz.func131 rfl Tryz.ntmps131 rfl ?_
 refine U (fun _ i=>(aj (((i _ _ (U (fun _ a=>(ag (str s) ?_))))))))
 refine p (bK u9 rfl rfl) (ag (str pr) (p (bK u9 rfl rfl) (p (ge rfl rfl) (p mv (gs (t:=10) rfl (fun hg10=> ?_) (fun hg10=> ?_))))))
 refine pg rfl rfl rfl (aC (str s) rfl) (pg rfl rfl rfl (aC (str s) rfl) (pg rfl rfl rfl (bK u9 rfl rfl) (pg rfl rfl rfl (aC (str pr) rfl) (pg rfl rfl rfl (bK u9 rfl rfl) (pg rfl rfl rfl (sb rfl rfl (bm (by omega))) (pg rfl rfl rfl (kJ u9 rfl rfl (by omega)) (pg rfl rfl rfl (aC (str pr) rfl) ?_)))))))
 exact pg rfl rfl rfl (cI rfl rfl) (p (bg rfl) (aj (((a _ _ (rt (f1 rfl rfl (⟨by show Value.bool (decide (s.drop ((s.length:Int) - (pr.length:Int)).toNat=pr))=_; rw [show ((s.length:Int) - (pr.length:Int)).toNat=s.length - pr.length from by omega]; exact bv (by constructor <;> intro h <;> first | exact ⟨by omega,h⟩ | exact h.2),Md.refl _ _⟩))))))))
 refine sk rfl rfl rfl rfl (sk rfl rfl rfl rfl (sk rfl rfl rfl rfl (sk rfl rfl rfl rfl (sk rfl rfl rfl rfl (sk rfl rfl rfl rfl (sk rfl rfl rfl rfl (sk rfl rfl rfl rfl ?_)))))))
 exact sk rfl rfl rfl rfl (p (a5 rfl) (aj (((a _ _ (rt (f1 rfl rfl (⟨by show Value.bool false =_; rw [decide_eq_false (by omega)],Md.refl _ _⟩))))))))
theorem LR (s:List UInt8) (w:World) (hs:s.length≤1099511627776):
 aU Tryz.prog 113 (List.toArray [str s,str [13]]) w (fun v w'=>v=str (gd s)∧Wk w w'):=by
 refine enter Tryz.func113 rfl Tryz.ntmps113 rfl ?_
 refine U (fun _ j=>(aj (((j _ _ (sq (fun _ q=>U (fun _ A=> ?_))))))))
 refine ag (str s) (ag (str [13]) (e (cl Du (HF s [13] _ hs (by decide)) rfl fun C w7 hR7=> ?_)))
 obtain ⟨rfl,hE7⟩:=hR7
 refine au ((A _ _ (cb rfl (fun a=> ?_) (fun a=> ?_))))
 have hpl:=(of_decide_eq_true a).1
 have hl1:([13]:List UInt8).length=1:=rfl
 refine U (fun _ i=>(ag (str s) (ag (str s) (p (bK u9 rfl rfl) (ag (str [13]) (p (bK u9 rfl rfl) (p (sb rfl rfl (bm (by omega))) ?_)))))))
 exact p (rh u9 rfl rfl (by omega)) (aj (((i _ _ (rt (tr (f1 rfl rfl (⟨by show str (s.take ((s.length:Int) - (([13]:List UInt8).length:Int)).toNat)=_; rw [LC a,show ((s.length:Int) - (([13]:List UInt8).length:Int)).toNat=s.length - 1 from by simp only [List.length_singleton]; omega],hE7⟩))))))))
 refine az (tn (q _ _ (U (fun _ i=>(ag (str s) (p (bF (str s) rfl) (au ((i _ _ ?_)))))))))
 exact rt (f1 rfl rfl (⟨by show str s=_; rw [LD a],hE7⟩))
theorem LS (s:List UInt8) (w:World) (hs:s.length≤1099511627776):
 aU Tryz.prog 91 (List.toArray [str s,str [13]]) w (fun v w'=>v=str (gd s)∧Wk w w'):=by
 refine enter Tryz.func91 rfl Tryz.ntmps91 rfl ?_
 refine U (fun _ a=>(aj (((a _ _ (U (fun _ i=>(ag (str s) ?_))))))))
 refine ag (str [13]) (e (cl Dj (LR s _ hs) rfl fun j w7 hR7=> ?_))
 obtain ⟨rfl,hE7⟩:=hR7
 exact aj (((i _ _ (rt (f1 rfl rfl (⟨rfl,hE7⟩))))))
theorem zT (s:List UInt8) (c:UInt8) (w:World):
 aU Tryz.prog 144 (List.toArray [str s,.int .u8 c.toNat]) w (fun v w'=>v= .int .i64 (dD c s)∧Wk w w'):=by
 refine enter Tryz.func144 rfl Tryz.ntmps144 rfl ?_
 refine U (fun _ a=>(aj (((a _ _ (U (fun _ i=>(ag (str s) ?_))))))))
 exact ag (.int .u8 c.toNat) (p (xW (Ix s c _) rfl) (aj (((i _ _ (rt (f1 rfl rfl (⟨rfl,Md.refl _ _⟩))))))))
theorem zS (s:List UInt8) (c:UInt8) (w:World):
 aU Tryz.prog 130 (List.toArray [str s,str [c]]) w (fun v w'=>v= .int .i64 (dD c s)∧Wk w w'):=by
 refine enter Tryz.func130 rfl Tryz.ntmps130 rfl ?_
 refine U (fun _ j=>(aj (((j _ _ (U (fun _ q=>(ag (str [c]) ?_))))))))
 refine p (bK u9 rfl rfl) (aj (((q _ _ (sq (fun _ I=>aA (U (fun _ A=> ?_))))))))
 refine p mv (p (bf rfl rfl) (p mv (gs (t:=19) rfl (fun h=>absurd h (by simp)) (fun M=> ?_))))
 refine pg rfl rfl rfl (aC (str [c]) rfl) (pg rfl rfl rfl (aC (str s) rfl) (pg rfl rfl rfl (cI rfl rfl) (p (a5 rfl) (aj (((A _ _ (cd rfl (fun i=> ?_) (fun i=> ?_)))))))))
 refine U (fun _ a=>(aj (((a _ _ (rt (br (tr ?_))))))))
 exact f1 rfl rfl (⟨by show Value.int .i64 0=_; rw [← i,Iw],Md.refl _ _⟩)
 refine U (fun _ a=>(p mv (p (bf rfl rfl) (aj (((a _ _ (cd rfl (fun J=> ?_) (fun h=>absurd rfl h)))))))))
 refine U (fun _ C=>(ag (str s) (ag (str [c]) (p (fD 0 u9 rfl rfl (by simp)) (e (cl pP (zT s c _) rfl fun v30 w30 G=> ?_))))))
 obtain ⟨rfl,E⟩:=G
 exact aj (((C _ _ (rt (br (tr (f1 rfl rfl (⟨rfl,E⟩))))))))
theorem Ih (s:List UInt8) (c:UInt8) (w:World):
 aU Tryz.prog 173 (List.toArray [str s,str [c]]) w (fun v w'=>v= .int .i64 (dD c s)∧Wk w w'):=by
 refine enter Tryz.func173 rfl Tryz.ntmps173 rfl ?_
 refine U (fun _ a=>(aj (((a _ _ (U (fun _ i=>(ag (str s) ?_))))))))
 refine ag (str [c]) (e (cl xm (zS s c _) rfl fun j w7 hR7=> ?_))
 obtain ⟨rfl,hE7⟩:=hR7
 exact aj (((i _ _ (rt (f1 rfl rfl (⟨rfl,hE7⟩))))))
theorem Fz (s:List UInt8) (c:UInt8) (w:World) (hs:s.length≤1099511627776):
 aU Tryz.prog 112 (List.toArray [str s,str [c]]) w (fun v w'=>v= .tuple #[str (jh c s),str (jW c s),.bool (!decide (dD c s < 0))]∧Wk w w'):=by
 refine enter Tryz.func112 rfl Tryz.ntmps112 rfl ?_
 refine U (fun _ q=>(p ak (p ak (aj (((q _ _ (sq (fun _ A=> ?_)))))))))
 refine U (fun _ C=>(ag (str s) (ag (str [c]) (e (cl xm (zS s c _) rfl fun v10 w10 hR10=> ?_)))))
 obtain ⟨rfl,j⟩:=hR10
 refine aj (((C _ _ (U (fun _ E=>(p mv (p (ge rfl rfl) (nl ?_))))))))
 refine tn (E _ _ (cd rfl (fun G=> ?_) (fun G=> ?_)))
 have hix:=mK (c:=c) (l:=s) (by omega)
 have hl1:[c].length=1:=rfl
 refine sq (fun _ i=> ?_)
 have a:(fun w'=>Wk w10 w') w10.drew:=(Md.refl _ _).drew
 refine bD (fun w'=>Wk w10 w') rfl wide a (bd 0 rfl (str s) a (aB 1 rfl (fun _ _=>mv) a (aB 2 rfl (fun _ _=>rh u9 rfl rfl (by omega)) a (bd 3 rfl (str s) a (aB 4 rfl (fun _ _=>mv) a (bd 5 rfl (str [c]) a (aB 6 rfl (fun _ _=>bK u9 rfl rfl) a ?_)))))))
 refine aB 7 rfl (fun _ _=>bc ((s.idxOf c+1:Nat):Int) rfl rfl (aR (by omega) (by omega))) a (aB 8 rfl (fun _ _=>kJ u9 rfl rfl (by omega)) a (aB 9 rfl (fun _ _=>ak) a (aB 10 rfl (fun _ _=>ak) a (aB 11 rfl (fun _ _=>ak) a (hn (by kernel_rfl) (tn (i _ _ (rt ?_))))))))
 exact tr (f3 rfl rfl rfl rfl (⟨by show Value.tuple #[str (s.take (dD c s).toNat),str (s.drop (s.idxOf c+1)),.bool true]=_; unfold jh jW; rw [if_neg (by omega),if_neg (by omega),hix.1,decide_eq_false (by omega)]; rfl,Md.trans j (Md.refl _ _).drew⟩))
 refine az (tn (A _ _ (U (fun _ i=>(ag (str s) (p (bF (str s) rfl) (p ak (p ak ?_))))))))
 exact au ((i _ _ (rt (f3 rfl rfl rfl rfl (⟨by show Value.tuple #[str s,str [],.bool false]=_; unfold jh jW; rw [if_pos (by omega),if_pos (by omega),decide_eq_true (by omega)]; rfl,j⟩)))))
theorem FD (s:List UInt8) (c:UInt8) (w:World) (hs:s.length≤1099511627776):
 aU Tryz.prog 90 (List.toArray [str s,str [c]]) w (fun v w'=>v= .tuple #[str (jh c s),str (jW c s),.bool (!decide (dD c s < 0))]∧Wk w w'):=by
 refine enter Tryz.func90 rfl Tryz.ntmps90 rfl ?_
 refine U (fun _ a=>(p ak (p ak (aj (((a _ _ (sq (fun _ i=> ?_)))))))))
 refine rg rfl (ag (str s) (ag (str [c]) (e (cl Di (Fz s c _ hs) rfl fun v9 w9 hR9=> ?_))))
 obtain ⟨rfl,j⟩:=hR9
 refine p (xt rfl rfl) (p (xt rfl rfl) (p (xt rfl rfl) (p ak (p ak (aj (((i _ _ ?_))))))))
 exact rt (f3 rfl rfl rfl rfl (⟨rfl,j⟩))
end Go.Hb.fS
end
