/-
  Walks and plain laws that the law rests on, laid together. No conditions but those that each theorem names.
-/
import Derived.Test.YtkiemnnhcilhpaaGreatDoorMnDicFinds1
set_option linter.unusedVariables false
section
namespace Go.Hb
abbrev Tx:Type :=List UInt8
structure bV where
 flag:Nat
 kind:Nat
 dW:Bool
 first :Nat
 count:Nat
structure eH where
 kind:Nat
 flag:Nat
 dW:Bool
 strip:Tx
 add:Tx
 cond:Tx
 next :List Nat
 line:Nat
structure aH where
 kind:Nat
 mx:Tx
 tr:Tx
 sp:List Nat
 least:Nat
 bL:List (Tx×Tx)
 aliases:List (List Nat)
 aX:List bV
 rules:List eH
def eM:Tx:= [70,76,65,71]
def eZ:Tx:= [83,69,84]
def fk:Tx:= [84,82,89]
def gv:Tx:= [78,69,69,68,65,70,70,73,88]
def gF:Tx:= [70,79,82,66,73,68,68,69,78,87,79,82,68]
def gP:Tx:= [75,69,69,80,67,65,83,69]
def g6:Tx:= [67,79,77,80,79,85,78,68,70,76,65,71]
def im:Tx:= [78,79,83,85,71,71,69,83,84]
def gu:Tx:= [67,79,77,80,79,85,78,68,77,73,78]
def dD:Tx:= [82,69,80]
def db:Tx:= [65,70]
def dP:Tx:= [80,70,88]
def bO:Tx:= [83,70,88]
def mH:Tx:= [115,104,111,114,116]
def nm:Tx:= [108,111,110,103]
def ou:Tx:= [110,117,109]
def cJ:List Tx:= [gv,gF,gP,g6,im]
def width (k:Tx):Nat:=if k∈cJ∨k=eM∨k=eZ∨k=fk∨k=gu∨k=dD∨k=db then 2 else if k=dP∨k=bO then 4 else 0
def eX (w:Tx):Nat:=if w= []∨eh w=false then 21 else if 32 < w.length then 22 else 0
def dq (none:Bool) (fd:Tx):Except Nat Tx:=
 if none=true∧fd= [48] then .ok []
 else if (aV fd).2.2.2≠0 then .error (aV fd).2.2.2
 else if (aV fd).2.2.1=true then .error 114
 else if eX (aV fd).1≠0 then .error (eX (aV fd).1)
 else .ok (aV fd).1
def dJ (cs:List bV) (x:Nat):Option bV:=cs.find? fun c=>decide (c.flag=x)
def dw (f:aH) (x:Nat):Bool:=decide (x∈f.sp) || (dJ f.aX x).isSome
noncomputable def eC (f:aH) (s:Tx):Except Nat Nat:=
 if (eB f.kind s).2≠0 then .error (eB f.kind s).2 else if dw f (eB f.kind s).1=true then .error 115 else .ok (eB f.kind s).1
noncomputable def iL (kind:Nat) (s:Tx):Except Nat (List Nat):=if (cU kind s).2≠0 then .error (cU kind s).2 else .ok (cU kind s).1
noncomputable def dy (s:Tx) (most:Int):Except Nat Nat:=if (cH s most).2≠0 then .error 13 else .ok (cH s most).1
noncomputable def ec (kind:Nat) (al:List (List Nat)) (s:Tx):Except Nat (List Nat):=
 if al= [] then iL kind s
 else match dy s al.length with
  | .error _=> .error 13
  | .ok n=>if n=0 then .error 13 else .ok (al.getD (n - 1) [])
noncomputable def g9 (kind:Nat) (al:List (List Nat)) (a:Nat) (r:iz):Except Nat (List Nat):=
 if r.2.2.1=true then (if a=1 then .error 118 else ec kind al r.2.1) else .ok []
def ic (row:List Tx):Except Nat Tx:=
 if row.length=5 then (if eh (row.getD 4 [])=false then .error 21 else if (cA (row.getD 4 [])).2≠0 then .error (cA (row.getD 4 [])).2 else .ok (jJ (cA (row.getD 4 [])).1)) else .ok [46]
def gM (r:iz):Except Nat Tx:=if r.2.2.2≠0 then .error r.2.2.2 else if r.1= [48] then .ok [] else if eX r.1≠0 then .error (eX r.1) else .ok r.1
noncomputable def ew (kind:Nat) (al:List (List Nat)) (c:bV) (ln:Nat) (row:List Tx):Except Nat eH:=
 if row.length≠4∧row.length≠5 then .error 111
 else match dq true (row.getD 2 []) with
  | .error e=> .error e
  | .ok st=>match gM (aV (row.getD 3 [])) with
    | .error e=> .error e
    | .ok ad=>match g9 kind al c.kind (aV (row.getD 3 [])) with
      | .error e=> .error e
      | .ok nx=>match ic row with
        | .error e=> .error e
        | .ok cd=> .ok ⟨c.kind,c.flag,c.dW,st,ad,cd,nx,ln⟩
def gH (ln:Nat) (row:List Tx):Except Nat (Tx×Tx):=
 if row.length≠3 then .error 111
 else match dq false (row.getD 1 []) with
  | .error e=> .error e
  | .ok a=>match dq true (row.getD 2 []) with
    | .error e=> .error e
    | .ok b=> .ok (a,b)
noncomputable def gN (kind:Nat) (ln:Nat) (row:List Tx):Except Nat (List Nat):=if row.length≠2 then .error 111 else iL kind (row.getD 1 [])
def group {α:Type} (hd:List Tx) (rd:Nat→List Tx→Except Nat α) (eof:Nat):Nat→List Rw→Except (Nat×Nat) (List α×List Rw)
 | 0,rows=> .ok ([],rows)
 | _+1,[]=> .error (eof,116)
 | n+1,(ln,row)::rows=>if row.take hd.length≠hd then .error (ln,116) else match rd ln row with
   | .error e=> .error (ln,e)
   | .ok x=>match group hd rd eof n rows with
     | .error e=> .error e
     | .ok r=> .ok (x::r.1,r.2)
def fS (s:Tx):Nat:=if s=mH then 1 else if s=nm then 2 else if s=ou then 3 else 0
def ordered (hs:List Tx):Bool:= !hs.any fun h=>decide (h∈cJ∨h=db∨h=dP∨h=bO)
noncomputable def eK (eof:Nat) (f:aH) (rows:List Rw) (ln:Nat) (row:List Tx):Except (Nat×Nat) (aH×List Rw):=
 match eC f (row.getD 1 []) with
 | .error e=> .error (ln,e)
 | .ok x=>if row.getD 2 []≠[89]∧row.getD 2 []≠[78] then .error (ln,114)
   else match dy (row.getD 3 []) 1024 with
    | .error e=> .error (ln,e)
    | .ok n=>if 1024 < f.rules.length+n then .error (ln,117)
      else match group [row.getD 0 [],row.getD 1 []] (ew f.kind f.aliases ⟨x,if row.getD 0 []=bO then 2 else 1,decide (row.getD 2 []= [89]),f.rules.length,n⟩) eof n rows with
       | .error e=> .error e
       | .ok r=> .ok ({f with aX:=f.aX++ [⟨x,if row.getD 0 []=bO then 2 else 1,decide (row.getD 2 []= [89]),f.rules.length,n⟩],rules:=f.rules++r.1},r.2)
noncomputable def gK (f:aH) (rows:List Rw) (ln:Nat) (row:List Tx):Except (Nat×Nat) (aH×List Rw):=
 match eC f (row.getD 1 []) with
 | .error e=> .error (ln,e)
 | .ok x=> .ok ({f with sp:=f.sp.set (cJ.idxOf (row.getD 0 [])) x},rows)
def gQ (f:aH) (hs:List Tx) (rows:List Rw) (ln:Nat) (row:List Tx):Except (Nat×Nat) (aH×List Rw):=
 if ordered hs=false then .error (ln,113) else if fS (row.getD 1 [])=0 then .error (ln,114) else .ok ({f with kind:=fS (row.getD 1 [])},rows)
def jH (f:aH) (rows:List Rw) (ln:Nat) (row:List Tx):Except (Nat×Nat) (aH×List Rw):=
 if eh (row.getD 1 [])=false then .error (ln,21) else .ok ({f with mx:=row.getD 1 []},rows)
def jM (f:aH) (rows:List Rw) (ln:Nat) (row:List Tx):Except (Nat×Nat) (aH×List Rw):=
 if (letE (row.getD 1 [])).2≠0 then .error (ln,(letE (row.getD 1 [])).2) else .ok ({f with tr:=(letE (row.getD 1 [])).1},rows)
noncomputable def g8 (f:aH) (rows:List Rw) (ln:Nat) (row:List Tx):Except (Nat×Nat) (aH×List Rw):=
 match dy (row.getD 1 []) 64 with
 | .error e=> .error (ln,e)
 | .ok n=>if n=0 then .error (ln,13) else .ok ({f with least:=n},rows)
noncomputable def gI (eof:Nat) (f:aH) (rows:List Rw) (ln:Nat) (row:List Tx):Except (Nat×Nat) (aH×List Rw):=
 match dy (row.getD 1 []) 256 with
 | .error e=> .error (ln,e)
 | .ok n=>match group [dD] gH eof n rows with
   | .error e=> .error e
   | .ok r=> .ok ({f with bL:=f.bL++r.1},r.2)
noncomputable def gn (eof:Nat) (f:aH) (hs:List Tx) (rows:List Rw) (ln:Nat) (row:List Tx):Except (Nat×Nat) (aH×List Rw):=
 if dP∈hs∨bO∈hs then .error (ln,113)
 else match dy (row.getD 1 []) 1024 with
  | .error e=> .error (ln,e)
  | .ok n=>match group [db] (gN f.kind) eof n rows with
    | .error e=> .error e
    | .ok r=> .ok ({f with aliases:=f.aliases++r.1},r.2)
noncomputable def bz (eof:Nat) (f:aH) (hs:List Tx) (rows:List Rw) (ln:Nat) (row:List Tx):Except (Nat×Nat) (aH×List Rw):=
 if row.getD 0 []∈cJ then gK f rows ln row
 else if row.getD 0 []=eM then gQ f hs rows ln row
 else if row.getD 0 []=eZ then jH f rows ln row
 else if row.getD 0 []=fk then jM f rows ln row
 else if row.getD 0 []=gu then g8 f rows ln row
 else if row.getD 0 []=dD then gI eof f rows ln row
 else if row.getD 0 []=db then gn eof f hs rows ln row
 else eK eof f rows ln row
noncomputable def eE (eof:Nat):Nat→aH→List Tx→List Rw→Except (Nat×Nat) aH
 | 0,f,_,rows=>if rows= [] then .ok f else .error (0,0)
 | _+1,f,_,[]=> .ok f
 | k+1,f,hs,(ln,row)::rows=>
   if width (row.getD 0 [])=0 then .error (ln,110)
   else if row.length≠width (row.getD 0 []) then .error (ln,111)
   else if width (row.getD 0 [])=2∧row.getD 0 []∈hs then .error (ln,112)
   else match bz eof f hs rows ln row with
    | .error e=> .error e
    | .ok r=>eE eof k r.1 (hs++ [row.getD 0 []]) r.2
def jg (f:aH) (x:Nat):Bool:=decide (x=f.sp.getD 0 0) || (match dJ f.aX x with | some c=>decide (c.kind=2) | none=>false)
def jR (f:aH) (r:eH):Bool:=r.next.any fun x=> !jg f x
def fG:aH:=⟨1,[],[],[0,0,0,0,0],3,[],[],[],[]⟩
noncomputable def eJ (t:Tx):Except (Nat×Nat) aH:=
 if 65536 < t.length then .error (0,10)
 else match eE ((a6 t).length+1) (bd t).length fG [] (bd t) with
  | .error e=> .error e
  | .ok f=>match f.rules.find? (jR f) with
    | some r=> .error (r.line,118)
    | none=> .ok f
theorem tM {α:Type} {hd:List Tx} {rd:Nat→List Tx→Except Nat α} {eof:Nat} :∀ (n:Nat) (rows:List Rw) (r:List α×List Rw),group hd rd eof n rows= .ok r→r.2.length≤rows.length∧r.1.length=n∧∀ q∈r.2,q∈rows:=by
 intro n
 induction n with
 | zero=>intro rows r h; simp only [group,Except.ok.injEq] at h; subst h; exact ⟨Nat.le_refl _,rfl,fun q a=>a⟩
 | succ n ih=>
   intro rows r h
   cases rows with
   | nil=>simp [group] at h
   | cons q rows=>
     obtain ⟨ln,row⟩:=q
     simp only [group] at h
     split at h
     · cases h
     · cases hr:rd ln row with
       | error e=>rw [hr] at h; cases h
       | ok x=>
         rw [hr] at h
         simp only at h
         cases hg:group hd rd eof n rows with
         | error e=>rw [hg] at h; cases h
         | ok i=>
           rw [hg] at h
           simp only [Except.ok.injEq] at h
           subst h
           have :=ih rows i hg
           refine ⟨by simp only [List.length_cons]; omega,by simp only [List.length_cons]; omega,fun q a=>List.mem_cons_of_mem _ (this.2.2 q a)⟩
def fu {α:Type} (hd:List Tx) (rd:Nat→List Tx→Except Nat α) (eof:Nat) (T:Except (Nat×Nat) (List α×List Rw)) (xs:List α) (n:Nat) (rows:List Rw):Prop :=
 T=match group hd rd eof n rows with
  | .error e=> .error e
  | .ok r=> .ok (xs++r.1,r.2)
theorem fu.start {α:Type} {hd:List Tx} {rd:Nat→List Tx→Except Nat α} {eof n:Nat} {rows:List Rw} :fu hd rd eof (group hd rd eof n rows) [] n rows:=by
 unfold fu; cases group hd rd eof n rows <;> rfl
section
variable {α:Type} {hd:List Tx} {rd:Nat→List Tx→Except Nat α} {eof n:Nat} {T:Except (Nat×Nat) (List α×List Rw)} {xs:List α} {rows:List Rw} {ln:Nat} {row:List Tx}
theorem fu.ends (h:fu hd rd eof T xs n []) (hn:0 < n):T= .error (eof,116):=by
 obtain ⟨m,rfl⟩:∃ m,n=m+1:=⟨n - 1,by omega⟩
 exact h
theorem fu.other (h:fu hd rd eof T xs n ((ln,row)::rows)) (hn:0 < n) (hr:row.take hd.length≠hd):T= .error (ln,116):=by
 obtain ⟨m,rfl⟩:∃ m,n=m+1:=⟨n - 1,by omega⟩
 unfold fu at h; simp only [group] at h; rw [if_pos hr] at h; exact h
theorem fu.bad {e:Nat} (h:fu hd rd eof T xs n ((ln,row)::rows)) (hn:0 < n) (hr:row.take hd.length=hd) (he:rd ln row= .error e):T= .error (ln,e):=by
 obtain ⟨m,rfl⟩:∃ m,n=m+1:=⟨n - 1,by omega⟩
 unfold fu at h; simp only [group] at h; rw [if_neg (fun h2=>h2 hr),he] at h; exact h
theorem fu.step {x:α} (h:fu hd rd eof T xs n ((ln,row)::rows)) (hn:0 < n) (hr:row.take hd.length=hd) (he:rd ln row= .ok x):fu hd rd eof T (xs++ [x]) (n - 1) rows:=by
 obtain ⟨m,rfl⟩:∃ m,n=m+1:=⟨n - 1,by omega⟩
 unfold fu at h ⊢; simp only [group] at h; rw [if_neg (fun h2=>h2 hr),he] at h
 simp only [Nat.add_sub_cancel] at h ⊢
 rw [h]
 cases group hd rd eof m rows with
 | error e=>rfl
 | ok r=>simp only [List.append_assoc]; rfl
theorem fu.done (h:fu hd rd eof T xs 0 rows):T= .ok (xs,rows):=by
 unfold fu at h; simpa [group] using h
end
end Go.Hb
end
section
set_option linter.unusedSimpArgs false
namespace Go.Hb
open Go.RowKit
open Classical
structure kb (P:Program) (k:TypeId) (isK:Value→Prop):Prop where
 key:o3 P k isK
 stays:∀ w v,isK v→(Instr.keyThatStays v v).run P w= .ok v w
def fK (v:Value):Prop := ∃ s:List UInt8,v=str s
def k4 (q:IntKind) (v:Value):Prop := ∃ a:Int,v= .int q a
theorem yO {d:TypeDesc} {isK:Value→Prop} (hs:∀ x y,isK x→isK y→∃ a,Instr.sameNow d x y=some a∧(a=true↔x=y)) {x:Value} (q:isK x):∀ (es:List MapEntry) (i:Nat),(∀ e∈es,isK e.key)→
 (Instr.findNow d x es i=some none∧∀ e∈es,e.key≠x)∨∃ j e,Instr.findNow d x es i=some (some (i+j,e.val))∧es[j]? =some e∧e.key=x
 | [],i,_=> .inl ⟨rfl,fun _ h=>by simp at h⟩
 | e::es,i,h=>by
   obtain ⟨a,h1,h2⟩:=hs x e.key q (h e (by simp))
   cases a with
   | true =>exact .inr ⟨0,e,by simp [Instr.findNow,h1],rfl,(h2.1 rfl).symm⟩
   | false =>
     have hne:e.key≠x:=fun hh=>by cases h2.2 hh.symm
     rcases yO hs q es (i+1) (fun e he=>h e (by simp [he])) with ⟨h3,h4⟩ | ⟨j,e',h3,h4,h5⟩
     · refine .inl ⟨by simp [Instr.findNow,h1,h3],fun e' p=> ?_⟩
       rcases List.mem_cons.1 p with rfl | p
       · exact hne
       · exact h4 e' p
     · refine .inr ⟨j+1,e',?_,h4,h5⟩
       simp only [Instr.findNow,h1,h3]; rw [show i+1 +j=i+(j+1) from by omega]
theorem zZ {P:Program} {k:TypeId} {d:TypeDesc} {isK:Value→Prop} (hk:P.underlying k=some d) (hs:∀ x y,isK x→isK y→∃ a,Instr.sameNow d x y=some a∧(a=true↔x=y)) (hc:∀ em w v,isK v→(Instr.checkKey em 10000 k v).run P w= .ok () w):o3 P k isK where
 check:=hc
 find w x es hx hes:=by
  rcases yO hs hx es 0 hes with ⟨h1,h2⟩ | ⟨j,e,h1,h2,h3⟩
  · exact .inl ⟨by simp [Instr.findKey,dd hk,h1],h2⟩
  · exact .inr ⟨j,e,by simp [Instr.findKey,dd hk,h1],h2,h3⟩
theorem wu (a b:ByteArray):(a==b)=decide (a=b):=by
 rw [Bool.eq_iff_iff,decide_eq_true_iff]
 show ((a.data==b.data)=true)↔_
 rw [beq_iff_eq]
 exact ⟨fun h=>by cases a; cases b; cases h; rfl,fun h=>by rw [h]⟩
theorem Iw {P:Program} {k:TypeId} (hk:P.underlying k=some .string):kb P k fK where
 key:=zZ hk (by
  rintro _ _ ⟨a,rfl⟩ ⟨b,rfl⟩
  refine ⟨_,rfl,?_⟩
  rw [wu,decide_eq_true_iff]
  constructor
  · intro h; unfold str; rw [h]
  · intro h; unfold str at h; cases h; rfl) (by rintro em w _ ⟨a,rfl⟩; exact Ew (n:=9999) hk w)
 stays w v hv:=by obtain ⟨a,rfl⟩:=hv; simp [Instr.keyThatStays,Instr.sameBits,str,wu]
theorem Ev {P:Program} {k:TypeId} {q r:IntKind} {em:Bool} {n:Nat} {a:Int} (hk:P.underlying k=some (.int q)) (w:World):(Instr.checkKey em (n+1) k (.int r a)).run P w= .ok () w:=by
 simp only [Instr.checkKey,Sem.run_bind,dd hk,Result.andThen_ok,Sem.run_pure]
theorem Iv {P:Program} {k:TypeId} {q r:IntKind} (hk:P.underlying k=some (.int q)):kb P k (k4 r) where
 key:=zZ hk (by
  rintro _ _ ⟨a,rfl⟩ ⟨b,rfl⟩
  refine ⟨decide (a=b),by simp [Instr.sameNow]; rfl,?_⟩
  rw [decide_eq_true_iff]
  exact ⟨fun h=>by rw [h],fun h=>by cases h; rfl⟩) (by rintro em w _ ⟨a,rfl⟩; exact Ev (n:=9999) hk w)
 stays w v hv:=by obtain ⟨a,rfl⟩:=hv; simp [Instr.keyThatStays,Instr.sameBits]
def bN (h:Array Obj) (b:Nat) (isK:Value→Prop) (f:Value→Option Value):Prop :=
 ∃ kvs,mg h b kvs∧(∀ p∈kvs,isK p.1)∧(kvs.map Prod.fst).Nodup∧∀ k v,f k=some v↔(k,v)∈kvs
theorem bN.md {F:Nat→Prop} {w w':World} {b:Nat} {isK:Value→Prop} {f:Value→Option Value} (h:bN w.heap b isK f) (hm:Md F w w') (hf:¬F b):bN w'.heap b isK f:=
 let ⟨kvs,h1,h2⟩:=h; ⟨kvs,h1.md hm hf,h2⟩
theorem bN.wk {w w':World} {b:Nat} {isK:Value→Prop} {f:Value→Option Value} (h:bN w.heap b isK f) (hm:Wk w w'):bN w'.heap b isK f:=h.md hm id
theorem bN.nil {h:Array Obj} {b:Nat} {isK:Value→Prop} {c:Nat} (hm:h[b]? =some (.map #[] c)):bN h b isK fun _=>none:=
 ⟨[],⟨_,_,hm,rfl⟩,fun p hp=>(by simp at hp),(by simp),fun k v=>(by simp)⟩
theorem bN.isMap {h:Array Obj} {b:Nat} {isK:Value→Prop} {f:Value→Option Value} (hm:bN h b isK f):∃ es c,h[b]? =some (.map es c):=let ⟨_,⟨es,c,h1,_⟩,_⟩:=hm; ⟨es,c,h1⟩
theorem bN.k6 {h:Array Obj} {b:Nat} {isK:Value→Prop} {f:Value→Option Value} (hm:bN h b isK f) {cur:Array Value} {e:TypeId} {z:Nat×Nat} :h[b]?≠some (.cells cur e z):=by
 obtain ⟨es,c,h1⟩:=hm.isMap; rw [h1]; intro h; cases h
noncomputable def bg (f:Value→Option Value) (k v:Value):Value→Option Value:=fun q=>if q=k then some v else f q
theorem oF (f:Value→Option Value) (k v:Value):bg f k v k=some v:=if_pos rfl
theorem nv {f:Value→Option Value} {k v q:Value} (h:q≠k):bg f k v q=f q:=if_neg h
section
variable {P:Program} {N:Fm} {σ:Nat→Value} {w:World} {dst:Option Nat} {ty:TypeId} {pos :String} {af:Array Edge} {g:Option (Nat×Bool)} {x y z:Operand} {K:(Nat→Value)→World→Prop}
variable {t k e:TypeId} {isK:Value→Prop} {b:Nat} {f:Value→Option Value} {kx v zv:Value}
theorem Aa {ok:Bool} (i:P.underlying t=some (.map k e)) (hz:zeroV P e=some zv) (a:kb P k isK) (hm:bN w.heap b isK f) (j:ev N σ x= .map (some b)) (hy:ev N σ y=kx) (hi:isK kx):
 (execOp (ev N σ) ⟨dst,.lookup t x y ok,ty,pos,af,g⟩).run P w= .ok (.value (if ok then .tuple #[(f kx).getD zv,.bool (f kx).isSome] else (f kx).getD zv)) w:=by
 obtain ⟨kvs,h1,h2,h3,h4⟩:=hm
 cases hf:f kx with
 | none=>exact IN i hz a.key h1 h2 j hy hi (fun v hv=>by rw [← h4] at hv; rw [hf] at hv; cases hv)
 | some v=>exact IM i a.key h1 h2 j hy hi h3 ((h4 kx v).1 hf)
theorem j0 (i:P.underlying t=some (.map k e)) (hz:zeroV P e=some zv) (a:kb P k isK) (hm:bN w.heap b isK f) (j:ev N σ x= .map (some b)) (hy:ev N σ y=kx) (hi:isK kx) (hv:(f kx).getD zv=v):
 (execOp (ev N σ) ⟨dst,.lookup t x y false,ty,pos,af,g⟩).run P w= .ok (.value v) w:=by
 rw [Aa i hz a hm j hy hi,hv]; rfl
theorem Ab {ob:Bool} (j:P.underlying t=some (.map k e)) (hz:zeroV P e=some zv) (a:kb P k isK) (hm:bN w.heap b isK f) (p:ev N σ x= .map (some b)) (hy:ev N σ y=kx) (hi:isK kx) (hv:(f kx).getD zv=v) (i:(f kx).isSome=ob):
 (execOp (ev N σ) ⟨dst,.lookup t x y true,ty,pos,af,g⟩).run P w= .ok (.value (.tuple #[v,.bool ob])) w:=by
 rw [Aa j hz a hm p hy hi,hv,i]; rfl
theorem BW (O:P.underlying t=some (.map k e)) (E:kb P k isK) (hm:bN w.heap b isK f) (hi:isK kx):
 ∃ w',(Instr.mapUpdate t (.map (some b)) kx v).run P w= .ok () w'∧Md (fun j=>j=b) w w'∧bN w'.heap b isK (bg f kx v):=by
 obtain ⟨kvs,⟨es,c,hr,he⟩,h2,h3,h4⟩:=hm
 have hb:=(Array.getElem?_eq_some_iff.1 hr).1
 rcases E.key.find w kx es.toList hi (s6 he h2) with ⟨h1,ac⟩ | ⟨j,e',h1,hj,h5⟩
 · have M:∀ u,(kx,u)∉kvs:=fun u hu=>by
    rw [← he] at hu
    obtain ⟨U,Z,V⟩:=List.mem_map.1 hu
    cases V
    exact ac U Z rfl
   refine ⟨{w with heap:=w.heap.setIfInBounds b (.map (es.push {key:=kx,val:=v,born:=c}) (c+1))},by simp [Instr.mapUpdate,dd O,run_getObj_map hr,E.key.check _ w kx hi,h1,setObj,Sem.run,hr],⟨rfl,rfl,by simp,fun i _ hne=>by simp only; rw [Array.getElem?_setIfInBounds_ne (fun e=>hne e.symm)]⟩,kvs++ [(kx,v)],⟨_,_,by simp only; rw [Array.getElem?_setIfInBounds_self_of_lt hb],by simp [he]⟩,?_,?_,?_⟩
   · intro p hp
     rcases List.mem_append.1 hp with hp | hp
     · exact h2 p hp
     · rw [List.mem_singleton.1 hp]; exact hi
   · rw [List.map_append,List.nodup_append]
     refine ⟨h3,by simp,?_⟩
     intro a ha ag I Y
     simp at I
     subst Y I
     obtain ⟨p,hp,ae⟩:=List.mem_map.1 ha
     exact M p.2 (by rw [← ae]; exact hp)
   · intro q u
     unfold bg
     rw [List.mem_append,List.mem_singleton]
     by_cases A:q=kx
     · subst A
       rw [if_pos rfl]
       constructor
       · intro h; cases h; exact .inr rfl
       · rintro (h | h)
         · exact absurd h (M u)
         · cases h; rfl
     · rw [if_neg A,h4]
       constructor
       · exact .inl
       · rintro (h | h)
         · exact h
         · cases h; exact absurd rfl A
 · have ah:j < es.size:=by have :=(List.getElem?_eq_some_iff.1 hj).1; simpa using this
   have J:es[j]? =some e':=by simpa using hj
   refine ⟨{w with heap:=w.heap.setIfInBounds b (.map (es.modify j fun e=> {e with key:=kx,val:=v}) c)},?_,⟨rfl,rfl,by simp,fun i _ hne=>by simp only; rw [Array.getElem?_setIfInBounds_ne (fun e=>hne e.symm)]⟩,kvs.set j (kx,v),⟨_,_,by simp only; rw [Array.getElem?_setIfInBounds_self_of_lt hb],?_⟩,?_,?_,?_⟩
   · have hs:=E.stays w kx hi
     simp [Instr.mapUpdate,dd O,run_getObj_map hr,E.key.check _ w kx hi,h1,J,h5,hs,setObj,Sem.run,hr]
   · rw [← he]
     apply List.ext_getElem?
     intro i
     simp only [Array.toList_modify,List.getElem?_map,List.getElem?_modify,List.getElem?_set,List.length_map]
     by_cases C:j=i
     · subst C; rw [hj]; simp; have :=(List.getElem?_eq_some_iff.1 hj).1; simpa using this
     · simp [C]
   · intro p hp
     rcases List.mem_or_eq_of_mem_set hp with hp | hp
     · exact h2 p hp
     · rw [hp]; exact hi
   · have :(kvs.set j (kx,v)).map Prod.fst=kvs.map Prod.fst:=by
      apply List.ext_getElem?
      intro i
      simp only [List.getElem?_map,List.getElem?_set]
      by_cases C:j=i
      · subst C
        rw [← he]; simp only [List.getElem?_map,hj,List.length_map]
        have :=(List.getElem?_eq_some_iff.1 hj).1
        simp [this,h5]
        simpa using this
      · simp [C]
     rw [this]; exact h3
   · intro q u
     have G:kvs[j]? =some (kx,e'.val):=by rw [← he]; simp [hj,h5,J]
     have hlj:=(List.getElem?_eq_some_iff.1 G).1
     have ab:(kx,v)∈kvs.set j (kx,v):=List.mem_of_getElem? (i:=j) (by rw [List.getElem?_set,if_pos rfl,if_pos hlj])
     unfold bg
     by_cases A:q=kx
     · subst A
       rw [if_pos rfl]
       constructor
       · intro h; cases h; exact ab
       · intro h
         obtain ⟨i,s⟩:=List.getElem?_of_mem h
         rw [List.getElem?_set] at s
         split at s
         · rename_i aa
           subst aa
           cases s; rfl
         · rename_i hne
           exfalso
           exact hne ((List.getElem?_inj (i:=j) (j:=i) (by simpa using hlj) h3).1 (by simp [G,s]))
     · rw [if_neg A,h4]
       constructor
       · intro h
         obtain ⟨i,s⟩:=List.getElem?_of_mem h
         have hne:j≠i:=by rintro rfl; rw [G] at s; cases s; exact A rfl
         exact List.mem_of_getElem? (i:=i) (by rw [List.getElem?_set,if_neg hne]; exact s)
       · intro h
         rcases List.mem_or_eq_of_mem_set h with h | h
         · exact h
         · cases h; exact absurd rfl A
theorem nH (i:P.underlying t=some (.map k e)) (a:kb P k isK) (hm:bN w.heap b isK f) (p:ev N σ x= .map (some b)) (hy:ev N σ y=kx) (hz:ev N σ z=v) (hi:isK kx)
 (q:∀ w',Md (fun j=>j=b) w w'→bN w'.heap b isK (bg f kx v)→K σ w'):cE P N ⟨none,.mapUpdate t x y z,ty,pos,af,g⟩ σ w K:=by
 obtain ⟨w',h1,h2,h3⟩:=BW (v:=v) i a hm hi
 have hrun:(execOp (ev N σ) ⟨none,.mapUpdate t x y z,ty,pos,af,g⟩).run P w= .ok .skip w':=by
  simp [execOp,p,hy,hz,h1]
 unfold cE Oper.wp
 rw [fF,hrun]
 exact ⟨σ,rfl,q w' h2 h3⟩
theorem jf (i:P.underlying t=some (.map k e)) (a:kb P k isK) (hm:bN w.heap b isK f) (p:ev N σ x= .map (some b)) (hy:ev N σ y=kx) (hz:ev N σ z=v) (hi:isK kx)
 (q:∀ w',Md (fun j=>j=b) w w'→bN w'.heap b isK (bg f kx v)→K σ w'):cE P N ⟨none,.insert t x y z,ty,pos,af,g⟩ σ w K:=by
 obtain ⟨w',h1,h2,h3⟩:=BW (v:=v) i a hm hi
 have hrun:(execOp (ev N σ) ⟨none,.insert t x y z,ty,pos,af,g⟩).run P w= .ok .skip w':=by
  simp [execOp,p,hy,hz,h1]
 unfold cE Oper.wp
 rw [fF,hrun]
 exact ⟨σ,rfl,q w' h2 h3⟩
end
end Go.Hb
end
section
namespace Go.Hb
section
variable {P:Program} {N:Fm} {σ:Nat→Value} {w:World} {fn:Func} {R:Value→World→Prop}
theorem IV {t b off :Nat} {v:Value} (hu:cz P t=some none) (hc:Hb.aC w.heap b off =some v):(loadVar t ⟨b,off,none⟩).run P w= .ok v w:=by
 have a:w.cell? ⟨b,off,none⟩=some v:=by rw [jr]; exact hc
 unfold cz at hu
 cases hd:P.underlying t with
 | none=>rw [hd] at hu; cases hu
 | some d=>
   rw [hd] at hu
   cases d <;> first
    | (simp only [Option.map_eq_some_iff] at hu; obtain ⟨_,_,h⟩:=hu; cases h; done)
    | simp [loadVar,isAgg,dd hd,run_load,a]
theorem IW {t n b off :Nat} {cs:List Value} (hu:cz P t=some (some n)) (hl:cs.length=n) (hc:∀ j,j < n→Hb.aC w.heap b (off+j)=cs[j]?):(loadVar t ⟨b,off,none⟩).run P w= .ok (.agg cs.toArray) w:=by
 have a:(loadCells ⟨b,off,none⟩ n).run P w= .ok cs.toArray w:=by
  subst hl
  refine run_loadCells_list (P:=P) w ⟨b,off,none⟩ cs fun j v hj=> ?_
  rw [iD,jr]
  exact (hc j (List.getElem?_eq_some_iff.1 hj).1).trans hj
 unfold cz at hu
 cases hd:P.underlying t with
 | none=>rw [hd] at hu; cases hu
 | some d=>
   rw [hd] at hu
   cases hi:P.info? t with
   | none=>simp [Program.underlying,hi] at hd
   | some i=>
     rw [hi] at hu
     cases d <;> first
      | (cases hu; done)
      | (simp only [Option.map_some,Option.some.injEq] at hu; subst hu
         simp [loadVar,isAgg,dd hd,sizeOf,fC hi,a])
def jP (P:Program) (N:Fm) (σ:Nat→Value) (w:World):ResultVar→Value→Prop
 | .tmp t,v=>ev N σ (.tmp t)=v
 | .cell a t,v=> ∃ ad,ev N σ (.tmp a)= .pointer (some ad)∧(loadVar t ad).run P w= .ok v w
theorem dE {t:Tmp} :jP P N σ w (.tmp t) (ev N σ (.tmp t)):=rfl
theorem uN {a t b off :Nat} {v:Value} (i:ev N σ (.tmp a)= .pointer (some ⟨b,off,none⟩)) (hu:cz P t=some none) (hc:Hb.aC w.heap b off =some v):jP P N σ w (.cell a t) v:=⟨_,i,IV hu hc⟩
theorem c8 {a t n b off :Nat} {cs:List Value} (i:ev N σ (.tmp a)= .pointer (some ⟨b,off,none⟩)) (hu:cz P t=some (some n)) (hl:cs.length=n) (hc:∀ j,j < n→Hb.aC w.heap b (off+j)=cs[j]?):jP P N σ w (.cell a t) (.agg cs.toArray):=⟨_,i,IW hu hl hc⟩
def kz (tmps:Array Value):ResultVar→Sem Value
 | .tmp t=>pure (tmps.getD t undef)
 | .cell a t=>do loadVar t (← asAddr (tmps.getD a undef))
theorem jG {r:ResultVar} {v:Value} (h:jP P N σ w r v):(kz (act N σ).tmps r).run P w= .ok v w:=by
 cases r with
 | tmp t=>
   show Sem.run P (pure ((act N σ).tmps.getD t undef)) w=_
   rw [j5]; simp only [jP] at h; rw [h]; rfl
 | cell a t=>
   obtain ⟨ad,h1,h2⟩:=h
   show Sem.run P (do loadVar t (← asAddr ((act N σ).tmps.getD a undef))) w=_
   rw [j5,h1]
   simp [asAddr,h2]
theorem Kx {tmps:Array Value} {r:ResultVar} {v:Value} (h:fn.results= #[r]) (h1:(kz tmps r).run P w= .ok v w):(results fn tmps).run P w= .ok v w:=by
 have a:(results fn tmps)=(do let vs ← #[r].mapM (kz tmps); pure (if h:vs.size=1 then vs[0] else .tuple vs)):=by
  unfold results; rw [h]; rfl
 rw [a]; simp [List.mapM_toArray,h1]
theorem q6 {tmps:Array Value} {r s:ResultVar} {v u:Value} (h:fn.results= #[r,s]) (h1:(kz tmps r).run P w= .ok v w) (h2:(kz tmps s).run P w= .ok u w):(results fn tmps).run P w= .ok (.tuple #[v,u]) w:=by
 have a:(results fn tmps)=(do let vs ← #[r,s].mapM (kz tmps); pure (if h:vs.size=1 then vs[0] else .tuple vs)):=by
  unfold results; rw [h]; rfl
 rw [a]; simp [List.mapM_toArray,h1,h2]
theorem Ky {tmps:Array Value} {r s q:ResultVar} {v u z:Value} (h:fn.results= #[r,s,q]) (h1:(kz tmps r).run P w= .ok v w) (h2:(kz tmps s).run P w= .ok u w) (h3:(kz tmps q).run P w= .ok z w):(results fn tmps).run P w= .ok (.tuple #[v,u,z]) w:=by
 have a:(results fn tmps)=(do let vs ← #[r,s,q].mapM (kz tmps); pure (if h:vs.size=1 then vs[0] else .tuple vs)):=by
  unfold results; rw [h]; rfl
 rw [a]; simp [List.mapM_toArray,h1,h2,h3]
theorem oa {r:ResultVar} {v:Value} (h:fn.results= #[r]) (h1:jP P N σ w r v) (a:R v w):fin P fn N R .ret σ w:=⟨v,Kx h (jG h1),a⟩
theorem dO {r s:ResultVar} {v u:Value} (h:fn.results= #[r,s]) (h1:jP P N σ w r v) (h2:jP P N σ w s u) (a:R (.tuple #[v,u]) w):fin P fn N R .ret σ w:=⟨_,q6 h (jG h1) (jG h2),a⟩
theorem yH {r s q:ResultVar} {v u z:Value} (h:fn.results= #[r,s,q]) (h1:jP P N σ w r v) (h2:jP P N σ w s u) (h3:jP P N σ w q z) (a:R (.tuple #[v,u,z]) w):fin P fn N R .ret σ w:=⟨_,Ky h (jG h1) (jG h2) (jG h3),a⟩
end
end Go.Hb
end
section
namespace Go.Hb
open Go.RowKit
def kE (P:Program) (N:Fm) (c:Code) (B:Exit→Act→World→Prop) (σ:Nat→Value) (w:World):Prop :=c.wpIn (fe N.r) 0 P B (act N σ) w
def qb (N:Fm) (B:Exit→Act→World→Prop):Exit→(Nat→Value)→World→Prop :=fun e σ w=>B e (act N σ) w
section
variable {P:Program} {N:Fm} {B:Exit→Act→World→Prop} {σ:Nat→Value} {w:World}
theorem e5 {x y:Code} (h:kE P N x (Exit.then (y.wpIn (fe N.r) 0 P B) B) σ w):kE P N (.seq x y) B σ w:=wpIn_seq h
theorem fq {y:Code} (h:kE P N y B σ w):qb N (Exit.then (y.wpIn (fe N.r) 0 P B) B) .normal σ w:=h
theorem uG {y:Act→World→Prop} (h:qb N B .ret σ w):qb N (Exit.then y B) .ret σ w:=h
theorem uP (h:qb N B .ret σ w):kE P N .ret B σ w:=wpIn_ret h
theorem fL {c:Code} (h:cW P N c (qb N B) σ w):kE P N c B σ w:=by
 unfold cW at h
 refine wpIn_mono h ?_
 intro e a w hl
 cases e with
 | panic c=>obtain ⟨σ,rfl,i⟩:=hl; exact i σ fun _ _=>rfl
 | outgrown=>exact hl.elim
 | _=>obtain ⟨σ,rfl,i⟩:=hl; exact i
end
theorem q9 (fn:Func) (args:List Value) (F:List Nat) (hn:Nat.ble args.length fn.ntmps=true):({tmps:=args.toArray++Array.replicate (fn.ntmps - args.toArray.size) undef,defers:= []} :Act)=act ⟨fn.ntmps,[],F,none⟩ (jl args):=by
 have a:args.length≤fn.ntmps:=by simpa using hn
 refine pd rfl fun i=> ?_
 rw [kO]
 simp only [jl,List.getD_eq_getElem?_getD,List.size_toArray]
 by_cases h1:i < args.length
 · rw [Array.getElem?_append_left (by simpa using h1),if_pos (by omega)]
   simp [h1]
 · rw [Array.getElem?_append_right (by simpa using h1)]
   simp only [List.size_toArray,Array.getElem?_replicate]
   by_cases h2:i < fn.ntmps
   · rw [if_pos (by omega),if_pos h2,List.getElem?_eq_none (by omega)]; rfl
   · rw [if_neg (by omega),if_neg h2]
abbrev Bm (P:Program) (fn:Func) (R:Value→World→Prop):Exit→Act→World→Prop :=bodyPostM Fence.wide 0 P fn (fun e w'=> ∃ v,e= .returned v∧R v w')
theorem yC {P:Program} {f:FuncId} {N:Nat} {fn:Func} {c:Code} {args:List Value} {w:World} {R:Value→World→Prop} (F:List Nat) (hf:P.funcs[f]? =some fn) (hb:fn.body=some c)
 (a:fn.ntmps=N) (hn:Nat.ble args.length N=true) (h:kE P ⟨N,[],F,none⟩ c (Bm P fn R) (jl args) w):aU P f args.toArray w R:=by
 subst a
 refine callsIn_wide.1 (callsIn_of_wp_marks (F:=Fence.wide) (n:=0) hf hb trivial ?_)
 rw [q9 fn args F hn]
 exact h
section
variable {P:Program} {n:Nat} {F:List Nat} {σ:Nat→Value} {w:World} {fn:Func} {R:Value→World→Prop}
theorem IE {e:Exit} (he:e= .ret∨e= .normal) {v:Value} (hr:(results fn (act ⟨n,[],F,none⟩ σ).tmps).run P w= .ok v w) (a:R v w):qb ⟨n,[],F,none⟩ (Bm P fn R) e σ w:=by
 rcases he with rfl | rfl <;> exact ⟨v,hr,v,rfl,a⟩
theorem yF {t u:Nat} {v v':Value} (h:fn.results= #[.tmp t,.tmp u]) (hv:ev ⟨n,[],F,none⟩ σ (.tmp t)=v) (hu:ev ⟨n,[],F,none⟩ σ (.tmp u)=v') (a:R (.tuple #[v,v']) w):qb ⟨n,[],F,none⟩ (Bm P fn R) .ret σ w:=
 IE (.inl rfl) (by rw [results_tmp2 h,j5,j5,hv,hu]) a
theorem IF {D:Nat} {v:Value} (a:w.heap[D]? =some (.deferred (some []))) (hr:∀ w',(results fn (act ⟨n,[{target:= .collected D,args:= #[]}],F,none⟩ σ).tmps).run P w'= .ok v w') (i:R v (w.putObj D (.deferred none))):
 qb ⟨n,[{target:= .collected D,args:= #[]}],F,none⟩ (Bm P fn R) .ret σ w:=
 ⟨FrameMode.noConfusion,.inl ⟨_,_,rfl,run_takeDeferred a,⟨v,hr _,v,rfl,i⟩⟩⟩
theorem yG {D t u:Nat} {v v':Value} (h:fn.results= #[.tmp t,.tmp u]) (hv:ev ⟨n,[{target:= .collected D,args:= #[]}],F,none⟩ σ (.tmp t)=v) (hu:ev ⟨n,[{target:= .collected D,args:= #[]}],F,none⟩ σ (.tmp u)=v')
 (a:w.heap[D]? =some (.deferred (some []))) (i:R (.tuple #[v,v']) (w.putObj D (.deferred none))):qb ⟨n,[{target:= .collected D,args:= #[]}],F,none⟩ (Bm P fn R) .ret σ w:=
 IF a (fun w'=>by rw [results_tmp2 h,j5,j5,hv,hu]) i
end
theorem cg {w:World} {B t size n pp a:Nat} {v:Value} {xs:List Value} {cs:Array Value} {z:Nat×Nat} (h:w.ownsRow B t size v n xs) (hp:w.heap[pp]? =some (.cells cs a z)) (hne:t≠a):v.ownBlock≠some pp:=by
 intro hk
 rcases h.2 with ⟨h1,_⟩ | ⟨g,cap,cur,h1,_,hg,_⟩
 · rw [h1] at hk; simp [Value.ownBlock] at hk
 · rw [h1] at hk
   simp only [Value.ownBlock,Option.some.injEq] at hk
   subst hk
   rw [hg] at hp
   simp only [Option.some.injEq,Obj.cells.injEq] at hp
   exact hne hp.2.1
section
variable {P:Program} {N:Fm} {σ:Nat→Value} {w:World} {dst:Option Nat} {ty:TypeId} {pos :String} {af:Array Edge} {g:Option (Nat×Bool)} {x:Operand} {K:(Nat→Value)→World→Prop}
theorem C2 {e:TypeId} {v:Value} (a:ev N σ x=v) (h1:v.oneCell'=true) (k:∀ b w',b=w.heap.size→Nw w w'→w'.heap[b]? =some (.cells [v].toArray e (0,0))→K (e7 σ dst (.pointer (some ⟨b,0,none⟩))) w'):
 cE P N ⟨dst,.box e x,ty,pos,af,g⟩ σ w K:=by
 refine kG (v:=fun b=> .pointer (some ⟨b,0,none⟩)) (ob:= .cells [v].toArray e (0,0)) ?_ k
 have :=l0 h1
 simp [execOp,Instr.box,a,this,newVar,newRow]
end
theorem nq (w:World) (k:Nat) (o:Obj):Md (fun j=>j=k) w (w.putObj k o):=
 ⟨rfl,rfl,by simp [World.putObj],fun j _ hne=>World.putObj_heap_other hne⟩
def gz (w w':World):Prop := ∀ (k:Nat) (o:Obj),w.heap[k]? =some o→(∀ cur e z,o≠.cells cur e z)→w'.heap[k]? =some o
theorem gz.trans {a b c:World} (h:gz a b) (i:gz b c):gz a c:=fun k o j hn=>i k o (h k o j hn) hn
theorem gz.md {F:Nat→Prop} {w w':World} (hm:Md F w w') (hF:∀ k,F k→∃ cur e z,w.heap[k]? =some (.cells cur e z)):gz w w':=fun k o a hn=>by
 rw [hm.gj k (Array.getElem?_eq_some_iff.1 a).1 (fun hk=>by obtain ⟨c,e,z,h⟩:=hF k hk; rw [a] at h; exact hn _ _ _ (Option.some.inj h))]; exact a
theorem gz.wk {w w':World} (hm:Wk w w'):gz w w':=gz.md hm fun _ h=>h.elim
theorem oD {w:World} {B e size n:Nat} {v:Value} {xs:List Value} (h:w.ownsRow B e size v n xs):∀ k,v.ownBlock=some k→∃ cur e z,w.heap[k]? =some (.cells cur e z):=by
 intro k hk
 rcases h.2 with ⟨rfl,_⟩ | ⟨g,cap,a,rfl,_,hg,_⟩
 · simp [Value.ownBlock] at hk
 · simp only [Value.ownBlock,Option.some.injEq] at hk; subst hk; exact ⟨_,_,_,hg⟩
def Ct {α:Type} (B:Nat) (a:List α→World→Prop):Prop := ∀ pre W W' (F:Nat→Prop),a pre W→Md F W W'→(∀ k,F k→B≤k∧∀ cur e z,W.heap[k]?≠some (.cells cur e z))→a pre W'
section
variable {F:Nat→Prop} {W W':World} {B:Nat}
theorem rr {b e:Nat} {cs:Array Value} {z:Nat×Nat} (h:W.heap[b]? =some (.cells cs e z)) (hm:Md F W W') (hF:∀ k,F k→B≤k∧∀ cur e z,W.heap[k]?≠some (.cells cur e z)):W'.heap[b]? =some (.cells cs e z):=by
 rw [hm.gj b (Array.getElem?_eq_some_iff.1 h).1 (fun hk=>(hF b hk).2 _ _ _ h)]; exact h
theorem BC {a e size n:Nat} {v:Value} {xs:List Value} (h:W.ownsRow a e size v n xs) (hm:Md F W W') (hF:∀ k,F k→B≤k∧∀ cur e z,W.heap[k]?≠some (.cells cur e z)):W'.ownsRow a e size v n xs:=
 bW h hm fun k hk hf=>by obtain ⟨c,e,z,h1⟩:=oD h k hk; exact (hF k hf).2 _ _ _ h1
theorem BD {w:World} (h:Wk w W) (hm:Md F W W') (hB:w.heap.size≤B) (hF:∀ k,F k→B≤k∧∀ cur e z,W.heap[k]?≠some (.cells cur e z)):Wk w W':=Md.trans' h hm fun k hk hf=>by have :=(hF k hf).1; omega
end
def vE {α:Type} (P:Program) (q:Nat) (lb:Array Value) (p:α→Array Value) (xs:List α) (j:World→Prop):Prop :=
 ∀ (l:Nat) (a:List α→World→Prop) (W:World),a [] W→(∀ pre W,a pre W→j W)→(∀ pre W1 i,a pre W1→Wk W1 i→a pre i)→
   (∀ pre x rest W1,xs=pre++x::rest→a pre W1→YieldAt Fence.wide 0 P l (p x) W1 fun e W'=>e= .returned (.bool true)∧a (pre++ [x]) W')→
   Calls P q (#[.func (.yield l) #[] #[]]++lb) W fun e W'=>(∃ v,e= .returned v)∧a xs W'
def Ks (R:World→Prop):Exit→(Nat→Value)→World→Prop
 | .normal,_,w=>R w
 | _,_,_=>False
theorem Cv (N:Fm):∀ (l:List (Tmp×Value)) (σ:Nat→Value),l.foldl (fun t p=>t.setIfInBounds p.1 p.2) (act N σ).tmps=(act N (l.foldl (fun s p=>cT s p.1 p.2) σ)).tmps:=by
 intro l
 induction l with
 | nil=>intro σ; rfl
 | cons p l ih=>
   intro σ
   rw [List.foldl_cons,List.foldl_cons,← ih]
   congr 1
   have :=congrArg Act.tmps (gL N σ (some p.1) p.2)
   exact this
theorem A0 {α:Type} {P:Program} {id n:Nat} {g:Operand} {ps:Array Tmp} {O body:Code} {J:List Nat} {σ:Nat→Value} {w:World} {B:Exit→Act→World→Prop} {M:Nat} {lb:Array Value}
 (G:α→Array Value) (xs:List α) (Z:World→Prop) (i:List α→World→Prop) (hg:ev ⟨n,[],J,none⟩ σ g= .func (.func M) #[] lb) (hc:aT P M) (ap:∀ x,(G x).size=ps.size)
 (an:vE P M lb G xs Z) (ag:i [] w) (ak:∀ pre W,i pre W→Z W) (U:Ct w.heap.size i) (ac:α→Nat→Value)
 (ha:∀ (l:Nat) (x:α) (W:World) (K:(Nat→Value)→World→Prop),K (ac x) W→cW P ⟨n,[],[],some l⟩ O (jL K fun _ _ _=>False) ((ps.toList.zip (G x).toList).foldl (fun s p=>cT s p.1 p.2) σ) W)
 (hb:∀ (l:Nat) (pre:List α) (x:α) (rest:List α) (W:World),xs=pre++x::rest→i pre W→cW P ⟨n,[],[],some l⟩ body (Ks fun W'=>gz W W'∧i (pre++ [x]) W') (ac x) W)
 (hd:∀ (D:Nat) (W:World),w.heap.size≤D→i xs W→W.heap[D]? =some (.deferred (some []))→qb ⟨n,[{target:= .collected D,args:= #[]}],J,none⟩ B .normal σ W):
 kE P ⟨n,[],J,none⟩ (.block id (.rangeFunc g ps O body)) B σ w:=by
 refine wpIn_block (wpIn_rangeFunc ?_)
 intro fn _
 obtain ⟨rc,I⟩:∃ rc:LoopState→Option Code→Loop,rc=fun st ar=> {state:=st,pending:=ar,fn,tmps:=(act ⟨n,[],J,none⟩ σ).tmps,params:=ps,assign:=O,body,defers:=w.heap.size} :=⟨_,rfl⟩
 obtain ⟨W1,V⟩:∃ W1,(w.alloc (.deferred (some []))).alloc (.loop (rc .ready none))=W1:=⟨_,rfl⟩
 have aj:W1.heap[w.heap.size+1]? =some (.loop (rc .ready none)):=by
  rw [← V]; have :=World.alloc_heap_new (w.alloc (.deferred (some []))) (.loop (rc .ready none)); rwa [World.size_alloc] at this
 have ai:W1.heap[w.heap.size]? =some (.deferred (some [])):=by
  rw [← V]; exact (Below.heap_alloc _ _ _ (by simp)).trans (World.alloc_heap_new w _)
 have hn:∀ (W:World) (o:Obj),Wk W (W.alloc o):=fun W o=>(At W o).md
 have ah:i [] W1:=by rw [← V]; exact U _ _ _ _ (U _ _ _ _ ag (hn _ _) (fun _ h=>h.elim)) (hn _ _) (fun _ h=>h.elim)
 have al:(act ⟨n,[],J,none⟩ σ).eval g= .func (.func M) #[] lb:=by rw [fF]; exact hg
 refine ⟨w.heap.size+1,[{target:= .collected w.heap.size,args:= #[]}],W1,{target:= .fn (.func M) lb,args:= #[.func (.yield (w.heap.size+1)) #[] #[]]},W1,M,
  #[.func (.yield (w.heap.size+1)) #[] #[]]++lb,W1,?_,?_,fun _ _=>trivial,?_,fun h0=>(by cases h0),?_⟩
 · rw [← V,I]; exact run_enterLoop_outer _ _ _ _ _
 · simp only [resolve,al]
   simp [go_sem]
 · have :=hc (#[.func (.yield (w.heap.size+1)) #[] #[]]++lb) W1
   simp [invoke,go_sem,this]
 · have hput:∀ (pre:List α) (W:World) (o Y:Obj),i pre W→W.heap[w.heap.size+1]? =some o→(∀ cur e z,o≠.cells cur e z)→i pre (W.putObj (w.heap.size+1) Y):=fun pre W o Y h1 h2 h3=>
    U _ _ _ _ h1 (nq W _ Y) fun k hk=>⟨by omega,fun cur e z h4=>by subst hk; rw [h2] at h4; exact h3 _ _ _ (Option.some.inj h4)⟩
   refine callsIn_wide.2 (Calls.mono (an (w.heap.size+1)
    (fun pre W=>i pre W∧W.heap[w.heap.size+1]? =some (.loop (rc .ready none))∧W.heap[w.heap.size]? =some (.deferred (some [])))
    W1 ⟨ah,aj,ai⟩ (fun pre W h=>ak pre W h.1)
    (fun pre A C h hm=>⟨U _ _ _ _ h.1 hm (fun _ h=>h.elim),(hm.gj _ (Array.getElem?_eq_some_iff.1 h.2.1).1 (fun h=>h)).trans h.2.1,(hm.gj _ (Array.getElem?_eq_some_iff.1 h.2.2).1 (fun h=>h)).trans h.2.2⟩) ?_) ?_)
   · rintro pre x rest W aq ⟨hi,hl,hk⟩
     have hlt:w.heap.size+1 < W.heap.size:=(Array.getElem?_eq_some_iff.1 hl).1
     have hy:=run_yield (P:=P) (args:=G x) hl (by rw [I]; exact ap x)
     rw [I] at hy
     refine ⟨fn,_,O,body,hy,roundIn_of_wpIn (F:=Fence.wide) trivial ?_⟩
     have hset:((ps.zip (G x)).foldl (fun tmps (p:Tmp×Value)=>tmps.setIfInBounds p.1 p.2) (act ⟨n,[],J,none⟩ σ).tmps)=(act ⟨n,[],[],some (w.heap.size+1)⟩ ((ps.toList.zip (G x).toList).foldl (fun s p=>cT s p.1 p.2) σ)).tmps:=by
      rw [← Array.foldl_toList,Array.toList_zip]
      exact Cv ⟨n,[],[],some (w.heap.size+1)⟩ _ σ
     have h1:=ha (w.heap.size+1) x W (fun E W'=> ∃ ab,(Instr.beginRound (w.heap.size+1)).run P W'= .ok () ab∧
      body.wpIn (Fence.wide.inRound (w.heap.size+1)) 0 P (roundPost P (w.heap.size+1) fun e W'=>e= .returned (.bool true)∧i (pre++ [x]) W'∧W'.heap[w.heap.size+1]? =some (.loop (rc .ready none))∧W'.heap[w.heap.size]? =some (.deferred (some []))) (act ⟨n,[],[],some (w.heap.size+1)⟩ E) ab) ?_
     · unfold cW at h1
       have ae:({tmps:=(ps.zip (G x)).foldl (fun tmps (p:Tmp×Value)=>tmps.setIfInBounds p.1 p.2) (act ⟨n,[],J,none⟩ σ).tmps,defers:= []} :Act)=act ⟨n,[],[],some (w.heap.size+1)⟩ ((ps.toList.zip (G x).toList).foldl (fun s p=>cT s p.1 p.2) σ):=by rw [hset]; rfl
       rw [ae]
       refine wpIn_mono h1 ?_
       intro e a w' j
       cases e with
       | normal=>obtain ⟨E,rfl,q⟩:=j; exact q
       | panic c=>obtain ⟨E,rfl,q⟩:=j; exact q E fun _ _=>rfl
       | outgrown=>exact j.elim
       | _=>obtain ⟨E,rfl,q⟩:=j; exact q
     refine ⟨_,run_beginRound hl (by rw [I]),?_⟩
     have hl2:(W.putObj (w.heap.size+1) (.loop {rc .ready none with state:= .busy})).heap[w.heap.size+1]? =some (.loop {rc .ready none with state:= .busy}):=World.putObj_heap_same hlt
     have ao:(W.putObj (w.heap.size+1) (.loop {rc .ready none with state:= .busy})).heap[w.heap.size]? =some (.deferred (some [])):=(World.putObj_heap_other (by omega)).trans hk
     have h2:=hb (w.heap.size+1) pre x rest _ aq (hput _ _ _ (.loop {rc .ready none with state:= .busy}) hi hl (fun _ _ _ h=>by cases h))
     unfold cW at h2
     refine wpIn_mono h2 ?_
     intro e a av j
     cases e with
     | normal=>
       obtain ⟨E,rfl,aa,am⟩:=j
       have hl3:=aa _ _ hl2 (fun _ _ _ h=>by cases h)
       have hk3:=aa _ _ ao (fun _ _ _ h=>by cases h)
       have hr:=run_endRound (P:=P) none hl3
       rw [I] at hr hl3 ⊢
       exact ⟨_,_,hr,rfl,hput _ _ _ _ am hl3 (fun _ _ _ h=>by cases h),World.putObj_heap_same (Array.getElem?_eq_some_iff.1 hl3).1,(World.putObj_heap_other (by omega)).trans hk3⟩
     | panic c=>obtain ⟨E,rfl,q⟩:=j; exact (q E fun _ _=>rfl).elim
     | outgrown=>exact j.elim
     | _=>obtain ⟨E,rfl,q⟩:=j; exact q.elim
   · rintro e au ⟨⟨v,rfl⟩,hi,hl,hk⟩
     have hrun:=run_endLoop (P:=P) hl (by rw [I]; simp)
     rw [I] at hrun
     refine ⟨none,_,hrun,?_⟩
     rw [I] at hl
     exact hd w.heap.size _ (Nat.le_refl _) (hput _ _ _ _ hi hl (fun _ _ _ h=>by cases h)) ((World.putObj_heap_other (by omega)).trans hk)
section
variable {P:Program} {N:Fm} {ops:Array Oper} {Q:Exit→(Nat→Value)→World→Prop} {rest:List Oper} {σ:Nat→Value} {w:World} {d':Option Nat} {d:Nat} {op:Op} {ty:TypeId} {pos :String} {af:Array Edge} {v:Value}
def kF (P:Program) (N:Fm) (ops:Array Oper) (Q:Exit→(Nat→Value)→World→Prop) (l:List Oper) (σ:Nat→Value) (w:World):Prop :=wpListIn (fe N.r) 0 P ops (lift N Q) l (act N σ) w
theorem Kp {id:Nat} {l:List Oper} (h:kF P N l.toArray Q l σ w):cW P N (.region id l.toArray false) Q σ w:=by
 unfold cW; exact wpIn_region_lit h
theorem Jj (h:Q .normal σ w):kF P N ops Q [] σ w:=⟨σ,rfl,h⟩
def ug (o:Op):Bool:=match o with | .defer _=>false | _=>true
theorem Jl {o:Op} (h:ug o=true):∀ c,o≠.defer c:=fun c e=>by subst e; cases h
theorem ey (hn:ug op=true) (h:cE P N ⟨d',op,ty,pos,af,none⟩ σ w (fun σ w=>kF P N ops Q rest σ w)):kF P N ops Q (⟨d',op,ty,pos,af,none⟩::rest) σ w:=by
 unfold kF wpListIn
 rw [if_pos (gx _ rfl _)]
 refine ⟨fun f _=>qh _ f,?_⟩
 rw [s8,Oper.semAt_eq _ _ _ (Jl hn)]
 unfold cE Oper.wp at h
 generalize (execOp (act N σ).eval ⟨d',op,ty,pos,af,none⟩).run P w=x at h ⊢
 cases x with
 | ok n w'=>
   cases n <;> simp only [Oper.upon,Oper.uponIn] at h ⊢ <;>
    first
     | (obtain ⟨a,ha,hk⟩:=h; rw [ha]; exact hk)
     | (refine ⟨fun h0=>(by rw [oc] at h0; cases h0),CallsIn.mono (yJ h) fun e w'' he=> ?_⟩
        cases e with
        | returned v=>obtain ⟨a,ha,hk⟩:=he; simp only; rw [ha]; exact hk
        | panicked c=>exact he.elim
        | outgrown=>obtain ⟨_,_,hf⟩:=he; exact hf.elim)
     | (refine ⟨fun h0=>(by rw [oc] at h0; cases h0),RowsIn.mono (yK h) fun v w'' he=> ?_⟩
        obtain ⟨a,ha,hk⟩:=he; rw [ha]; exact hk)
 | halt x w'=>cases x <;> simp only [Oper.upon] at h
theorem py (hn:ug op=true) (h:(execOp (ev N σ) ⟨some d,op,ty,pos,af,none⟩).run P w= .ok (.value v) w) (k:kF P N ops Q rest (cT σ d v) w):kF P N ops Q (⟨some d,op,ty,pos,af,none⟩::rest) σ w:=
 ey hn (j6 h k)
theorem Mj {l:Nat} {fo:Operand} {args:Array Operand} {i:Array TypeId} {L:List Value} {R:World→Prop} (hv:ev N σ fo= .func (.yield l) #[] #[]) (p:args.toList.map (ev N σ)=L)
 (hy:YieldAt Fence.wide 0 P l L.toArray w fun e W'=>e= .returned (.bool true)∧R W') (k:∀ W',R W'→kF P N ops Q rest (cT σ d (.bool true)) W'):
 kF P N ops Q (⟨some d,.call ⟨.value fo,args,i⟩,ty,pos,af,none⟩::rest) σ w:=by
 obtain ⟨fn,tmps,a,b,hrun,j⟩:=hy
 unfold kF wpListIn
 rw [if_pos (gx _ rfl _)]
 refine ⟨fun f _=>qh _ f,?_⟩
 rw [s8,Oper.semAt_eq _ _ _ (fun c e=>by cases e),fF]
 have hm:args.map (ev N σ)=L.toArray:=by rw [← p,← Array.toList_map]
 have q:(execOp (ev N σ) ⟨some d,.call ⟨.value fo,args,i⟩,ty,pos,af,none⟩).run P w= .ok (.round l fn tmps a b) w:=by
  simp [execOp,resolve,hv,Deferred.ofValue,invoke,hm,hrun]
 rw [q]
 simp only [Oper.uponIn]
 refine ⟨fun h0=>(by rw [oc] at h0; cases h0),?_⟩
 have h1:RoundIn (fe N.r) (0 - 1) P l fn tmps a b w fun e W'=>e= .returned (.bool true)∧R W':=by
  cases hr:N.r with
  | none=>exact j
  | some k=>exact j
 refine RoundIn.mono h1 ?_
 rintro e W' ⟨rfl,hw⟩
 simp only
 rw [gL]
 exact k W' hw
end
end Go.Hb
end
section
namespace Go.Hb
open Go.RowKit
def dN (P:Program) (f:FuncId) (args:Array Value) (w:World) (R:Value→World→Prop) (Pn:List PanicEntry→World→Prop):Prop :=
 Calls P f args w fun e w'=>(∃ v,e= .returned v∧R v w')∨∃ c,e= .panicked c∧Pn c w'
def yN (P:Program) (fn:Func) (N:Fm) (R:Value→World→Prop) (Pn:List PanicEntry→World→Prop):Exit→(Nat→Value)→World→Prop
 | .normal,σ,w=> ∃ v,(results fn (act N σ).tmps).run P w= .ok v w∧R v w
 | .ret,σ,w=> ∃ v,(results fn (act N σ).tmps).run P w= .ok v w∧R v w
 | .panic c,_,w=>Pn c w
 | _,_,_=>False
theorem fY {P:Program} {fn:Func} {N:Fm} {R:Value→World→Prop} {Pn:List PanicEntry→World→Prop} {e:Exit} {σ:Nat→Value} {w:World} (h:fin P fn N R e σ w):yN P fn N R Pn e σ w:=by
 cases e <;> first | exact h | exact h.elim
theorem gr {P:Program} {f:FuncId} {N:Nat} {fn:Func} {c:Code} {args:List Value} {w:World} {R:Value→World→Prop} {Pn:List PanicEntry→World→Prop} (hf:P.funcs[f]? =some fn) (hb:fn.body=some c)
 (p:fn.ntmps=N) (hn:Nat.ble args.length N=true) (h:cW P ⟨N,[],[],none⟩ c (yN P fn ⟨N,[],[],none⟩ R Pn) (jl args) w):dN P f args.toArray w R Pn:=by
 subst p
 refine calls_of_wp hf hb ?_
 rw [q9 fn args [] hn]
 unfold cW at h
 refine Code.wp_mono ?_ (wpIn_wide.1 h)
 intro e a w hl
 cases e with
 | normal=>obtain ⟨σ,rfl,v,hr,j⟩:=hl; exact ⟨rfl,v,hr,.inl ⟨v,rfl,j⟩⟩
 | ret=>obtain ⟨σ,rfl,v,hr,j⟩:=hl; exact ⟨rfl,v,hr,.inl ⟨v,rfl,j⟩⟩
 | exit id=>obtain ⟨σ,rfl,i⟩:=hl; exact i.elim
 | goto l=>obtain ⟨σ,rfl,i⟩:=hl; exact i.elim
 | panic c=>obtain ⟨σ,rfl,i⟩:=hl; exact ⟨rfl,.inr ⟨c,rfl,i σ fun _ _=>rfl⟩⟩
 | outgrown=>exact hl.elim
section
variable {P:Program} {N:Fm} {Q:Exit→(Nat→Value)→World→Prop} {σ:Nat→Value} {w:World} {ops:Array Oper} {rest:List Oper} {dst:Option Nat} {ty:TypeId} {pos :String} {af:Array Edge} {g:Option (Nat×Bool)} {x:Operand}
def kH (P:Program) (N:Fm) (o:Oper) (σ:Nat→Value) (w:World) (K:(Nat→Value)→World→Prop) (Pn:List PanicEntry→World→Prop):Prop :=
 Oper.wp P o (act N σ) w (fun a w=> ∃ σ,a=act N σ∧K σ w) (fun e a w=>match e with | .panic c=>a=act N σ∧Pn c w | _=>False)
theorem rJ {o:Oper} {K:(Nat→Value)→World→Prop} {Pn:List PanicEntry→World→Prop} {j:Act→World→Prop} (h:kH P N o σ w K Pn) (hk:∀ σ w,K σ w→j (act N σ) w) (hp:∀ c w',Pn c w'→∀ s,(∀ i∈N.F,s i=σ i)→Q (.panic c) s w'):o.wp P (act N σ) w j (lift N Q):=by
 unfold kH at h
 unfold Oper.wp at*
 generalize (execOp (act N σ).eval o).run P w=r at h ⊢
 have p:∀ a w,(∃ σ,a=act N σ∧K σ w)→j a w:=by rintro a w ⟨σ,rfl,h⟩; exact hk _ _ h
 have q:∀ c (a:Act) w',(a=act N σ∧Pn c w')→lift N Q (.panic c) a w':=by rintro c a w' ⟨rfl,h⟩; exact ⟨σ,rfl,hp c w' h⟩
 cases r with
 | ok n w'=>
   cases n <;> simp only [Oper.upon] at h ⊢ <;>
    first
     | exact p _ _ h
     | exact Calls.mono h (fun e w'' he=>by
      cases e with
      | returned v=>exact p _ _ he
      | panicked c=>exact q _ _ _ ⟨rfl,he.2⟩
      | outgrown=>obtain ⟨_,_,hf⟩:=he; exact hf.elim)
     | exact Rows.mono h (fun _ _ he=>p _ _ he)
 | halt x w'=>cases x <;> simp only [Oper.upon] at h ⊢ <;> exact q _ _ _ ⟨rfl,h.2⟩
theorem cj {f:FuncId} {args:Array Operand} {a:Array TypeId} {L:List Value} {R:Value→World→Prop} {Pn:List PanicEntry→World→Prop} {K:(Nat→Value)→World→Prop} (hc:aT P f) (hr:dN P f L.toArray w R Pn) (i:args.toList.map (ev N σ)=L)
 (k:∀ v w',R v w'→K (e7 σ dst v) w'):kH P N ⟨dst,.call ⟨.value (.func f),args,a⟩,ty,pos,af,g⟩ σ w K Pn:=by
 unfold kH Oper.wp
 have hm:args.map (ev N σ)=L.toArray:=by rw [← i,← Array.toList_map]
 have q:(execOp (ev N σ) ⟨dst,.call ⟨.value (.func f),args,a⟩,ty,pos,af,g⟩).run P w= .ok (.enter f L.toArray) w:=by
  have h2:=hc L.toArray w
  simp [execOp,resolve,ev,Deferred.ofValue,invoke,hm,h2]
 rw [fF,q]
 simp only [Oper.upon]
 refine Calls.mono hr ?_
 rintro e w' (⟨v,rfl,p⟩ | ⟨c,rfl,j⟩)
 · exact ⟨_,gL ..,k v w' p⟩
 · exact ⟨trivial,j⟩
theorem B9 {f:FuncId} {fo:Operand} {first cap:Array Value} {args:Array Operand} {a:Array TypeId} {L:List Value} {R:Value→World→Prop} {Pn:List PanicEntry→World→Prop} {K:(Nat→Value)→World→Prop} (hc:aT P f) (hv:ev N σ fo= .func (.func f) first cap) (hr:dN P f L.toArray w R Pn) (i:first.toList++args.toList.map (ev N σ)++cap.toList=L)
 (k:∀ v w',R v w'→K (e7 σ dst v) w'):kH P N ⟨dst,.call ⟨.value fo,args,a⟩,ty,pos,af,g⟩ σ w K Pn:=by
 unfold kH Oper.wp
 have hm:first++args.map (ev N σ)++cap=L.toArray:=by rw [← i]; simp
 have q:(execOp (ev N σ) ⟨dst,.call ⟨.value fo,args,a⟩,ty,pos,af,g⟩).run P w= .ok (.enter f L.toArray) w:=by
  have h2:=hc L.toArray w
  simp only [execOp,resolve,hv,Deferred.ofValue,invoke]
  simp [hm,h2]
 rw [fF,q]
 simp only [Oper.upon]
 refine Calls.mono hr ?_
 rintro e w' (⟨v,rfl,p⟩ | ⟨c,rfl,j⟩)
 · exact ⟨_,gL ..,k v w' p⟩
 · exact ⟨trivial,j⟩
theorem eP {o:Oper} {Pn:List PanicEntry→World→Prop} (hg:o.guard=none) (h:kH P N o σ w (fun σ w=>dI P N ops Q rest σ w) Pn) (hp:∀ c w',Pn c w'→∀ a,(∀ i∈N.F,a i=σ i)→Q (.panic c) a w'):dI P N ops Q (o::rest) σ w:=by
 unfold dI wpList
 rw [if_pos (gx o hg _)]
 refine .inl (rJ h (fun σ w hk=> ?_) hp)
 unfold dI at hk; exact hk
theorem JV {t:TypeId} {v:Value} (j:ev N σ x= .iface t v) (hp:∀ a,(∀ i∈N.F,a i=σ i)→Q (.panic [{v:= .iface t v,recovered:=false}]) a w):dI P N ops Q (⟨dst,.panic x,ty,pos,af,none⟩::rest) σ w:=by
 unfold dI wpList
 rw [if_pos (gx _ rfl _)]
 refine .inl ?_
 unfold Oper.wp
 have hr:(execOp (ev N σ) ⟨dst,.panic x,ty,pos,af,none⟩).run P w= .halt (.panic (.iface t v)) w:=by
  simp [execOp,j,Instr.panic]
 rw [fF,hr]
 exact ⟨σ,rfl,hp⟩
theorem Ja {t:TypeId} {d:TypeDesc} {v:Value} (hu:P.underlying t=some d) (hd:(match d with | .interface _=>false | _=>true)=true) (a:ev N σ x=v):(execOp (ev N σ) ⟨dst,.makeInterface t x,ty,pos,af,g⟩).run P w= .ok (.value (.iface t v)) w:=by
 cases d <;> first | (cases hd; done) | simp [execOp,Instr.makeInterface,a,dd hu]
def mJ (P:Program) (t:TypeId):Bool:=match P.underlying t with | some (.interface _)=>false | some _=>true | none=>false
theorem Jb {t:TypeId} {v:Value} (h:mJ P t=true) (a:ev N σ x=v):(execOp (ev N σ) ⟨dst,.makeInterface t x,ty,pos,af,g⟩).run P w= .ok (.value (.iface t v)) w:=by
 unfold mJ at h
 cases hd:P.underlying t with
 | none=>rw [hd] at h; cases h
 | some d=>rw [hd] at h; exact Ja hd (by cases d <;> first | rfl | cases h) a
theorem Lv {xt a:TypeId} {zv:Value} (hu:mJ P a=true) (hz:zeroV P a=some zv) (i:ev N σ x= .nilIface):(execOp (ev N σ) ⟨dst,.typeAssert x xt a true,ty,pos,af,g⟩).run P w= .ok (.value (.tuple #[zv,.bool false])) w:=by
 unfold mJ at hu
 cases hd:P.underlying a with
 | none=>rw [hd] at hu; cases hu
 | some d=>rw [hd] at hu; cases d <;> first | (cases hu; done) | simp [execOp,Instr.typeAssert,i,dd hd,rL hz]
theorem Lu {xt a:TypeId} {v:Value} (hu:mJ P a=true) (i:ev N σ x= .iface a v):(execOp (ev N σ) ⟨dst,.typeAssert x xt a true,ty,pos,af,g⟩).run P w= .ok (.value (.tuple #[v,.bool true])) w:=by
 unfold mJ at hu
 cases hd:P.underlying a with
 | none=>rw [hd] at hu; cases hu
 | some d=>rw [hd] at hu; cases d <;> first | (cases hu; done) | simp [execOp,Instr.typeAssert,i,dd hd]
variable {S:World→Prop} {fuel:Nat} {aR:Array Bool}
theorem nk {o:Oper} {Pn:List PanicEntry→World→Prop} (i:Nat) (hi:ops[i]? =some o) (hr:jD ops aR i=true) (hg:o.guard=none)
 (h:kH P N o σ w (fun σ w=>S w∧ez P N ops Q S fuel (aR.setIfInBounds i true) σ w) Pn) (hp:∀ c w',Pn c w'→∀ a,(∀ i∈N.F,a i=σ i)→Q (.panic c) a w'):ez P N ops Q S (fuel+1) aR σ w:=by
 unfold ez at*
 refine wpAnyH_all (rs:= [i]) (by simpa [jD] using hr) (by simp) ?_
 intro k hk
 obtain rfl :k=i:=by simpa using hk
 unfold wpOp
 simp only [hi]
 rw [if_pos (gx _ hg _)]
 exact .inl (rJ h (fun σ w hk=>hk) hp)
end
section
variable {P:Program} {N:Fm} {Q:Exit→(Nat→Value)→World→Prop} {σ:Nat→Value} {w:World} {ops:Array Oper} {S:World→Prop} {fuel:Nat} {aR:Array Bool}
theorem HQ {o a:Oper} {Pn:List PanicEntry→World→Prop} (i j:Nat) (hi:ops[i]? =some o) (hj:ops[j]? =some a) (hr:((Region.ready .any ops aR)== [i,j])=true) (hg:o.guard=none) (hg1:a.guard=none)
 (h:kH P N o σ w (fun σ w=>S w∧ez P N ops Q S fuel (aR.setIfInBounds i true) σ w) Pn) (hp:∀ c w',Pn c w'→∀ p,(∀ i∈N.F,p i=σ i)→Q (.panic c) p w')
 (h1:cE P N a σ w (fun σ w=>S w∧ez P N ops Q S fuel (aR.setIfInBounds j true) σ w)):ez P N ops Q S (fuel+1) aR σ w:=by
 unfold ez at*
 refine wpAnyH_all (rs:= [i,j]) (by simpa using hr) (by simp) ?_
 intro k hk
 simp only [List.mem_cons,List.not_mem_nil,or_false] at hk
 rcases hk with rfl | rfl
 · unfold wpOp
   simp only [hi]
   rw [if_pos (gx _ hg _)]
   exact .inl (rJ h (fun _ _ hk=>hk) hp)
 · unfold wpOp
   simp only [hj]
   rw [if_pos (gx _ hg1 _)]
   exact .inl (nL h1 (fun _ _ hk=>hk))
end
section
variable {P:Program} {N:Fm} {Q:Exit→(Nat→Value)→World→Prop} {σ:Nat→Value} {w:World} {ops:Array Oper} {S:World→Prop} {fuel r:Nat} {aR:Array Bool}
theorem z6 {o:Oper} {Pn:List PanicEntry→World→Prop} (i:Nat) (hi:ops[i]? =some o) (hr:jD ops aR i=true) (hg:o.guard=none)
 (h:kH P N o σ w (fun σ w=>S w∧e8 P N ops Q S r fuel (aR.setIfInBounds i true) σ w) Pn) (hp:∀ c w',Pn c w'→∀ j,(∀ i∈N.F,j i=σ i)→Q (.panic c) j w'):e8 P N ops Q S r (fuel+1) aR σ w:=by
 unfold e8 at*
 have a:Region.ready .any ops aR= [i]:=by simpa [jD] using hr
 refine ⟨fun h0=>absurd (a ▸ h0) (by simp),fun k hk=> ?_⟩
 rw [a] at hk
 obtain rfl :k=i:=by simpa using hk
 unfold wpOp
 simp only [hi]
 rw [if_pos (gx _ hg _)]
 exact .inl (rJ h (fun σ w hk=>⟨fun _=>hk.1,hk.2⟩) hp)
end
abbrev lu (P:Program) (fn:Func) (R:Value→World→Prop):Exit→Act→World→Prop :=bodyPostD P fn (fun e w'=> ∃ v,e= .returned v∧R v w')
theorem Gc {P:Program} {f:FuncId} {N:Nat} {fn:Func} {c:Code} {args:List Value} {w:World} {R:Value→World→Prop} (F:List Nat) (hf:P.funcs[f]? =some fn) (hb:fn.body=some c)
 (a:fn.ntmps=N) (hn:Nat.ble args.length N=true) (h:kE P ⟨N,[],F,none⟩ c (lu P fn R) (jl args) w):aU P f args.toArray w R:=by
 subst a
 refine calls_of_wp_defers hf hb ?_
 rw [q9 fn args F hn]
 exact wpIn_wide.1 h
section
variable {P:Program} {n:Nat} {D:List Deferred} {F:List Nat} {σ:Nat→Value} {w:World} {fn:Func} {R:Value→World→Prop} {B:Exit→Act→World→Prop}
theorem Gv {v:Value} (hr:(results fn (act ⟨n,[],F,none⟩ σ).tmps).run P w= .ok v w) (a:R v w):qb ⟨n,[],F,none⟩ (lu P fn R) .ret σ w:=⟨v,hr,v,rfl,a⟩
theorem II:¬LetsOut (lu P fn R):=fun ⟨_,_,h⟩=>by obtain ⟨v,h,_⟩:=h; cases h
theorem FY {id d:Nat} {f:FuncId} (hB:¬LetsOut B) {cs:Array Operand} {q s:TypeId} {p1 p:String} {i j:Array Edge} {y:Code} (caps:Array Value) (C:cs.toList.map (ev ⟨n,[],F,none⟩ σ)=caps.toList) (hd:d < n)
 (h:kE P ⟨n,[{target:= .fn (.func f) caps,args:= #[]}],F,none⟩ y B (cT σ d (.func (.func f) #[] caps)) w):
 kE P ⟨n,[],F,none⟩ (.region id #[⟨some d,.makeFunc (.func f) #[] cs,q,p1,i,none⟩,⟨none,.defer ⟨.value (.tmp d),#[],#[]⟩,s,p,j,none⟩] false) (Exit.then (y.wpIn (fe none) 0 P B) B) σ w:=by
 have E:cs.map (ev ⟨n,[],F,none⟩ σ)=caps:=Array.toList_inj.1 (by rw [Array.toList_map]; exact C)
 refine wpIn_region ?_
 have A:¬LetsOut (Exit.then (y.wpIn (fe none) 0 P B) B):=fun ⟨a,w,h⟩=>hB ⟨a,w,h⟩
 refine tR (r:=none) A rfl _ _ _ ?_
 show wpOps P _ _ [0,1] _ _
 simp only [wpOps,List.getElem?_toArray,List.getElem?_cons_zero,List.getElem?_cons_succ]
 rw [if_pos (gx _ rfl _)]
 refine .inl ?_
 unfold Oper.wp
 have h1:(execOp (act ⟨n,[],F,none⟩ σ).eval ⟨some d,.makeFunc (.func f) #[] cs,q,p1,i,none⟩).run P w= .ok (.value (.func (.func f) #[] caps)) w:=by
  rw [fF,mf,E]; simp
 rw [h1]
 simp only [Oper.upon]
 rw [if_pos (gx _ rfl _),gL]
 refine .inl ?_
 have h2:(execOp (act ⟨n,[],F,none⟩ (e7 σ (some d) (.func (.func f) #[] caps))).eval ⟨none,.defer ⟨.value (.tmp d),#[],#[]⟩,s,p,j,none⟩).run P w= .ok (.defer {target:= .fn (.func f) caps,args:= #[]}) w:=by
  have G:ev ⟨n,[],F,none⟩ (cT σ d (.func (.func f) #[] caps)) (.tmp d)= .func (.func f) #[] caps:=by
   show cond (Nat.blt d n) (cT σ d _ d) undef=_
   rw [show Nat.blt d n=true from by simpa using hd]
   show cT σ d _ d=_
   unfold cT; simp
  rw [fF]
  show (execOp (ev ⟨n,[],F,none⟩ (cT σ d (.func (.func f) #[] caps))) _).run P w=_
  simp [execOp,resolve,G,Deferred.ofValue]
 rw [h2]
 exact h
end
theorem Jz {P:Program} {ops:Array Oper} {Q:Exit→Act→List Frame→World→Prop} {cs:List Frame} (j:¬LetsOut fun e a w=>Q e a cs w):∀ (l:List Nat) (a:Act) (w:World),wpOps P ops (fun e a w=>Q e a cs w) l a w→wpOpsS P ops Q l a cs w:=by
 intro l
 induction l with
 | nil=>exact fun _ _ h=>h
 | cons i l ih=>
   intro a w h
   simp only [wpOps] at h
   simp only [wpOpsS]
   cases ho:ops[i]? with
   | none=>simp only [ho] at h ⊢; exact ih a w h
   | some o=>
     simp only [ho] at h ⊢
     by_cases hw:Region.wanted o (yielded ops a.tmps)=true
     · rw [if_pos hw] at h ⊢
       rcases h with h | h
       · unfold Oper.wp at h
         generalize (execOp a.eval o).run P w=x at h
         cases x with
         | ok n w'=>
           cases n <;> simp only [Oper.upon] at h ⊢ <;>
            first
             | exact ih _ _ h
             | exact Calls.mono h (fun e w'' he=>by cases e <;> first | exact ih _ _ he | exact he)
             | exact Rows.mono h (fun v w'' he=>ih _ _ he)
         | halt x w'=>cases x <;> simp only [Oper.upon] at h ⊢ <;> exact h
       · exact absurd h.2 j
     · rw [if_neg hw] at h ⊢
       exact ih _ _ h
theorem IL {P:Program} {ops:Array Oper} {Q j:Exit→Act→World→Prop} (i:∀ e a w,Q e a w→j e a w) (p:¬LetsOut Q):∀ (l:List Oper) (a:Act) (w:World),wpList P ops Q l a w→wpList P ops j l a w:=by
 intro l
 induction l with
 | nil=>exact fun _ _ h=>i _ _ _ h
 | cons o l ih=>
   intro a w h
   unfold wpList at h ⊢
   split at h
   · rename_i hw
     rw [if_pos hw]
     rcases h with h | h
     · left
       unfold Oper.wp at h ⊢
       generalize (execOp a.eval o).run P w=x at h
       cases x with
       | ok n w'=>
         cases n <;> simp only [Oper.upon] at h ⊢ <;>
          first
           | exact ih _ _ h
           | exact Calls.mono h (fun e w'' he=>by
            cases e with
            | returned v=>exact ih _ _ he
            | panicked c=>exact i _ _ _ he
            | outgrown=>exact absurd he p)
           | exact Rows.mono h (fun v w'' he=>ih _ _ he)
       | halt x w'=>cases x <;> simp only [Oper.upon] at h ⊢ <;> exact i _ _ _ h
     · exact absurd h.2 p
   · rename_i hw
     rw [if_neg hw]; exact ih _ _ h
theorem xK {P:Program} {f:FuncId} {fn:Func} {id N d:Nat} {ty:TypeId} {pos :String} {af:Array Edge} {rest:List Oper} {y:Code} {args:List Value} {w:World} {u q:FrameMode} {v:Value} {R:World→Prop}
 (hf:P.funcs[f]? =some fn) (hb:fn.body=some (.seq (.region id (⟨some d,.call ⟨.builtin .recover,#[],#[]⟩,ty,pos,af,none⟩::rest).toArray false) y)) (G:fn.ntmps=N) (hn:Nat.ble args.length N=true)
 (J:∀ (c₀:Frame) (cs:List Frame),c₀.mode=u→(recoverD (c₀::cs)=some (v,{c₀ with mode:=q} ::cs))∨(recoverD (c₀::cs)=none∧v= .nilIface∧q=u))
 (h:dI P ⟨N,[],[],none⟩ (⟨some d,.call ⟨.builtin .recover,#[],#[]⟩,ty,pos,af,none⟩::rest).toArray (jL (fun σ w=>cW P ⟨N,[],[],none⟩ y (fin P fn ⟨N,[],[],none⟩ fun _ w=>R w) σ w) (fin P fn ⟨N,[],[],none⟩ fun _ w=>R w)) rest (cT (jl args) d v) w):
 CallsD P f args.toArray u w fun e u1 w'=> ∃ v,e= .returned v∧u1=q∧R w':=by
 subst G
 refine callsD_of_wpS hf hb ?_
 intro c₀ cs hu
 rw [q9 fn args [] hn]
 refine wpS_seq (wpS_region ?_)
 have hsz:List.range (⟨some d,.call ⟨.builtin .recover,#[],#[]⟩,ty,pos,af,none⟩::rest).toArray.size=0::(List.range' 1 rest.length):=by
  rw [List.size_toArray,List.length_cons,List.range_eq_range',List.range'_succ]
 rw [hsz]
 simp only [wpOpsS,List.getElem?_toArray,List.getElem?_cons_zero]
 rw [if_pos (gx _ rfl _)]
 have M:(execOp (act ⟨fn.ntmps,[],[],none⟩ (jl args)).eval ⟨some d,.call ⟨.builtin .recover,#[],#[]⟩,ty,pos,af,none⟩).run P w= .ok .recover w:=by
  rw [fF]
  simp [execOp,resolve,invoke,builtin]
 rw [M]
 simp only
 obtain ⟨s,hcs2⟩:∃ s,s=({c₀ with mode:=q} ::cs:List Frame):=⟨_,rfl⟩
 have I:∀ X:Act→List Frame→Prop,X ((act ⟨fn.ntmps,[],[],none⟩ (jl args)).put (some d) v) s→
  (match recoverD (c₀::cs) with
   | some (v,A)=>X ((act ⟨fn.ntmps,[],[],none⟩ (jl args)).put (some d) v) A
   | none=>X ((act ⟨fn.ntmps,[],[],none⟩ (jl args)).put (some d) .nilIface) (c₀::cs)):=by
  intro X hX
  rcases J c₀ cs hu with h1 | ⟨h1,h2,h3⟩
  rw [h1]; subst hcs2; exact hX
  rw [h1]; subst h2 h3
  have :({c₀ with mode:=q} :Frame)=c₀:=by subst hu; rfl
  rw [this] at hcs2; subst hcs2; exact hX
 refine I (fun a A=>wpOpsS P _ _ _ a A w) ?_
 rw [gL]
 refine Jz ?_ _ _ _ ?_
 rintro ⟨a,w,h⟩
 simp only [Exit.thenS,bodyPostS] at h
 obtain ⟨_,_,h,_⟩:=h; cases h
 have h1:=wpOps_eq_wpList (P:=P) (ops:=(⟨some d,.call ⟨.builtin .recover,#[],#[]⟩,ty,pos,af,none⟩::rest).toArray) (Q:=fun e a w'=>Exit.thenS (Code.wpS P y (bodyPostS P fn c₀ cs fun e u1 w'=> ∃ v,e= .returned v∧u1=q∧R w')) (bodyPostS P fn c₀ cs fun e u1 w'=> ∃ v,e= .returned v∧u1=q∧R w') e a s w') rest 1 (fun j=>by simp [Nat.add_comm])
 rw [h1]
 unfold dI at h
 refine IL ?_ tY _ _ _ h
 intro e a w' hl
 have E:∀ (e:Exit) (σ:Nat→Value) (w':World),fin P fn ⟨fn.ntmps,[],[],none⟩ (fun _ w=>R w) e σ w'→bodyPostS P fn c₀ cs (fun e u1 w'=> ∃ v,e= .returned v∧u1=q∧R w') e (act ⟨fn.ntmps,[],[],none⟩ σ) s w':=by
  intro e σ w' p
  cases e with
  | normal=>obtain ⟨v,hr,C⟩:=p; exact ⟨rfl,q,hcs2,v,hr,v,rfl,rfl,C⟩
  | ret=>obtain ⟨v,hr,C⟩:=p; exact ⟨rfl,q,hcs2,v,hr,v,rfl,rfl,C⟩
  | _=>exact p.elim
 cases e with
 | normal=>
   obtain ⟨σ,rfl,p⟩:=hl
   refine wpS_of_wp ?_
   simp only [jL] at p
   unfold cW at p
   refine Code.wp_mono ?_ (wpIn_wide.1 p)
   intro e a w' hl
   cases e with
   | panic c=>obtain ⟨σ,rfl,p⟩:=hl; exact (p σ fun _ _=>rfl).elim
   | outgrown=>exact hl.elim
   | _=>obtain ⟨σ,rfl,p⟩:=hl; exact E _ σ w' p
 | panic c=>obtain ⟨σ,rfl,p⟩:=hl; exact (p σ fun _ _=>rfl).elim
 | outgrown=>exact hl.elim
 | ret=>obtain ⟨σ,rfl,p⟩:=hl; exact E .ret σ w' p
 | exit i=>obtain ⟨σ,rfl,p⟩:=hl; exact p.elim
 | goto i=>obtain ⟨σ,rfl,p⟩:=hl; exact p.elim
section
variable {P:Program} {n:Nat} {F:List Nat} {σ:Nat→Value} {w:World} {fn:Func} {R:Value→World→Prop}
theorem Gw {g:FuncId} {caps:Array Value} {M:World→Prop} (hu:(invoke (.fn (.func g) caps) #[]).run P w= .ok (.enter g caps) w)
 (hc:CallsD P g caps .returning w fun e u1 w'=> ∃ v,e= .returned v∧u1= .returning∧M w') (a:∀ w',M w'→∃ v,(results fn (act ⟨n,[{target:= .fn (.func g) caps,args:= #[]}],F,none⟩ σ).tmps).run P w'= .ok v w'∧R v w'):
 qb ⟨n,[{target:= .fn (.func g) caps,args:= #[]}],F,none⟩ (lu P fn R) .ret σ w:=by
 refine leaves_cons (by simp) hu ?_
 refine CallsD.mono hc ?_
 rintro e i w' ⟨v,rfl,rfl,hm⟩
 obtain ⟨v2,h1,h2⟩:=a w' hm
 exact ⟨v2,h1,v2,rfl,h2⟩
theorem Gx {g:FuncId} {caps:Array Value} {M:World→Prop} {v:Value} (hu:(invoke (.fn (.func g) caps) #[]).run P w= .ok (.enter g caps) w)
 (hc:CallsD P g caps (.panicking [{v:=v,recovered:=false}]) w fun e u1 w'=> ∃ x,e= .returned x∧u1= .panicking [{v:=v,recovered:=true}]∧M w') (a:∀ w',M w'→∃ v,(results fn (act ⟨n,[{target:= .fn (.func g) caps,args:= #[]}],F,none⟩ σ).tmps).run P w'= .ok v w'∧R v w'):
 qb ⟨n,[{target:= .fn (.func g) caps,args:= #[]}],F,none⟩ (lu P fn R) (.panic [{v:=v,recovered:=false}]) σ w:=by
 refine leaves_cons (by simp) hu ?_
 refine CallsD.mono hc ?_
 rintro e i w' ⟨x,rfl,rfl,hm⟩
 obtain ⟨v2,h1,h2⟩:=a w' hm
 exact ⟨v2,h1,v2,rfl,h2⟩
end
end Go.Hb
end
section
namespace Go.Hb
open Go.RowKit
def iW (w:World) (B e n:Nat) (v:Value) (xs:List Value):Prop :=
 ∃ a cp,v= .slice a n cp∧n≤cp∧(xs= []∨∃ b o cur z,a=some ⟨b,o,none⟩∧B≤b∧w.heap[b]? =some (.cells cur e z)∧∀ (j:Nat) u,xs[j]? =some u→cur[o+j]? =some u)
theorem Tg.Lz {w:World} {B e n:Nat} {v:Value} {xs:List Value} (h:Tg w B e n v xs):iW w B e n v xs:=by
 obtain ⟨a,cp,rfl,hc,i⟩:=h
 refine ⟨a,cp,rfl,hc,i.imp id ?_⟩
 rintro ⟨b,cur,z,ha,hb,hg,i⟩
 exact ⟨b,0,cur,z,ha,hb,hg,fun j u hu=>by rw [Nat.zero_add]; exact i j u hu⟩
theorem iW.cells {w:World} {B e n cp:Nat} {a:Option Addr} {xs:List Value} (h:iW w B e n (.slice a n cp) xs):n≤cp∧ak w.heap a xs:=by
 obtain ⟨p,c',hv,hc,i⟩:=h
 cases hv
 rcases i with h | ⟨b,o,cur,z,rfl,_,hg,i⟩
 · subst h; exact ⟨hc,ak.nil _ _⟩
 · refine ⟨hc,fun _=>rfl,fun j u hu=> ?_⟩
   show Hb.aC w.heap b (o+j)=_
   rw [aO hg]; exact i j u hu
theorem iW.slice {w:World} {B e n:Nat} {v:Value} {xs:List Value} (h:iW w B e n v xs):∃ a cp,v= .slice a n cp:=let ⟨a,cp,hv,_⟩:=h; ⟨a,cp,hv⟩
theorem iW.md {F:Nat→Prop} {w w':World} {B e n:Nat} {v:Value} {xs:List Value} (h:iW w B e n v xs) (hm:Md F w w') (hF:∀ k,F k→∀ cur z,w.heap[k]?≠some (.cells cur e z)):iW w' B e n v xs:=by
 obtain ⟨a,cp,rfl,hc,h | ⟨b,o,cur,z,rfl,hb,hg,i⟩⟩:=h
 · exact ⟨a,cp,rfl,hc,.inl h⟩
 · exact ⟨_,cp,rfl,hc,.inr ⟨b,o,cur,z,rfl,hb,by rw [hm.gj b (Array.getElem?_eq_some_iff.1 hg).1 (fun hk=>hF b hk cur z hg)]; exact hg,i⟩⟩
theorem iW.kV {w:World} {B e n m cp:Nat} {a:Option Addr} {xs:List Value} (h:iW w B e (n+1) (.slice a (n+1) cp) xs) (i:xs.length=(n+1)*m):iW w B e n (.slice (ed a cp 1 m) n (cp - 1)) (xs.drop m):=by
 obtain ⟨q,c',hv,hc,hh⟩:=h
 cases hv
 refine ⟨_,_,rfl,by omega,?_⟩
 rcases hh with rfl | ⟨b,o,cur,z,rfl,hb,hg,p⟩
 · exact .inl (by simp)
 · unfold ed
   by_cases h1:cp=1
   · refine .inl (List.eq_nil_of_length_eq_zero ?_)
     obtain rfl :n=0:=by omega
     rw [List.length_drop,i]; omega
   · rw [if_neg h1]
     refine .inr ⟨b,o+1 *m,cur,z,?_,hb,hg,fun j u hu=> ?_⟩
     · rw [Option.map_some,iD]
     · rw [List.getElem?_drop] at hu
       have :=p _ u hu
       rw [show o+1 *m+j=o+(m+j) from by omega]; exact this
def c4 (w:World) (B e:Nat) (vs:List Value) (ls:List (List Nat)):Prop :=vs.length=ls.length∧∀ (i:Nat) v l,vs[i]? =some v→ls[i]? =some l→Tg w B e l.length v (l.map aM)
theorem c4.nil (w:World) (B e:Nat):c4 w B e [] []:=⟨rfl,fun i v l hv=>by simp at hv⟩
theorem c4.md {F:Nat→Prop} {w w':World} {B e:Nat} {vs:List Value} {ls:List (List Nat)} (h:c4 w B e vs ls) (hm:Md F w w') (hF:∀ k,F k→∀ cur z,w.heap[k]?≠some (.cells cur e z)):c4 w' B e vs ls:=⟨h.1,fun i v l h1 h2=>(h.2 i v l h1 h2).md hm hF⟩
theorem c4.wk {w w':World} {B e:Nat} {vs:List Value} {ls:List (List Nat)} (h:c4 w B e vs ls) (hm:Wk w w'):c4 w' B e vs ls:=h.md hm fun _ hk=>hk.elim
theorem c4.mono {w:World} {B a e:Nat} {vs:List Value} {ls:List (List Nat)} (h:c4 w B e vs ls) (hB:a≤B):c4 w a e vs ls:=⟨h.1,fun i v l h1 h2=>(h.2 i v l h1 h2).mono hB⟩
theorem c4.snoc {w:World} {B e:Nat} {vs:List Value} {ls:List (List Nat)} {v:Value} {l:List Nat} (ha:c4 w B e vs ls) (a:Tg w B e l.length v (l.map aM)):c4 w B e (vs++ [v]) (ls++ [l]):=by
 refine ⟨by rw [List.length_append,List.length_append,ha.1]; rfl,fun i p q h1 h2=> ?_⟩
 have hl:=ha.1
 by_cases hi:i < vs.length
 · rw [List.getElem?_append_left hi] at h1
   rw [List.getElem?_append_left (by omega)] at h2
   exact ha.2 i p q h1 h2
 · rw [List.getElem?_append_right (by omega)] at h1
   rw [List.getElem?_append_right (by omega),← hl] at h2
   cases hj:i - vs.length with
   | zero=>rw [hj] at h1 h2; cases h1; cases h2; exact a
   | succ j=>rw [hj] at h1; simp at h1
def fJ (t ln:Nat) (e:Int):List PanicEntry:= [{v:= .iface t (.agg [.int .i64 1,.int .i64 (ln:Nat),.int .i64 e].toArray),recovered:=false}]
theorem dt {h:World} {b:Nat} {isK:Value→Prop} {f:Value→Option Value} (hm:bN h.heap b isK f):tag h b=1:=let ⟨_,h1,_⟩:=hm; Lw h1
def Wr (L:List Nat) (ms mt mc B:Nat) (w:World) (k:Nat):Prop :=B≤k∧(k=ms∨k=mt∨k=mc∨L.contains (tag w k)=true)
abbrev Mw (L:List Nat) (ms mt mc B:Nat) (w w':World):Prop :=Md (Wr L ms mt mc B w) w w'
section
variable {L:List Nat} {ms mt mc B:Nat} {w w' w'':World}
theorem Mw.trans (h:Mw L ms mt mc B w w') (a:Mw L ms mt mc B w' w''):Mw L ms mt mc B w w'':=by
 refine Md.trans' h a fun k hk hw=> ?_
 refine Classical.byContradiction fun hn=> ?_
 have :=Md.tag h hk hn
 unfold Wr at hw
 rw [this] at hw
 exact hn hw
theorem Wk.mw (h:Wk w w'):Mw L ms mt mc B w w':=h.mono fun _ _ hf=>hf.elim
theorem Mw.of {F:Nat→Prop} (h:Md F w w') (hF:TF w L F) (hB:∀ k,F k→B≤k):Mw L ms mt mc B w w':=h.mono fun k _ hf=>⟨hB k hf,.inr (.inr (.inr (hF k hf)))⟩
theorem Mw.wk {a:World} (h0:Wk a w) (h:Mw L ms mt mc B w w') (hB:a.heap.size≤B):Wk a w':=Md.trans' h0 h fun k hk hw=>by have :=hw.1; omega
theorem Wr.ne (hs:tag w ms=1) (a:tag w mt=1) (hc:tag w mc=1) {e:Nat} (hl:L.contains (e+2)=false):∀ k,Wr L ms mt mc B w k→∀ cur z,w.heap[k]?≠some (.cells cur e z):=by
 rintro k ⟨_,rfl | rfl | rfl | h⟩ cur z hg <;> have h9:=cR hg
 · omega
 · omega
 · omega
 · rw [h9,hl] at h; cases h
end
end Go.Hb
end
section
namespace Go.Hb
open Go.RowKit
section
variable {P:Program} {N:Fm} {σ:Nat→Value} {w:World} {dst:Option Nat} {ty:TypeId} {pos :String} {af:Array Edge} {g:Option (Nat×Bool)} {x y:Operand}
theorem Gk (d:Nat) {t e:TypeId} {a:Option Addr} {n c:Nat} (hu:P.underlying t=some (.slice e)):(Op.equalIn (d+1) t (.slice a n c) (.slice none 0 0)).run P w= .ok a.isNone w:=by
 cases a <;> simp [Op.equalIn,dd hu]
theorem Gl {t e:TypeId} {a:Option Addr} {n c:Nat} (hu:P.underlying t=some (.slice e)):(Op.equal t (.slice a n c) (.slice none 0 0)).run P w= .ok a.isNone w:=Gk 9999 hu
theorem mA {t j e:TypeId} {a:Option Addr} {n c:Nat} (hu:P.underlying t=some (.slice e)) (i:ev N σ x= .slice a n c) (hy:ev N σ y= .slice none 0 0):
 (execOp (ev N σ) ⟨dst,.binOp .eql t x y j,ty,pos,af,g⟩).run P w= .ok (.value (.bool a.isNone)) w:=by
 have h:(binOp .eql t (.slice a n c) (.slice none 0 0)).run P w= .ok (.bool a.isNone) w:=by
  simp only [binOp]; simp [Gl hu]
 simp [execOp,i,hy,eqGuard,h]
end
def Rd (h:Array Obj) (v:Value) (n size:Nat) (xs:List Value):Prop := ∃ a c,v= .slice a n c∧ak h a xs∧xs.length=n*size∧(a=none→n=0)
theorem Rd.fT {w:World} {B e size n:Nat} {v:Value} {xs:List Value} (h:w.ownsRow B e size v n xs):Rd w.heap v n size xs:=by
 obtain ⟨a,c,rfl,h1,_,_,h3⟩:=nu h
 refine ⟨a,c,rfl,h1,h.1,fun ha=> ?_⟩
 subst ha
 rcases h.2 with ⟨h4,h5⟩ | ⟨g,cap,cur,h4,_⟩
 · exact h5
 · simp at h4
theorem AE {w:World} {B e size n k cp:Nat} {a:Option Addr} {xs:List Value} (h:w.ownsRow B e size (.slice a n cp) n xs) (hk:k≤n) (ha:a≠none):w.ownsRow B e size (.slice a k cp) k (xs.take (k*size)):=by
 obtain ⟨h0,h⟩:=h
 refine ⟨by rw [List.length_take,h0]; exact Nat.min_eq_left (Nat.mul_le_mul_right _ hk),?_⟩
 rcases h with ⟨h1,_⟩ | ⟨g,cap,cur,h1,h2,h3,h4,h5,i,j⟩
 · simp only [Value.slice.injEq] at h1; exact absurd h1.1 ha
 · simp only [Value.slice.injEq,true_and] at h1
   obtain ⟨rfl,rfl⟩:=h1
   refine .inr ⟨g,_,cur,rfl,h2,h3,by omega,h5,i,?_⟩
   rw [← j,List.take_take,Nat.min_eq_left (Nat.mul_le_mul_right _ hk)]
section
variable {P:Program} {N:Fm} {σ:Nat→Value} {w:World} {dst:Option Nat} {ty:TypeId} {pos :String} {af:Array Edge} {g:Option (Nat×Bool)} {x y z u:Operand} {K:(Nat→Value)→World→Prop}
theorem KW {t n len cap:Nat} {a:Option Addr} {k k' s:IntKind} {i j m:Nat} (he:ep P t=some n) (p:ev N σ x= .slice a len cap) (hy:ev N σ y= .int k (i:Nat)) (hz:ev N σ z= .int k' (j:Nat)) (hu:ev N σ u= .int s (m:Nat)) (h:i≤j∧j≤m∧m≤cap):
 (execOp (ev N σ) ⟨dst,.slice t x (some y) (some z) (some u),ty,pos,af,g⟩).run P w= .ok (.value (.slice (ed a m i n) (j - i) (m - i))) w:=by
 have h1:(0:Int)≤(i:Int):=by omega
 have h2:(0:Int)≤(j:Int):=by omega
 have h3:(0:Int)≤(m:Int):=by omega
 unfold ep at he
 cases hd:P.underlying t with
 | none=>rw [hd] at he; cases he
 | some d=>
   rw [hd] at he
   cases d <;> first | (cases he; done) | skip
   rename_i e
   cases hi':P.info? e with
   | none=>simp [hi'] at he
   | some q=>
     simp only [hi',Option.map_some,Option.some.injEq] at he
     subst he
     simp only [execOp,Instr.sliceAt,Instr.slice,p,hy,hz,hu,Option.map_some,Instr.sliceBounds,Instr.sliceBound,asIntOf]
     simp [dd hd,fC hi',sizeOf,h.1,h.2.1,h.2.2,ed]
theorem CO {t e size bytes B n m cp c gg:Nat} {xs news:List Value} {a:Option Addr} (C:ei P t e size bytes=true) (p:w.ownsRow B e size (.slice (some ⟨gg,0,none⟩) n cp) n xs) (E:ev N σ x= .slice (some ⟨gg,0,none⟩) n cp)
 (hy:ev N σ y= .slice a m c) (hc:ak w.heap a news) (ha:a≠none) (hl:news.length=m*size) (h1:news.all Value.oneCell'=true) (A:n+m≤cp)
 (k:∀ w',Md (fun q=>q=gg) w w'→w'.ownsRow B e size (.slice (some ⟨gg,0,none⟩) (n+m) cp) (n+m) (xs++news)→K (e7 σ dst (.slice (some ⟨gg,0,none⟩) (n+m) cp)) w'):
 cE P N ⟨dst,.call ⟨.builtin .append,#[x,y],#[t,t]⟩,ty,pos,af,g⟩ σ w K:=by
 obtain ⟨hu,i,zv,hi,hz,hs,hby,I,G⟩:=mN C
 obtain ⟨ad,rfl⟩:∃ ad,a=some ad:=by cases a with | none=>exact absurd rfl ha | some ad=>exact ⟨ad,rfl⟩
 have hn:∀ j v,news[j]? =some v→w.cell? (ad.add j)=some v:=fun j v hj=>by
  have hne:news≠[]:=fun e=>by rw [e] at hj; simp at hj
  have h2:=hc.ok hne
  simp only [Option.some.injEq] at h2
  rw [h2,iD,jr]; exact hc.aC j v hj
 obtain ⟨w',hr,h2,h3⟩:=Go.run_append_fits (P:=P) (w:=w) B t ty e i size hu hi hs gg n cp xs p ad m c news hl hn (nV h1) A
 refine j6 (w':=w') (v:= .slice (some ⟨gg,0,none⟩) (n+m) cp) ?_ (k w' ⟨h3.os,h3.output,h3.size,fun q s hne=>h3.block q s (fun e=>hne (Option.some.inj e))⟩ h2)
 simp [execOp,resolve,invoke,builtin,E,hy,hr]
end
end Go.Hb
end
section
namespace Go.Hb
def lF (P:Program) (t:TypeId):Option (Nat×Nat):=
 match P.underlying t with
 | some (.array n e)=>(P.info? e).map fun i=>(n,i.size)
 | _=>none
section
variable {P:Program} {N:Fm} {σ:Nat→Value} {w:World} {dst:Option Nat} {ty:TypeId} {pos :String} {af:Array Edge} {g:Option (Nat×Bool)} {x y:Operand}
theorem il {t n a b off :Nat} {k:IntKind} {i:Int} (he:lF P t=some (n,a)) (p:ev N σ x= .pointer (some ⟨b,off,none⟩)) (hy:ev N σ y= .int k i) (h0:0≤i∧i < n):
 (execOp (ev N σ) ⟨dst,.indexAddr t x y,ty,pos,af,g⟩).run P w= .ok (.value (.pointer (some ⟨b,off+i.toNat*a,none⟩))) w:=by
 unfold lF at he
 cases hd:P.underlying t with
 | none=>rw [hd] at he; cases he
 | some d=>
   rw [hd] at he
   cases d <;> first | (cases he; done) | skip
   rename_i m e
   cases hi:P.info? e with
   | none=>simp [hi] at he
   | some j=>
     simp only [hi,Option.map_some,Option.some.injEq,Prod.mk.injEq] at he
     obtain ⟨rfl,rfl⟩:=he
     simp [execOp,Instr.indexAt,Instr.sureAddr,p,hy,asIntOf,dd hd,h0.1,h0.2,sizeOf,fC hi,iD]
end
theorem I6 {h:Array Obj} {b:Nat} {a:List UInt8} (hB:bD h b (marksOf a)) (c:UInt8):Hb.aC h b (0 +((c.toNat:Nat):Int).toNat*1)=some (.bool (decide (c∈a))):=by
 rw [hB.aC,show 0 +((c.toNat:Nat):Int).toNat*1=c.toNat from by omega]; exact I3 a c
theorem I7 {h:Array Obj} {b:Nat} {a:List UInt8} {c:UInt8} (hB:bD h b ((marksOf a).set (0 +((c.toNat:Nat):Int).toNat*1) (.bool true))):bD h b (marksOf (a++ [c])):=by
 rw [show 0 +((c.toNat:Nat):Int).toNat*1=c.toNat from by omega,I5] at hB; exact hB
end Go.Hb
end
section
namespace Go.Hb
theorem Ip (c:UInt8):∀ l:List UInt8,Lib.indexByte l c=dC c l:=by
 intro l
 induction l with
 | nil=>rfl
 | cons b l ih=>
   unfold Lib.indexByte
   rw [ih]
   rw [show dC c (b::l)=if (b::l).idxOf c < (b::l).length then ((b::l).idxOf c:Int) else -1 from rfl,List.idxOf_cons]
   by_cases h:(b==c)=true
   · rw [if_pos h,h]; rfl
   · have i:(b==c)=false :=by simpa using h
     rw [if_neg h,i]
     simp only [cond_false,List.length_cons]
     by_cases h1:l.idxOf c < l.length
     · have a:dC c l=l.idxOf c:=if_pos h1
       rw [a,if_neg (fun hb=>by have :=eq_of_beq hb; omega),if_pos (by omega)]; rfl
     · have a:dC c l= -1:=if_neg h1
       rw [a,if_pos (by decide),if_neg (by omega)]
theorem KG {P:Program} {f:FuncId} {fn:Func} (hf:P.funcs[f]? =some fn) (a:(fn.name== "runtime.NumGoroutine")=false) (hb:fn.body.isNone=true) (hn:Extern.findNext fn=none)
 (he:Extern.find fn=some Extern.BytealgIndexByte.indexByte) (l:List UInt8) (c:UInt8) (w:World):(callFunc f #[str l,.int .u8 c.toNat]).run P w= .ok (.value (.int .i64 (dC c l))) w:=by
 rw [run_callFunc_extern hf a hb hn he]
 unfold str
 rw [Lib.run_indexByteString]
 have h1:((c.toNat:Int)).toNat.toUInt8=c:=UInt8.toNat_inj.1 (by simp)
 rw [h1,Ip]
 rfl
theorem KF {P:Program} {f:FuncId} {fn:Func} (hf:P.funcs[f]? =some fn) (a:(fn.name== "runtime.NumGoroutine")=false) (hb:fn.body.isNone=true) (hn:Extern.findNext fn=none)
 (he:Extern.find fn=some Extern.BytealgCount.count) (l:List UInt8) (c:UInt8) (w:World):(callFunc f #[str l,.int .u8 c.toNat]).run P w= .ok (.value (.int .i64 (l.count c:Nat))) w:=by
 rw [run_callFunc_extern hf a hb hn he]
 unfold str
 rw [Lib.run_countString]
 have h1:((c.toNat:Int)).toNat.toUInt8=c:=UInt8.toNat_inj.1 (by simp)
 rw [h1]
 rfl
section
variable {P:Program} {N:Fm} {σ:Nat→Value} {w:World} {dst:Option Nat} {ty:TypeId} {pos :String} {af:Array Edge} {g:Option (Nat×Bool)}
theorem xR {f:FuncId} {a b v:Value} {args:Array Operand} {i:Array TypeId} (h:(callFunc f #[a,b]).run P w= .ok (.value v) w) (j:args.toList.map (ev N σ)= [a,b]):
 (execOp (ev N σ) ⟨dst,.call ⟨.value (.func f),args,i⟩,ty,pos,af,g⟩).run P w= .ok (.value v) w:=by
 have :args.map (ev N σ)= #[a,b]:=by rw [← Array.toList_inj,Array.toList_map,j]
 simp [execOp,resolve,ev,Deferred.ofValue,invoke,this,h]
end
end Go.Hb
end
section
namespace Go.Hb
open Go.RowKit
theorem KJ {L:List Value} {o:Nat} {v:Value} (h:o < L.length):(L.set o v).take (o+1)=L.take o++ [v]:=by
 rw [List.set_eq_take_append_cons_drop,if_pos h,List.take_append,List.length_take,Nat.min_eq_left (by omega),Nat.add_sub_cancel_left,List.take_of_length_le (by rw [List.length_take]; omega)]
 rfl
theorem KI {L:List Value} {o m:Nat} {v:Value} (h:o < m):(L.set o v).drop m=L.drop m:=by
 rw [List.drop_set,if_pos h]
theorem Bb (b e:Nat):∀ (vs:List Value) (o:Nat) (L:List Value) (w:World),w.heap[b]? =some (.cells L.toArray e (0,0))→o+vs.length≤L.length→
 (w.setCells b o vs).heap[b]? =some (.cells (L.take o++vs++L.drop (o+vs.length)).toArray e (0,0))∧Md (fun k=>k=b) w (w.setCells b o vs):=by
 intro vs
 induction vs with
 | nil=>intro o L w hb _; exact ⟨by simpa [World.setCells] using hb,Md.refl _ _⟩
 | cons v r ih=>
   intro o L w hb hl
   simp only [List.length_cons] at hl
   have h1:(w.setCell ⟨b,o,none⟩ v).heap[b]? =some (.cells (L.set o v).toArray e (0,0)):=by
    have hlt:=(Array.getElem?_eq_some_iff.1 hb).1
    have hv:w.heap[b]= .cells L.toArray e (0,0):=(Array.getElem?_eq_some_iff.1 hb).2
    simp only [World.setCell]
    rw [Array.getElem?_eq_getElem (by simpa using hlt),Array.getElem_modify]
    simp [hv,List.setIfInBounds_toArray]
   have a:Md (fun k=>k=b) w (w.setCell ⟨b,o,none⟩ v):=⟨rfl,rfl,by simp [World.setCell],fun k _ hk=>Below.heap_setCell w _ v k hk⟩
   obtain ⟨h2,h3⟩:=ih (o+1) (L.set o v) _ h1 (by rw [List.length_set]; omega)
   refine ⟨?_,Md.trans a h3⟩
   show ((w.setCell ⟨b,o,none⟩ v).setCells b (o+1) r).heap[b]? =_
   rw [h2,KJ (by omega),KI (by omega),List.length_cons,show o+1 +r.length=o+(r.length+1) from by omega]
   simp
section
variable {P:Program} {N:Fm} {σ:Nat→Value} {w:World} {ty:TypeId} {pos :String} {af:Array Edge} {g:Option (Nat×Bool)} {x:Operand} {K:(Nat→Value)→World→Prop}
theorem EW {t e B n k cp c' m:Nat} {a:Option Addr} {xs:List Value} {z:Value} (I:P.underlying t=some (.slice e)) (hz:zeroV P e=some z) (h1:z.oneCell'=true) (C:w.ownsRow B e 1 (.slice a n cp) n xs)
 (p:ev N σ x= .slice (ed a cp k 1) m c') (hm:m=n - k) (hk:k < n) (M:∀ w',Md (fun q=>(Value.slice a n cp).ownBlock=some q) w w'→w'.ownsRow B e 1 (.slice a n cp) n (xs.take k++List.replicate (n - k) z)→K σ w'):
 cE P N ⟨none,.call ⟨.builtin .clear,#[x],#[t]⟩,ty,pos,af,g⟩ σ w K:=by
 obtain ⟨h0,h⟩:=C
 subst hm
 rcases h with ⟨h,rfl⟩ | ⟨gg,O,cur,h,hB,hg,hle,A,hsz,J⟩
 · omega
 · simp only [Value.slice.injEq,true_and] at h
   obtain ⟨rfl,rfl⟩:=h
   have G:ed (some ⟨gg,0,none⟩) cp k 1=some ⟨gg,k,none⟩:=by
    unfold ed; rw [if_neg (by omega)]; simp [iD]
   rw [G] at p
   have i:w.heap[gg]? =some (.cells cur.toList.toArray e (0,0)):=by simpa using hg
   have hcl:cur.toList.length=cp*1:=by rw [Array.length_toList]; exact hsz
   have hrun:=Lib.run_clear_slice (P:=P) w t e ty z I (fun w=>rL hz w) (by cases z <;> first | rfl | (cases h1; done)) h1 gg k (n - k) c' (by omega)
    (fun j hj=>by rw [jr,aO i]; simp; omega) (fun j hj=>by simp only [World.frozen?,show w.heap[gg]? =_ from i]; simp)
   obtain ⟨h2,h3⟩:=Bb gg e (List.replicate (n - k) z) k cur.toList w i (by rw [List.length_replicate,hcl]; omega)
   refine j6 (w':=w.setCells gg k (List.replicate (n - k) z)) (v:= .tuple #[]) ?_ (M _ (h3.mono fun q _ E=>by subst E; rfl) ⟨?_,.inr ⟨gg,cp,_,rfl,hB,h2,hle,A,?_,?_⟩⟩)
   · simp [execOp,resolve,invoke,builtin,p,hrun]
   · rw [List.length_append,List.length_take,List.length_replicate,h0]; omega
   · simp only [List.size_toArray,List.length_append,List.length_take,List.length_drop,List.length_replicate,hcl]; omega
   · rw [List.length_replicate,Nat.mul_one]
     have s:(cur.toList.take k++List.replicate (n - k) z++cur.toList.drop (k+(n - k))).toArray.toList=(cur.toList.take k++List.replicate (n - k) z)++cur.toList.drop (k+(n - k)):=rfl
     rw [s,List.take_append,List.length_append,List.length_take,List.length_replicate,hcl,Nat.min_eq_left (by omega),show n - (k+(n - k))=0 by omega,List.take_zero,List.append_nil,List.take_of_length_le (by rw [List.length_append,List.length_take,List.length_replicate,hcl]; omega)]
     rw [← J,List.take_take,Nat.mul_one,Nat.min_eq_left (by omega)]
theorem EX {t e B n cp c' m:Nat} {a:Option Addr} {xs:List Value} {z:Value} (I:P.underlying t=some (.slice e)) (hz:zeroV P e=some z) (h1:z.oneCell'=true) (C:w.ownsRow B e 1 (.slice a n cp) n xs) (ha:a≠none)
 (p:ev N σ x= .slice (ed a cp n 1) m c') (hm:0 < m∧n+m≤cp) (M:∀ w',Md (fun q=>(Value.slice a n cp).ownBlock=some q) w w'→w'.ownsRow B e 1 (.slice a n cp) n xs→K σ w'):
 cE P N ⟨none,.call ⟨.builtin .clear,#[x],#[t]⟩,ty,pos,af,g⟩ σ w K:=by
 obtain ⟨h0,h⟩:=C
 rcases h with ⟨h,rfl⟩ | ⟨gg,O,cur,h,hB,hg,hle,A,hsz,J⟩
 · simp only [Value.slice.injEq] at h; exact absurd h.1 ha
 · simp only [Value.slice.injEq,true_and] at h
   obtain ⟨rfl,rfl⟩:=h
   have G:ed (some ⟨gg,0,none⟩) cp n 1=some ⟨gg,n,none⟩:=by
    unfold ed; rw [if_neg (by omega)]; simp [iD]
   rw [G] at p
   have i:w.heap[gg]? =some (.cells cur.toList.toArray e (0,0)):=by simpa using hg
   have hcl:cur.toList.length=cp*1:=by rw [Array.length_toList]; exact hsz
   have hrun:=Lib.run_clear_slice (P:=P) w t e ty z I (fun w=>rL hz w) (by cases z <;> first | rfl | (cases h1; done)) h1 gg n m c' hm.1
    (fun j hj=>by rw [jr,aO i]; simp; omega) (fun j hj=>by simp only [World.frozen?,show w.heap[gg]? =_ from i]; simp)
   obtain ⟨h2,h3⟩:=Bb gg e (List.replicate m z) n cur.toList w i (by rw [List.length_replicate,hcl]; omega)
   refine j6 (w':=w.setCells gg n (List.replicate m z)) (v:= .tuple #[]) ?_ (M _ (h3.mono fun q _ E=>by subst E; rfl) ⟨h0,.inr ⟨gg,cp,_,rfl,hB,h2,hle,A,?_,?_⟩⟩)
   · simp [execOp,resolve,invoke,builtin,p,hrun]
   · simp only [List.size_toArray,List.length_append,List.length_take,List.length_drop,List.length_replicate,hcl]; omega
   · rw [List.length_replicate,Nat.mul_one]
     have s:(cur.toList.take n++List.replicate m z++cur.toList.drop (n+m)).toArray.toList=cur.toList.take n++(List.replicate m z++cur.toList.drop (n+m)):=List.append_assoc _ _ _
     rw [s,List.take_append,List.length_take,hcl,Nat.min_eq_left (by omega),Nat.sub_self,List.take_zero,List.append_nil,List.take_of_length_le (by rw [List.length_take]; omega),← J,Nat.mul_one]
end
end Go.Hb
end
section
namespace Go.Hb
open Go.RowKit
def r5 (P:Program) (t:TypeId):Option (List Value):=
 match P.info? t,P.underlying t with
 | some it,some (.array _ e)=>
   match it.zero,P.info? e with
   | some z,some ie=>if ie.size=1 then some z.cells.toList else none
   | _,_=>none
 | _,_=>none
def oG:List Value→List (Nat×Value)→Option (List Value)
 | a,[]=>some a
 | a,(i,v)::r=>if (v.oneCell' && Nat.blt i a.length)=true then oG (a.set i v) r else none
theorem JZ {a L:List Value} {ps:List (Nat×Value)} (h:oG a ps=some L):Instr.fill (fun i=>some (i*1,1)) a.toArray ps=some L.toArray:=by
 induction ps generalizing a with
 | nil=>simp only [oG,Option.some.injEq] at h; subst h; rfl
 | cons q r ih=>
   obtain ⟨i,v⟩:=q
   rw [oG] at h
   split at h
   · rename_i hc
     simp only [Bool.and_eq_true] at hc
     have hv:=l0 hc.1
     have j:i < a.length:=Nat.le_of_ble_eq_true hc.2
     simp only [Instr.fill,hv,Nat.mul_one]
     rw [if_neg (by simp; omega)]
     have :=ih h
     simp only [Nat.mul_one] at this
     rw [← this]
     simp
   · cases h
section
variable {P:Program} {N:Fm} {σ:Nat→Value} {w:World} {dst:Option Nat} {ty:TypeId} {pos :String} {af:Array Edge} {g:Option (Nat×Bool)}
theorem wx {t:TypeId} {parts:Array (Nat×Operand)} {a L:List Value} {ps:List (Nat×Value)} (h:r5 P t=some a) (hp:parts.toList.map (fun q=>(q.1,ev N σ q.2))=ps) (i:oG a ps=some L):
 (execOp (ev N σ) ⟨dst,.build t parts,ty,pos,af,g⟩).run P w= .ok (.value (.agg L.toArray)) w:=by
 unfold r5 at h
 split at h
 · rename_i it n e hi hu
   split at h
   · rename_i z j hz he
     split at h
     · rename_i hs
       simp only [Option.some.injEq] at h
       subst h
       have hb:P.built t (parts.map (fun q=>(q.1,ev N σ q.2))).toList=some L.toArray:=by
        have :=JZ i
        simp only [Array.toArray_toList] at this
        simp only [Program.built,hi,hu,hz,he,hs,Array.toList_map,hp]; exact this
       simp [execOp,run_build w t _ _ hb]
     · cases h
   · cases h
 · cases h
end
end Go.Hb
end
section
namespace Go.Hb
abbrev cV:Type :=Tx×List Nat
noncomputable def eA (F:aH) (row:List Tx):Except Nat cV:=
 if row.length≠1 then .error 111
 else if (aV (row.getD 0 [])).2.2.2≠0 then .error (aV (row.getD 0 [])).2.2.2
 else if eh (aV (row.getD 0 [])).1=false∨(aV (row.getD 0 [])).1= [] then .error 21
 else if 64 < (aV (row.getD 0 [])).1.length then .error 22
 else if (aV (row.getD 0 [])).2.2.1=false then .ok ((aV (row.getD 0 [])).1,[])
 else match ec F.kind F.aliases (aV (row.getD 0 [])).2.1 with
  | .error e=> .error e
  | .ok set =>if set.all (dw F)=true then .ok ((aV (row.getD 0 [])).1,set) else .error 120
section
variable {F:aH} {row:List Tx}
theorem yy (h:row.length≠1):eA F row= .error 111:=if_pos h
theorem qa (h:row.length=1) (h1:(aV (row.getD 0 [])).2.2.2≠0):eA F row= .error (aV (row.getD 0 [])).2.2.2:=by
 unfold eA; rw [if_neg (fun h2=>h2 h),if_pos h1]
variable (h:row.length=1) (h1:(aV (row.getD 0 [])).2.2.2=0)
include h h1
theorem qc (h2:eh (aV (row.getD 0 [])).1=false∨(aV (row.getD 0 [])).1= []):eA F row= .error 21:=by
 unfold eA; rw [if_neg (fun h2=>h2 h),if_neg (fun h2=>h2 h1),if_pos h2]
variable (h2:eh (aV (row.getD 0 [])).1=true) (h3:(aV (row.getD 0 [])).1≠[])
include h2 h3
omit h h1 in
theorem n9:¬(eh (aV (row.getD 0 [])).1=false∨(aV (row.getD 0 [])).1= []):=fun h=>h.elim (fun h=>by rw [h2] at h; cases h) h3
theorem yz (h4:64 < (aV (row.getD 0 [])).1.length):eA F row= .error 22:=by
 unfold eA; rw [if_neg (fun h2=>h2 h),if_neg (fun h2=>h2 h1),if_neg (n9 h2 h3),if_pos h4]
variable (h4:¬64 < (aV (row.getD 0 [])).1.length)
include h4
theorem sY (h5:(aV (row.getD 0 [])).2.2.1=false):eA F row= .ok ((aV (row.getD 0 [])).1,[]):=by
 unfold eA; rw [if_neg (fun h2=>h2 h),if_neg (fun h2=>h2 h1),if_neg (n9 h2 h3),if_neg h4,if_pos h5]
variable (h5:(aV (row.getD 0 [])).2.2.1=true)
include h5
theorem yA {e:Nat} (a:ec F.kind F.aliases (aV (row.getD 0 [])).2.1= .error e):eA F row= .error e:=by
 unfold eA; rw [if_neg (fun h2=>h2 h),if_neg (fun h2=>h2 h1),if_neg (n9 h2 h3),if_neg h4,if_neg (by rw [h5]; exact Bool.noConfusion),a]
theorem yB {set :List Nat} {i:Nat} (a:ec F.kind F.aliases (aV (row.getD 0 [])).2.1= .ok set) (hi:i < set.length) (j:dw F (set.getD i 0)=false):eA F row= .error 120:=by
 unfold eA; rw [if_neg (fun h2=>h2 h),if_neg (fun h2=>h2 h1),if_neg (n9 h2 h3),if_neg h4,if_neg (by rw [h5]; exact Bool.noConfusion),a]
 exact if_neg (by rw [wa 0 hi j]; exact Bool.noConfusion)
theorem sZ {set :List Nat} (a:ec F.kind F.aliases (aV (row.getD 0 [])).2.1= .ok set) (j:∀ i,i < set.length→dw F (set.getD i 0)=true):eA F row= .ok ((aV (row.getD 0 [])).1,set):=by
 unfold eA; rw [if_neg (fun h2=>h2 h),if_neg (fun h2=>h2 h1),if_neg (n9 h2 h3),if_neg h4,if_neg (by rw [h5]; exact Bool.noConfusion),a]
 exact if_pos (wc 0 j)
end
noncomputable def eW (F:aH) (eof:Nat):Nat→List Rw→Except (Nat×Nat) (List cV)
 | 0,[]=> .ok []
 | _+1,[]=> .error (eof,116)
 | 0,(ln,_)::_=> .error (ln,116)
 | n+1,(ln,row)::rows=>match eA F row with
   | .error e=> .error (ln,e)
   | .ok x=>match eW F eof n rows with
     | .error e=> .error e
     | .ok r=> .ok (x::r)
noncomputable def fi (F:aH) (t:Tx):Except (Nat×Nat) (List cV):=
 if 65536 < t.length then .error (0,10)
 else match bd t with
  | []=> .error ((a6 t).length+1,116)
  | (ln,row)::rows=>if row.length≠1 then .error (ln,111) else match dy (row.getD 0 []) 8192 with
    | .error e=> .error (ln,e)
    | .ok n=>eW F ((a6 t).length+1) n rows
def fc (F:aH) (eof:Nat) (T:Except (Nat×Nat) (List cV)) (xs:List cV) (n:Nat) (rows:List Rw):Prop :=
 T=match eW F eof n rows with
  | .error e=> .error e
  | .ok r=> .ok (xs++r)
section
variable {F:aH} {eof n ln:Nat} {T:Except (Nat×Nat) (List cV)} {xs:List cV} {rows:List Rw} {row:List Tx}
theorem fc.start:fc F eof (eW F eof n rows) [] n rows:=by
 unfold fc; cases eW F eof n rows <;> rfl
theorem fc.done (h:fc F eof T xs 0 []):T= .ok xs:=by
 unfold fc at h; rw [eW] at h; simpa using h
theorem fc.ends (h:fc F eof T xs n []) (hn:0 < n):T= .error (eof,116):=by
 obtain ⟨m,rfl⟩:∃ m,n=m+1:=⟨n - 1,by omega⟩
 unfold fc at h; rw [eW] at h; exact h
theorem fc.more (h:fc F eof T xs 0 ((ln,row)::rows)):T= .error (ln,116):=by
 unfold fc at h; rw [eW] at h; exact h
theorem fc.bad {e:Nat} (h:fc F eof T xs n ((ln,row)::rows)) (hn:0 < n) (he:eA F row= .error e):T= .error (ln,e):=by
 obtain ⟨m,rfl⟩:∃ m,n=m+1:=⟨n - 1,by omega⟩
 unfold fc at h; rw [eW,he] at h; exact h
theorem fc.step {x:cV} (h:fc F eof T xs n ((ln,row)::rows)) (hn:0 < n) (he:eA F row= .ok x):fc F eof T (xs++ [x]) (n - 1) rows:=by
 obtain ⟨m,rfl⟩:∃ m,n=m+1:=⟨n - 1,by omega⟩
 unfold fc at h ⊢; rw [eW,he] at h
 rw [h,Nat.add_sub_cancel]
 simp only
 cases eW F eof m rows <;> simp
end
section
variable {F:aH} {t:Tx}
theorem ym (h:65536 < t.length):fi F t= .error (0,10):=if_pos h
theorem yn (h:¬65536 < t.length) (h1:bd t= []):fi F t= .error ((a6 t).length+1,116):=by
 unfold fi; rw [if_neg h,h1]
variable {ln:Nat} {row:List Tx} {rows:List Rw} (h:¬65536 < t.length) (h1:bd t=(ln,row)::rows)
include h h1
theorem F4 (h2:row.length≠1):fi F t= .error (ln,111):=by
 unfold fi; rw [if_neg h,h1]; exact if_pos h2
theorem F5 (h2:row.length=1) {e:Nat} (h3:dy (row.getD 0 []) 8192= .error e):fi F t= .error (ln,e):=by
 unfold fi; rw [if_neg h,h1]; simp only; rw [if_neg (fun h=>h h2),h3]
theorem yl (h2:row.length=1) {n:Nat} (h3:dy (row.getD 0 []) 8192= .ok n):fi F t=eW F ((a6 t).length+1) n rows:=by
 unfold fi; rw [if_neg h,h1]; simp only; rw [if_neg (fun h=>h h2),h3]
end
theorem He {α:Type} {a b:List α} {i:Nat} {d:α} (h:i < a.length):(a++b).getD i d=a.getD i d:=by
 rw [List.getD_eq_getElem?_getD,List.getD_eq_getElem?_getD,List.getElem?_append_left h]
def idxs (s:Tx) (xs:List cV):List Nat:=(List.range xs.length).filter fun i=>decide ((xs.getD i ([],[])).1=s)
theorem qH (s:Tx) (xs:List cV) (x:cV):idxs s (xs++ [x])=idxs s xs++(if x.1=s then [xs.length] else []):=by
 unfold idxs
 rw [List.length_append,List.length_singleton,List.range_succ,List.filter_append]
 congr 1
 · refine List.filter_congr fun i hi=> ?_
   have hi:i < xs.length:=by simpa using hi
   rw [He hi]
 · by_cases a:x.1=s <;> simp [List.filter,a]
theorem mE (s:Tx) (xs:List cV):(idxs s xs).length≤xs.length:=by
 unfold idxs; have :=List.length_filter_le (fun i=>decide ((xs.getD i ([],[])).1=s)) (List.range xs.length); simpa using this
theorem zP {s:Tx} {xs:List cV} {i:Nat} (h:i < xs.length):idxs s (xs.take (i+1))=idxs s (xs.take i)++(if (xs.getD i ([],[])).1=s then [i] else []):=by
 rw [ef xs i ([],[]) h,qH,List.length_take,Nat.min_eq_left (by omega)]
theorem Ge {F:aH} {eof:Nat} :∀ {n:Nat} {rows:List Rw} {r:List cV},eW F eof n rows= .ok r→r.length=n∧rows.length=n:=by
 intro n
 induction n with
 | zero=>
   intro rows r h
   cases rows with
   | nil=>rw [eW] at h; cases h; exact ⟨rfl,rfl⟩
   | cons q rows=>rw [eW] at h; cases h
 | succ n ih=>
   intro rows r h
   cases rows with
   | nil=>rw [eW] at h; cases h
   | cons q rows=>
     rw [eW] at h
     split at h
     · cases h
     · split at h
       · cases h
       · rename_i h2
         cases h
         have :=ih h2
         simp only [List.length_cons]; omega
end Go.Hb
end
section
namespace Go.Hb
section
variable {P:Program} {N:Fm} {σ:Nat→Value} {w:World} {dst:Option Nat} {ty:TypeId} {pos :String} {af:Array Edge} {g:Option (Nat×Bool)} {x:Operand}
theorem CP {t n i b:Nat} (he:lF P t=some (n,i)) (a:ev N σ x= .pointer (some ⟨b,0,none⟩)):
 (execOp (ev N σ) ⟨dst,.slice t x none none none,ty,pos,af,g⟩).run P w= .ok (.value (.slice (some ⟨b,0,none⟩) n n)) w:=by
 unfold lF at he
 cases hd:P.underlying t with
 | none=>rw [hd] at he; cases he
 | some d=>
   rw [hd] at he
   cases d <;> first | (cases he; done) | skip
   rename_i m e
   cases hi:P.info? e with
   | none=>simp [hi] at he
   | some j=>
     simp only [hi,Option.map_some,Option.some.injEq,Prod.mk.injEq] at he
     obtain ⟨rfl,rfl⟩:=he
     simp [execOp,Instr.sliceAt,Instr.sureAddr,Instr.sliceBounds,a,dd hd,sizeOf,fC hi,iD]
def s9 (P:Program) (t f:Nat):Option (Nat×Nat):=
 match P.underlying t with
 | some (.struct a)=>(a[f]?).map fun d=>(d.type,d.offset)
 | _=>none
theorem GM {t f a off n:Nat} {cs vs:List Value} (h:s9 P t f=some (a,off)) (ha:cz P a=some (some n)) (j:ev N σ x= .agg cs.toArray) (hv:(cs.drop off).take n=vs):
 (execOp (ev N σ) ⟨dst,.field t x f,ty,pos,af,g⟩).run P w= .ok (.value (.agg vs.toArray)) w:=by
 subst hv
 unfold s9 at h
 cases hd:P.underlying t with
 | none=>rw [hd] at h; cases h
 | some d=>
   rw [hd] at h
   cases d <;> first | (cases h; done) | skip
   rename_i p
   simp only [Option.map_eq_some_iff] at h
   obtain ⟨fd,hf,he⟩:=h
   cases he
   unfold cz at ha
   cases hd2:P.underlying fd.type with
   | none=>rw [hd2] at ha; cases ha
   | some d2=>
     rw [hd2] at ha
     cases hi:P.info? fd.type with
     | none=>simp [Program.underlying,hi] at hd2
     | some i=>
       rw [hi] at ha
       have q:cs.toArray.extract fd.offset (fd.offset+n)=((cs.drop fd.offset).take n).toArray:=by simp
       cases d2 <;> first
        | (cases ha; done)
        | (simp only [Option.map_some,Option.some.injEq] at ha; subst ha
           simp [execOp,Instr.field,dd hd,hf,j,asAgg,part,isAgg,dd hd2,sizeOf,fC hi])
end
end Go.Hb
end
section
namespace Go.Hb
def jS:bV:=⟨0,0,false,0,0⟩
def eu (F:aH):bV:=F.aX.getD (F.aX.length - 1) jS
noncomputable def fw (F:aH) (ln:Nat) (row:List Tx):Except Nat aH:=
 if row.getD 0 []=dD then (match gH ln row with | .error e=> .error e | .ok x=> .ok {F with bL:=F.bL++ [x]})
 else if row.getD 0 []=db then (match gN F.kind ln row with | .error e=> .error e | .ok x=> .ok {F with aliases:=F.aliases++ [x]})
 else match ew F.kind F.aliases (eu F) ln row with | .error e=> .error e | .ok x=> .ok {F with rules:=F.rules++ [x]}
noncomputable def eD (hd:List Tx) (eof:Nat):Nat→aH→List Rw→Except (Nat×Nat) (aH×List Rw)
 | 0,F,rows=> .ok (F,rows)
 | _+1,F,[]=> .error (eof,116)
 | n+1,F,(ln,row)::rows=>if row.take hd.length≠hd then .error (ln,116) else match fw F ln row with
   | .error e=> .error (ln,e)
   | .ok F'=>eD hd eof n F' rows
theorem rv {row:List Tx} {k:Tx} (h:row≠[]):row.take [k].length= [k]↔row.getD 0 []=k:=by
 cases row with
 | nil=>exact absurd rfl h
 | cons a l=>simp
theorem ry {row:List Tx} {k j:Tx} :row.take [k,j].length= [k,j]↔2≤row.length∧row.getD 0 []=k∧row.getD 1 []=j:=by
 match row with
 | []=>simp
 | [a]=>simp
 | a::b::l=>simp
section
variable {eof:Nat}
theorem Hm:∀ (n:Nat) (F:aH) (rows:List Rw),eD [dD] eof n F rows=match group [dD] gH eof n rows with | .error e=> .error e | .ok r=> .ok ({F with bL:=F.bL++r.1},r.2):=by
 intro n
 induction n with
 | zero=>intro F rows; simp [eD,group]
 | succ n ih=>
   intro F rows
   cases rows with
   | nil=>simp [eD,group]
   | cons q rows=>
     obtain ⟨ln,row⟩:=q
     simp only [eD,group]
     by_cases a:row.take [dD].length≠[dD]
     · rw [if_pos a,if_pos a]
     · rw [if_neg a,if_neg a]
       have h0:row.getD 0 []=dD:=by
        refine (rv ?_).1 (Classical.not_not.1 a)
        rintro rfl; exact a (by simp)
       unfold fw
       rw [if_pos h0]
       cases gH ln row with
       | error e=>rfl
       | ok x=>
         simp only
         rw [ih]
         cases group [dD] gH eof n rows with
         | error e=>rfl
         | ok r=>simp only [List.append_assoc]; rfl
theorem Hl:∀ (n:Nat) (F:aH) (rows:List Rw),eD [db] eof n F rows=match group [db] (gN F.kind) eof n rows with | .error e=> .error e | .ok r=> .ok ({F with aliases:=F.aliases++r.1},r.2):=by
 intro n
 induction n with
 | zero=>intro F rows; simp [eD,group]
 | succ n ih=>
   intro F rows
   cases rows with
   | nil=>simp [eD,group]
   | cons q rows=>
     obtain ⟨ln,row⟩:=q
     simp only [eD,group]
     by_cases a:row.take [db].length≠[db]
     · rw [if_pos a,if_pos a]
     · rw [if_neg a,if_neg a]
       have h0:row.getD 0 []=db:=by
        refine (rv ?_).1 (Classical.not_not.1 a)
        rintro rfl; exact a (by simp)
       unfold fw
       rw [if_neg (by rw [h0]; decide),if_pos h0]
       cases gN F.kind ln row with
       | error e=>rfl
       | ok x=>
         simp only
         rw [ih]
         cases group [db] (gN F.kind) eof n rows with
         | error e=>rfl
         | ok r=>simp only [List.append_assoc]; rfl
theorem Hn {h0 h1:Tx} (hk:h0≠dD) (j:h0≠db):∀ (n:Nat) (F:aH) (rows:List Rw),eD [h0,h1] eof n F rows=match group [h0,h1] (ew F.kind F.aliases (eu F)) eof n rows with | .error e=> .error e | .ok r=> .ok ({F with rules:=F.rules++r.1},r.2):=by
 intro n
 induction n with
 | zero=>intro F rows; simp [eD,group]
 | succ n ih=>
   intro F rows
   cases rows with
   | nil=>simp [eD,group]
   | cons q rows=>
     obtain ⟨ln,row⟩:=q
     simp only [eD,group]
     by_cases a:row.take [h0,h1].length≠[h0,h1]
     · rw [if_pos a,if_pos a]
     · rw [if_neg a,if_neg a]
       have i:row.getD 0 []=h0:=(ry.1 (Classical.not_not.1 a)).2.1
       unfold fw
       rw [if_neg (by rw [i]; exact hk),if_neg (by rw [i]; exact j)]
       cases ew F.kind F.aliases (eu F) ln row with
       | error e=>rfl
       | ok x=>
         simp only
         rw [ih]
         show (match group [h0,h1] (ew F.kind F.aliases (eu F)) eof n rows with | .error e=>_ | .ok r=>_)=_
         cases group [h0,h1] (ew F.kind F.aliases (eu F)) eof n rows with
         | error e=>rfl
         | ok r=>simp only [List.append_assoc]; rfl
end
section
variable {hd:List Tx} {eof n ln:Nat} {F:aH} {row:List Tx} {rows:List Rw} {T:Except (Nat×Nat) (aH×List Rw)}
theorem Hj (h:eD hd eof n F []=T) (hn:0 < n):T= .error (eof,116):=by
 obtain ⟨m,rfl⟩:∃ m,n=m+1:=⟨n - 1,by omega⟩
 exact h.symm
theorem tI (h:eD hd eof n F ((ln,row)::rows)=T) (hn:0 < n) (hr:row.take hd.length≠hd):T= .error (ln,116):=by
 obtain ⟨m,rfl⟩:∃ m,n=m+1:=⟨n - 1,by omega⟩
 rw [← h,eD,if_pos hr]
theorem Hh {e:Nat} (h:eD hd eof n F ((ln,row)::rows)=T) (hn:0 < n) (hr:row.take hd.length=hd) (he:fw F ln row= .error e):T= .error (ln,e):=by
 obtain ⟨m,rfl⟩:∃ m,n=m+1:=⟨n - 1,by omega⟩
 rw [← h,eD,if_neg (fun h2=>h2 hr),he]
theorem Hk {F':aH} (h:eD hd eof n F ((ln,row)::rows)=T) (hn:0 < n) (hr:row.take hd.length=hd) (he:fw F ln row= .ok F'):eD hd eof (n - 1) F' rows=T:=by
 obtain ⟨m,rfl⟩:∃ m,n=m+1:=⟨n - 1,by omega⟩
 rw [← h,eD,if_neg (fun h2=>h2 hr),he]; rfl
theorem Hi (h:eD hd eof 0 F rows=T):T= .ok (F,rows):=h.symm
end
def gE (head:List Tx):List Tx:=if head.length=4 then [head.getD 0 [],head.getD 1 []] else [head.getD 0 []]
theorem zE {head:List Tx} (h:head.length≠4):gE head= [head.getD 0 []]:=if_neg h
theorem zH {head:List Tx} (h:head.length=4):gE head= [head.getD 0 [],head.getD 1 []]:=if_pos h
theorem HO {head row:List Tx} (h:row.getD 0 []≠head.getD 0 []):row.take (gE head).length≠gE head:=by
 unfold gE
 split
 · exact fun h2=>h (ry.1 h2).2.1
 · intro h2
   cases row with
   | nil=>simp at h2
   | cons a l=>exact h ((rv (by simp)).1 h2)
theorem zJ {head row:List Tx} (h4:head.length=4) (h:row.length < 2∨row.getD 1 []≠head.getD 1 []):row.take (gE head).length≠gE head:=by
 rw [zH h4]
 intro h2
 have :=ry.1 h2
 rcases h with h | h
 · omega
 · exact h this.2.2
theorem zK {head row:List Tx} (h0:row.getD 0 []=head.getD 0 []) (hr:row≠[]) (h1:head.length=4→2≤row.length∧row.getD 1 []=head.getD 1 []):row.take (gE head).length=gE head:=by
 unfold gE
 split
 · rename_i h4; exact ry.2 ⟨(h1 h4).1,h0,(h1 h4).2⟩
 · exact (rv hr).2 h0
def k9 (k:Tx):Int:=if k∈cJ then (cJ.idxOf k:Nat) else -1
theorem nz {k:Tx} :(0≤k9 k)↔k∈cJ:=by
 unfold k9; split
 · rename_i h; exact ⟨fun _=>h,fun _=>by omega⟩
 · rename_i h; exact ⟨fun h2=>by omega,fun h2=>absurd h2 h⟩
end Go.Hb
end
section
namespace Go.Hb
def rH:Tx:= [83,70,88,32,65,32,89,32,48,10]
def vm:Tx:= [50,10,102,108,121,47,65,10,105,110,92,47,111,117,116,10]
def nJ:aH:=⟨1,[],[],[0,0,0,0,0],3,[],[],[⟨65,2,true,0,0⟩],[]⟩
def mP:List cV:= [([102,108,121],[65]),([105,110,47,111,117,116],[])]
theorem As {b:UInt8} {m:Int} (h:48≤b.toNat∧b.toNat≤57) (hm:((b.toNat - 48:Nat):Int)≤m):dy [b] m= .ok (b.toNat - 48):=by
 have hv:du [b]=b.toNat - 48:=by simp [du]
 have hz:¬lT [b]:=by rintro (h | ⟨h,_⟩) <;> simp at h
 have hd:sT [b]:=fun i hi=>by
  have hi:i=0:=by simpa using hi
  subst hi
  exact decide_eq_true h
 unfold dy
 rw [uh hz hd (by rw [hv]; omega),hv]
 rfl
theorem L8:bd rH= [(1,[[83,70,88],[65],[89],[48]])]:=by decide+kernel
theorem L9:bd vm= [(1,[[50]]),(2,[[102,108,121,47,65]]),(3,[[105,110,92,47,111,117,116]])]:=by decide+kernel
theorem vo:dm 1 [65]=65:=by unfold dm; decide+kernel
theorem L5:eC fG [65]= .ok 65:=by
 unfold eC eB fG
 simp only
 rw [vo]
 simp [dw,dJ]
theorem L2:eJ rH= .ok nJ:=by
 unfold eJ
 rw [if_neg (by decide),L8]
 simp only [List.length_cons,List.length_nil]
 have hh:bz ((a6 rH).length+1) fG [] [] 1 [[83,70,88],[65],[89],[48]]= .ok (nJ,[]):=by
  unfold bz
  simp only [List.getD_cons_zero]
  rw [if_neg (by decide),if_neg (by decide),if_neg (by decide),if_neg (by decide),if_neg (by decide),if_neg (by decide),if_neg (by decide)]
  unfold eK
  simp only [List.getD_cons_zero,List.getD_cons_succ]
  rw [L5]
  simp only
  rw [if_neg (by simp),As (by decide) (by decide)]
  rfl
 rw [eE]
 simp only [List.getD_cons_zero]
 rw [if_neg (by decide),if_neg (by decide),if_neg (by decide),hh]
 simp only
 rw [eE,if_pos rfl]
 rfl
theorem L7:iL 1 [65]= .ok [65]:=by
 have h1:b0 1 [65]= [[65]]:=by decide+kernel
 have h:cU 1 [65]=([65],0):=by
  unfold cU
  rw [h1,if_neg (by simp),if_neg (by simp [vo]),if_neg (by simp),List.map_cons,List.map_nil,vo]
  decide+kernel
 unfold iL
 rw [h]; rfl
theorem L4:fi nJ vm= .ok mP:=by
 have a:eA nJ [[102,108,121,47,65]]= .ok ([102,108,121],[65]):=by
  have hw:aV [102,108,121,47,65]=([102,108,121],[65],true,0):=by decide+kernel
  refine (sZ (row:= [[102,108,121,47,65]]) (set := [65]) rfl ?_ ?_ ?_ ?_ ?_ ?_ ?_).trans ?_
  all_goals try simp only [List.getD_cons_zero,hw]
  · decide
  · decide
  · simp
  · show ec 1 [] [65]=_
    unfold ec; rw [if_pos rfl]; exact L7
  · intro i hi
    have :i=0:=by simpa using hi
    subst this; decide
 have j:eA nJ [[105,110,92,47,111,117,116]]= .ok ([105,110,47,111,117,116],[]):=by
  have hw:aV [105,110,92,47,111,117,116]=([105,110,47,111,117,116],[],false,0):=by decide+kernel
  refine (sY (row:= [[105,110,92,47,111,117,116]]) rfl ?_ ?_ ?_ ?_ ?_).trans ?_
  all_goals try simp only [List.getD_cons_zero,hw]
  · decide
  · decide
  · simp
 have hn:dy [50] 8192= .ok 2:=As (by decide) (by decide)
 rw [yl (by decide) L9 rfl (show dy ([[50]].getD 0 []) 8192= .ok 2 from hn),eW,a]
 simp only
 rw [eW,j]
 simp only
 rw [eW]
 rfl
end Go.Hb
end
section
set_option maxRecDepth 20000
set_option maxHeartbeats 1000000
namespace Go.Hb.eS
open Go.Proofs
def gS (l:List (Tx×Tx)):List Value:=l.flatMap fun p=> [str p.1,str p.2]
def kT (c:bV):List Value:= [aM c.flag,.int .i64 (c.kind:Nat),.bool c.dW,.int .i64 (c.first:Nat),.int .i64 (c.count:Nat)]
def js (l:List bV):List Value:=l.flatMap kT
def iq (q:eH×Value):List Value:= [.int .i64 (q.1.kind:Nat),aM q.1.flag,.bool q.1.dW,str q.1.strip,str q.1.add,str q.1.cond,q.2]
def fU (l:List (eH×Value)):List Value:=l.flatMap iq
structure bM where
 rb:Nat
 fb:Nat
 ms:Nat
 mt:Nat
 mc:Nat
 eof:Nat
structure dV where
 v9:Value
 v10:Value
 v11:Value
 cB:Value
 sa:List Value
 rn:List Value
structure eF where
 vr:Value
 vs:List (Nat×Value)
 vn:Value
def kp (F:aH) (V:dV) (mc:Nat):List Value:= [.int .i64 (F.kind:Nat),str F.mx,str F.tr,aM (F.sp.getD 0 0),aM (F.sp.getD 1 0),aM (F.sp.getD 2 0),aM (F.sp.getD 3 0),aM (F.sp.getD 4 0),.int .i64 (F.least:Nat),V.v9,V.v10,V.v11,V.cB,.map (some mc)]
def oI (H:bM) (R:eF) (ln:Nat):List Value:= [.pointer (some ⟨H.fb,0,none⟩),R.vr,.int .i64 (ln:Nat),.int .i64 (H.eof:Nat),.map (some H.ms),.map (some H.mt),R.vn]
structure cC (w:World) (B fb mc:Nat) (F:aH) (V:dV):Prop where
 cells:w.heap[fb]? =some (.cells (kp F V mc).toArray 89 (0,0))
 o9:World.ownsRow w B 163 2 V.v9 F.bL.length (gS F.bL)
 dH:World.ownsRow w B 54 1 V.v10 F.aliases.length V.sa
 al:c4 w B 71 V.sa F.aliases
 dp:World.ownsRow w B 157 5 V.v11 F.aX.length (js F.aX)
 cM:World.ownsRow w B 155 7 V.cB F.rules.length (fU (F.rules.zip V.rn))
 nx:c4 w B 71 V.rn (F.rules.map (·.next))
 cm:∃ f,bN w.heap mc (k4 .u16) f∧∀ x:Nat,f (aM x)=(F.aX.findIdx? fun c=>decide (c.flag=x)).map fun i:Nat=>Value.int .i64 i
 lo:B≤fb∧B≤mc
 ee:F.sp.length=5
theorem cC.md {G:Nat→Prop} {w w':World} {B fb mc:Nat} {F:aH} {V:dV} (h:cC w B fb mc F V) (hm:Md G w w') {L:List Nat} (hT:TF w L G) (a:(L.contains 91 || L.contains 165 || L.contains 56 || L.contains 73 || L.contains 159 || L.contains 157)=false) (j:¬G mc):cC w' B fb mc F V:=by
 simp only [Bool.or_eq_false_iff] at a
 obtain ⟨⟨⟨⟨⟨h1,h2⟩,h3⟩,h4⟩,h5⟩,h6⟩:=a
 have hfl:∀ k,G k→∀ cur z,w.heap[k]?≠some (.cells cur 71 z):=fun k hk cur z hg=>hT.no (cR hg) h4 hk
 obtain ⟨f,hf,i⟩:=h.cm
 exact ⟨hm.gp hT h.cells h1,bE h.o9 hm hT h2,bE h.dH hm hT h3,h.al.md hm hfl,bE h.dp hm hT h5,bE h.cM hm hT h6,h.nx.md hm hfl,⟨f,hf.md hm j,i⟩,h.lo,h.ee⟩
theorem cC.wk {w w':World} {B fb mc:Nat} {F:aH} {V:dV} (h:cC w B fb mc F V) (hm:Wk w w'):cC w' B fb mc F V:=h.md (L:= []) hm (fun _ hk=>hk.elim) rfl id
structure bS (w:World) (B:Nat) (H:bM) (F:aH) (R:eF) (rows:List Rw) (ln:Nat) (seen:List Tx):Prop where
 cells:w.heap[H.rb]? =some (.cells (oI H R ln).toArray 92 (0,0))
 rws:iW w B 105 rows.length R.vr (gJ R.vs)
 rt:eI w B 9 R.vs rows
 sm:∃ f,bN w.heap H.ms fK f∧∀ s:Tx,(f (str s)).getD (.int .i64 0)= .int .i64 (seen.count s:Nat)
 tm:∃ f,bN w.heap H.mt (k4 .u16) f∧∀ x:Nat,x≠0→(f (aM x)).getD (.int .i64 0)= .int .i64 ((if dw F x=true then 1 else 0:Nat):Nat)
 on :World.ownsRow w B 3 1 R.vn F.rules.length (F.rules.map fun r=>Value.int .i64 (r.line:Nat))
 lo:B≤H.rb∧B≤H.ms∧B≤H.mt
 ne:H.ms≠H.mt∧H.ms≠H.mc∧H.mt≠H.mc
theorem bS.md {G:Nat→Prop} {w w':World} {B:Nat} {H:bM} {F:aH} {R:eF} {rows:List Rw} {ln:Nat} {seen:List Tx} (h:bS w B H F R rows ln seen) (hm:Md G w w') {L:List Nat} (hT:TF w L G) (i:(L.contains 94 || L.contains 107 || L.contains 11 || L.contains 5)=false) (p:¬G H.ms) (hmt:¬G H.mt):bS w' B H F R rows ln seen:=by
 simp only [Bool.or_eq_false_iff] at i
 obtain ⟨⟨⟨h1,h2⟩,h3⟩,h4⟩:=i
 obtain ⟨f,hf,j⟩:=h.sm
 obtain ⟨g,hg,hg2⟩:=h.tm
 exact ⟨hm.gp hT h.cells h1,h.rws.md hm (fun k hk cur z a=>hT.no (cR a) h2 hk),h.rt.md hm (fun k hk cur z a=>hT.no (cR a) h3 hk),⟨f,hf.md hm p,j⟩,⟨g,hg.md hm hmt,hg2⟩,bE h.on hm hT h4,h.lo,h.ne⟩
theorem bS.wk {w w':World} {B:Nat} {H:bM} {F:aH} {R:eF} {rows:List Rw} {ln:Nat} {seen:List Tx} (h:bS w B H F R rows ln seen) (hm:Wk w w'):bS w' B H F R rows ln seen:=h.md (L:= []) hm (fun _ hk=>hk.elim) rfl id id
theorem bS.bK {w:World} {B:Nat} {H:bM} {F:aH} {R:eF} {rows:List Rw} {ln:Nat} {seen:List Tx} (h:bS w B H F R rows ln seen):Hb.aC w.heap H.rb 2=some (.int .i64 (ln:Nat)):=(aO h.cells).trans rfl
structure hZ (F:aH) (rows:List Rw) (seen:List Tx):Prop where
 len:F.bL.length+F.aliases.length+F.aX.length+F.rules.length+rows.length≤70000
 sl:seen.length+rows.length≤70000
 row:∀ q∈rows,q.2≠[]∧q.2.length≤70000∧∀ x∈q.2,x.length≤70000
 kd:F.kind=1∨F.kind=2∨F.kind=3
 al:∀ l∈F.aliases,l.length≤64∧l.Pairwise (· < ·)
def St (w:World) (B:Nat) (H:bM) (F:aH) (rows:List Rw) (ln:Nat) (seen:List Tx):Prop := ∃ V R,cC w B H.fb H.mc F V∧bS w B H F R rows ln seen∧hZ F rows seen
abbrev dM (B:Nat) (H:bM) (w w':World):Prop :=Mw [94,91,165,56,159,157,5] H.ms H.mt H.mc B w w'
theorem bS.cT {w w':World} {B:Nat} {H:bM} {F:aH} {R R':eF} {rows rows':List Rw} {ln ln':Nat} {seen:List Tx} (h:bS w B H F R rows ln seen) (hm:Md (fun k=>k=H.rb) w w') (hc:w'.heap[H.rb]? =some (.cells (oI H R' ln').toArray 92 (0,0))) (p:R'.vn=R.vn) (hr:iW w B 105 rows'.length R'.vr (gJ R'.vs)) (j:eI w B 9 R'.vs rows'):bS w' B H F R' rows' ln' seen:=by
 obtain ⟨f,hf,i⟩:=h.sm
 obtain ⟨g,hg,hg2⟩:=h.tm
 have hT:TF w [94] (fun k=>k=H.rb):=TF.eq (cR h.cells) (by decide)
 exact ⟨hc,hr.md hm (fun k hk cur z a=>hT.no (cR a) (by decide) hk),j.md hm (fun k hk cur z a=>hT.no (cR a) (by decide) hk),⟨f,hf.md hm (hT.no (dt hf) (by decide)),i⟩,⟨g,hg.md hm (hT.no (dt hg) (by decide)),hg2⟩,p ▸ bE h.on hm hT (by decide),h.lo,h.ne⟩
theorem eI.tl {w:World} {B e:Nat} {q:Nat×Value} {r:Rw} {vs:List (Nat×Value)} {rs:List Rw} (h:eI w B e (q::vs) (r::rs)):eI w B e vs rs:=⟨by have :=h.1; simpa using this,fun i q2 a h1 h2=>h.2 (i+1) q2 a h1 h2⟩
theorem cC.put {w w':World} {B fb mc:Nat} {F F':aH} {V:dV} (h:cC w B fb mc F V) (hm:Md (fun k=>k=fb) w w') (hc:w'.heap[fb]? =some (.cells (kp F' V mc).toArray 89 (0,0))) (h1:F'.bL=F.bL) (h2:F'.aliases=F.aliases) (h3:F'.aX=F.aX) (h4:F'.rules=F.rules) (h5:F'.sp.length=5):cC w' B fb mc F' V:=by
 have hT:TF w [91] (fun k=>k=fb):=TF.eq (cR h.cells) (by decide)
 have hfl:∀ k,k=fb→∀ cur z,w.heap[k]?≠some (.cells cur 71 z):=dK h.cells (by decide)
 obtain ⟨f,hf,a⟩:=h.cm
 exact ⟨hc,h1 ▸ bE h.o9 hm hT (by decide),h2 ▸ bE h.dH hm hT (by decide),h2 ▸ h.al.md hm hfl,h3 ▸ bE h.dp hm hT (by decide),h4 ▸ bE h.cM hm hT (by decide),h4 ▸ h.nx.md hm hfl,⟨f,hf.md hm (hT.no (dt hf) (by decide)),h3 ▸ a⟩,h.lo,h5⟩
theorem bS.fb {w w':World} {B:Nat} {H:bM} {F a:aH} {V:dV} {R:eF} {rows:List Rw} {ln:Nat} {seen:List Tx} (h:bS w B H F R rows ln seen) (hF:cC w B H.fb H.mc a V) (hm:Md (fun k=>k=H.fb) w w'):bS w' B H F R rows ln seen:=by
 have hT:TF w [91] (fun k=>k=H.fb):=TF.eq (cR hF.cells) (by decide)
 obtain ⟨f,hf,i⟩:=h.sm
 obtain ⟨g,hg,hg2⟩:=h.tm
 exact h.md hm hT (by decide) (hT.no (dt hf) (by decide)) (hT.no (dt hg) (by decide))
theorem cC.rb {w w':World} {B:Nat} {H:bM} {F a:aH} {V:dV} {R:eF} {rows:List Rw} {ln:Nat} {seen:List Tx} (h:cC w B H.fb H.mc a V) (i:bS w B H F R rows ln seen) (hm:Md (fun k=>k=H.rb) w w'):cC w' B H.fb H.mc a V:=by
 have hT:TF w [94] (fun k=>k=H.rb):=TF.eq (cR i.cells) (by decide)
 obtain ⟨f,hf,j⟩:=h.cm
 exact h.md hm hT (by decide) (hT.no (dt hf) (by decide))
theorem bS.congr {w:World} {B:Nat} {H:bM} {F F':aH} {R:eF} {rows:List Rw} {ln:Nat} {seen:List Tx} (h:bS w B H F R rows ln seen) (hr:F'.rules=F.rules) (hd:∀ x,dw F' x=dw F x):bS w B H F' R rows ln seen:=by
 obtain ⟨g,hg,hg2⟩:=h.tm
 exact ⟨h.cells,h.rws,h.rt,h.sm,⟨g,hg,fun x a=>by rw [hd]; exact hg2 x a⟩,hr ▸ h.on,h.lo,h.ne⟩
theorem bS.oz {w w':World} {B:Nat} {H:bM} {F F':aH} {R:eF} {rows:List Rw} {ln:Nat} {seen:List Tx} {f:Value→Option Value} (h:bS w B H F R rows ln seen) (hm:Md (fun k=>k=H.mt) w w') (hf:bN w'.heap H.mt (k4 .u16) f) (hr:F'.rules=F.rules) (hd:∀ x:Nat,x≠0→(f (aM x)).getD (.int .i64 0)= .int .i64 ((if dw F' x=true then 1 else 0:Nat):Nat)):bS w' B H F' R rows ln seen:=by
 obtain ⟨g,hg,_⟩:=h.tm
 obtain ⟨f0,i,j⟩:=h.sm
 have hT:TF w [1] (fun k=>k=H.mt):=TF.eq (dt hg) (by decide)
 exact ⟨hm.gp hT h.cells (by decide),h.rws.md hm (fun k hk cur z a=>hT.no (cR a) (by decide) hk),h.rt.md hm (fun k hk cur z a=>hT.no (cR a) (by decide) hk),⟨f0,i.md hm h.ne.1,j⟩,⟨f,hf,hd⟩,hr ▸ bE h.on hm hT (by decide),h.lo,h.ne⟩
theorem cC.oz {w w':World} {B:Nat} {H:bM} {F a:aH} {V:dV} {R:eF} {rows:List Rw} {ln:Nat} {seen:List Tx} (h:cC w B H.fb H.mc a V) (i:bS w B H F R rows ln seen) (hm:Md (fun k=>k=H.mt) w w'):cC w' B H.fb H.mc a V:=by
 obtain ⟨g,hg,_⟩:=i.tm
 exact h.md (L:= [1]) hm (TF.eq (dt hg) (by decide)) (by decide) (fun h=>i.ne.2.2 h.symm)
theorem dM.fb {w w':World} {B:Nat} {H:bM} {a:aH} {V:dV} (hF:cC w B H.fb H.mc a V) (hm:Md (fun k=>k=H.fb) w w'):dM B H w w':=Mw.of hm (TF.eq (cR hF.cells) (by decide)) (fun k hk=>hk ▸ hF.lo.1)
theorem dM.rb {w w':World} {B:Nat} {H:bM} {F:aH} {R:eF} {rows:List Rw} {ln:Nat} {seen:List Tx} (a:bS w B H F R rows ln seen) (hm:Md (fun k=>k=H.rb) w w'):dM B H w w':=Mw.of hm (TF.eq (cR a.cells) (by decide)) (fun k hk=>hk ▸ a.lo.1)
theorem dM.mt {w w':World} {B:Nat} {H:bM} {F:aH} {R:eF} {rows:List Rw} {ln:Nat} {seen:List Tx} (a:bS w B H F R rows ln seen) (hm:Md (fun k=>k=H.mt) w w'):dM B H w w':=hm.mono fun k _ hk=>⟨hk ▸ a.lo.2.2,.inr (.inl hk)⟩
def fP (B:Nat) (H:bM) (seen:List Tx) (X:Except (Nat×Nat) (aH×List Rw)) (w:World) (v:Value) (w':World):Prop :=v= .tuple #[]∧∃ F' rows' ln',X= .ok (F',rows')∧St w' B H F' rows' ln' seen∧dM B H w w'
def fO (B:Nat) (H:bM) (X:Except (Nat×Nat) (aH×List Rw)) (w:World) (c:List PanicEntry) (w':World):Prop := ∃ l e,X= .error (l,e)∧c=fJ 25 l (e:Nat)∧dM B H w w'
def gB (F:aH) (seen:List Tx):Prop := ∀ k∈cJ,k∉seen→F.sp.getD (cJ.idxOf k) 0=0
theorem FR {F:aH} {i x:Nat} (hi:i < F.sp.length) (h0:F.sp.getD i 0=0) (y:Nat) (hy:y≠0):dw {F with sp:=F.sp.set i x} y=(decide (y=x) || dw F y):=by
 unfold dw
 show (decide (y∈F.sp.set i x) || _)=_
 rw [← Bool.or_assoc]
 congr 1
 rw [← Bool.decide_or,decide_eq_decide]
 constructor
 · intro h
   rcases List.mem_or_eq_of_mem_set h with h | h
   · exact .inr h
   · exact .inl h
 · rintro (h | h)
   · subst h; exact List.mem_set hi _
   · obtain ⟨j,hj⟩:=List.getElem?_of_mem h
     by_cases a:i=j
     · subst a
       rw [List.getD_eq_getElem?_getD,hj] at h0
       exact absurd h0 hy
     · exact List.mem_of_getElem? (i:=j) (by rw [List.getElem?_set,if_neg a]; exact hj)
theorem Tg.oA {w:World} {B e e' n cp b:Nat} {a:Option Addr} {xs:List Value} {cs:Array Value} {z:Nat×Nat} (h:Tg w B e n (.slice a n cp) xs) (j:xs≠[]) (hb:w.heap[b]? =some (.cells cs e' z)) (hne:e≠e'):¬(bk a=b):=by
 obtain ⟨p,c',hv,_,hh⟩:=h
 cases hv
 rcases hh with rfl | ⟨i,cur,q,rfl,_,hg,_⟩
 · exact absurd rfl j
 · rintro rfl
   rw [show (bk (some ⟨i,0,none⟩))=i from rfl] at hb
   rw [hg] at hb
   simp only [Option.some.injEq,Obj.cells.injEq] at hb
   exact hne hb.2.1
theorem GJ {F:aH} {V:dV} {mc i o x:Nat} (h5:F.sp.length=5) (hi:i < 5) (j:o=3 +i):(kp F V mc).set o (aM x)=kp {F with sp:=F.sp.set i x} V mc:=by
 subst j
 obtain ⟨k,cs,tr,sp,le,p,al,cl,q⟩:=F
 match sp,h5 with
 | [a,b,c,d,e],_=>
   match i,hi with
   | 0,_=>rfl
   | 1,_=>rfl
   | 2,_=>rfl
   | 3,_=>rfl
   | 4,_=>rfl
theorem yd (b:Bool):decide (((if b=true then 1 else 0:Nat):Int)=0)= !b:=by cases b <;> rfl
theorem BP {x y:Nat} (h:aM x=aM y):x=y:=by unfold aM at h; injection h with _ h; omega
theorem BI {F F':aH} {f:Value→Option Value} {x:Nat} (hd:dw F x=false) (hf:∀ y:Nat,y≠0→(f (aM y)).getD (.int .i64 0)= .int .i64 ((if dw F y=true then 1 else 0:Nat):Nat)) (hF:∀ y,y≠0→dw F' y=(decide (y=x) || dw F y)) (y:Nat) (hy:y≠0):(bg f (aM x) (.int .i64 (1:Nat)) (aM y)).getD (.int .i64 0)= .int .i64 ((if dw F' y=true then 1 else 0:Nat):Nat):=by
 rw [hF y hy]
 by_cases h:y=x
 · subst h; rw [oF]; simp
 · rw [nv (fun h2=>h (BP h2)),hf y hy]; simp [h]
theorem e6 {G:Nat→Prop} {w w':World} (h:Md G w.drew w'):Md G w w':=⟨h.os,h.output,h.size,h.gj⟩
theorem c4.get {w:World} {B e i:Nat} {vs:List Value} {ls:List (List Nat)} (h:c4 w B e vs ls) (hi:i < ls.length):∃ v,vs[i]? =some v∧Tg w B e (ls.getD i []).length v ((ls.getD i []).map aM):=by
 have h1:i < vs.length:=by rw [h.1]; exact hi
 refine ⟨vs[i],List.getElem?_eq_getElem h1,h.2 i _ _ (List.getElem?_eq_getElem h1) ?_⟩
 rw [List.getD_eq_getElem?_getD,List.getElem?_eq_getElem hi]; rfl
theorem Tg.qP {w:World} {B e n cp:Nat} {a:Option Addr} {xs:List Value} (h:Tg w B e n (.slice a n cp) xs) (hl:xs.length=n) (ha:a=none):n=0:=by
 obtain ⟨i,c',hv,_,hh⟩:=h
 cases hv
 rcases hh with rfl | ⟨j,cur,p,h2,_⟩
 · exact hl.symm
 · rw [ha] at h2; cases h2
theorem Tg.Af {G:Nat→Prop} {w w':World} {B e n:Nat} {v:Value} {xs:List Value} (h:Tg w B e n v xs) (hm:Md G w w') (i:∀ k,G k→k < B):Tg w' B e n v xs:=by
 obtain ⟨a,cp,rfl,hc,h | ⟨b,cur,z,rfl,hb,hg,j⟩⟩:=h
 · exact ⟨a,cp,rfl,hc,.inl h⟩
 · exact ⟨_,cp,rfl,hc,.inr ⟨b,cur,z,rfl,hb,by rw [hm.gj b (Array.getElem?_eq_some_iff.1 hg).1 (fun hk=>by have :=i b hk; omega)]; exact hg,j⟩⟩
end Go.Hb.eS
end
section
namespace Go.Hb
abbrev aa (n:Nat):Value:= .int .i64 (n:Nat)
abbrev aG (b:Nat):Value:= .pointer (some ⟨b,0,none⟩)
variable {P:Program} {N:Fm} {ops:Array Oper} {Q:Exit→(Nat→Value)→World→Prop} {σ:Nat→Value} {w:World} {S:World→Prop} {r fuel:Nat} {aR:Array Bool} {d:Nat} {op:Op} {ty:TypeId} {pos :String} {af:Array Edge} {v:Value}
theorem aA (i:Nat) (hi:ops[i]? =some ⟨some d,op,ty,pos,af,none⟩) (hy:∀ w,S w→(execOp (ev N σ) ⟨some d,op,ty,pos,af,none⟩).run P w= .ok (.value v) w) (a:S w) (k:ez P N ops Q S fuel (aR.setIfInBounds i true) (cT σ d v) w) (hf:g4 N.F ops aR i=true :=by kernel_rfl):ez P N ops Q S (fuel+1) aR σ w:=hp i hi hf hy a k
theorem cO (i:Nat) (hi:ops[i]? =some ⟨some d,op,ty,pos,af,none⟩) (hy:∀ w,S w→(execOp (ev N σ) ⟨some d,op,ty,pos,af,none⟩).run P w= .ok (.value v) w) (a:S w) (k:e8 P N ops Q S r fuel (aR.setIfInBounds i true) (cT σ d v) w) (hf:tD N.F ops aR r i=true :=by kernel_rfl):e8 P N ops Q S r (fuel+1) aR σ w:=gG i hi hf hy a k
theorem a5 (i:Nat) (hi:ops[i]? =some ⟨some d,op,ty,pos,af,none⟩) (hy:∀ w,(execOp (ev N σ) ⟨some d,op,ty,pos,af,none⟩).run P w= .ok (.value v) w) (a:aR.getD r false =false→S w) (k:e8 P N ops Q S r fuel (aR.setIfInBounds i true) (cT σ d v) w) (hf:qz N.F ops aR r i=true :=by kernel_rfl):e8 P N ops Q S r (fuel+1) aR σ w:=bT i hi hf hy a k
theorem bo {x:Operand} (i:Nat) (hi:ops[i]? =some ⟨some d,.move x,ty,pos,af,none⟩) (v:Value) (a:S w) (k:ez P N ops Q S fuel (aR.setIfInBounds i true) (cT σ d v) w) (j:ev N σ x=v:=by exact rfl) (hf:g4 N.F ops aR i=true :=by kernel_rfl):ez P N ops Q S (fuel+1) aR σ w:=hp i hi hf (fun _ _=>aB v j) a k
theorem a3 {x:Operand} (i:Nat) (hi:ops[i]? =some ⟨some d,.move x,ty,pos,af,none⟩) (v:Value) (a:S w) (k:e8 P N ops Q S r fuel (aR.setIfInBounds i true) (cT σ d v) w) (j:ev N σ x=v:=by exact rfl) (hf:qz N.F ops aR r i=true :=by kernel_rfl):e8 P N ops Q S r (fuel+1) aR σ w:=bT i hi hf (fun _=>aB v j) (fun _=>a) k
theorem aW {P:Program} {f:FuncId} {fn:Func} (hf:P.funcs[f]? =some fn) (hn:(fn.name== "runtime.NumGoroutine")=false :=by kernel_rfl) (hb:fn.body.isNone=false :=by kernel_rfl):aT P f:=Ep hf hn hb
section
variable {rest:List Oper} {x:Operand} {K:(Nat→Value)→World→Prop} {l:List Oper} {id:Nat} {y:Code}
theorem U (h:∀ K:(Nat→Value)→World→Prop,(∀ σ w,cW P N y Q σ w→K σ w)→dI P N l.toArray (jL K Q) l σ w) (hr:nr N.r l=true :=by exact rfl):cW P N (.seq (.region id l.toArray false) y) Q σ w:=sq fun K a=>rg hr (h K a)
theorem ag (h:K σ w):dI P N ops (jL K Q) [] σ w:=nl (tn h)
theorem ae (h:K (cT σ d (ev N σ x)) w):dI P N ops (jL K Q) [⟨some d,.assign x,ty,pos,af,none⟩] σ w:=p aj (nl (tn h))
theorem ab (v:Value) (h:dI P N ops Q rest (cT σ d v) w) (a:ev N σ x=v:=by exact rfl):dI P N ops Q (⟨some d,.move x,ty,pos,af,none⟩::rest) σ w:=p (aB v a) h
end
end Go.Hb
end
section
namespace Go.Hb.di
open Go.Proofs
theorem ph:cz Tryz.prog 105=some (some 2):=by kernel_rfl
theorem rR:cz Tryz.prog 106=some none:=by kernel_rfl
theorem CC:cz Tryz.prog 115=some none:=by kernel_rfl
theorem pj:cz Tryz.prog 116=some none:=by kernel_rfl
theorem lC:cz Tryz.prog 117=some none:=by kernel_rfl
theorem kP:cz Tryz.prog 118=some none:=by kernel_rfl
theorem vT:cz Tryz.prog 127=some (some 8):=by kernel_rfl
theorem mX:cz Tryz.prog 129=some (some 5):=by kernel_rfl
theorem rS:cz Tryz.prog 139=some none:=by kernel_rfl
theorem vU:cz Tryz.prog 141=some none:=by kernel_rfl
theorem rT:cz Tryz.prog 155=some (some 7):=by kernel_rfl
theorem nQ:cz Tryz.prog 157=some (some 5):=by kernel_rfl
theorem nR:cz Tryz.prog 211=some none:=by kernel_rfl
theorem lD:cz Tryz.prog 213=some (some 1):=by kernel_rfl
theorem eo:cz Tryz.prog 22=some none:=by kernel_rfl
theorem mY:cz Tryz.prog 225=some none:=by kernel_rfl
theorem gY:cz Tryz.prog 227=some (some 4):=by kernel_rfl
theorem iX:cz Tryz.prog 25=some (some 3):=by kernel_rfl
theorem nS:cz Tryz.prog 261=some (some 1):=by kernel_rfl
theorem mj:cz Tryz.prog 266=some none:=by kernel_rfl
theorem bQ:cz Tryz.prog 3=some none:=by kernel_rfl
theorem h8:cz Tryz.prog 31=some none:=by kernel_rfl
theorem pk:cz Tryz.prog 39=some none:=by kernel_rfl
theorem po:cz Tryz.prog 4=some none:=by kernel_rfl
theorem rU:cz Tryz.prog 45=some none:=by kernel_rfl
theorem gd:cz Tryz.prog 48=some none:=by kernel_rfl
theorem kQ:cz Tryz.prog 5=some none:=by kernel_rfl
theorem ml:cz Tryz.prog 54=some none:=by kernel_rfl
theorem ki:cz Tryz.prog 56=some (some 2):=by kernel_rfl
theorem nT:cz Tryz.prog 64=some none:=by kernel_rfl
theorem jQ:cz Tryz.prog 68=some (some 2):=by kernel_rfl
theorem bJ:cz Tryz.prog 71=some none:=by kernel_rfl
theorem mZ:cz Tryz.prog 74=some none:=by kernel_rfl
theorem nU:cz Tryz.prog 80=some none:=by kernel_rfl
theorem vV:cz Tryz.prog 81=some (some 5):=by kernel_rfl
theorem vW:cz Tryz.prog 82=some none:=by kernel_rfl
theorem mm:cz Tryz.prog 83=some none:=by kernel_rfl
theorem pq:cz Tryz.prog 84=some none:=by kernel_rfl
theorem mo:cz Tryz.prog 85=some none:=by kernel_rfl
theorem rV:cz Tryz.prog 87=some (some 13):=by kernel_rfl
theorem bw:cz Tryz.prog 9=some none:=by kernel_rfl
theorem m3:cz Tryz.prog 90=some none:=by kernel_rfl
theorem vX:cz Tryz.prog 97=some none:=by kernel_rfl
theorem pC:lF Tryz.prog 114=some (5,1):=by kernel_rfl
theorem wm:lF Tryz.prog 204=some (256,1):=by kernel_rfl
theorem mq:lF Tryz.prog 227=some (4,1):=by kernel_rfl
theorem r4:lF Tryz.prog 81=some (5,1):=by kernel_rfl
theorem wo:r5 Tryz.prog 227=some ([.int .u64 0,.int .u64 0,.int .u64 0,.int .u64 0]):=by kernel_rfl
theorem jq:pF Tryz.prog 139 5 9=true :=by kernel_rfl
theorem gD:aT Tryz.prog 10:=aW Tryz.func10
theorem wU:aT Tryz.prog 100:=aW Tryz.func100
theorem wV:aT Tryz.prog 101:=aW Tryz.func101
theorem C8:aT Tryz.prog 102:=aW Tryz.func102
theorem wW:aT Tryz.prog 103:=aW Tryz.func103
theorem wX:aT Tryz.prog 104:=aW Tryz.func104
theorem C9:aT Tryz.prog 105:=aW Tryz.func105
theorem Da:aT Tryz.prog 106:=aW Tryz.func106
theorem Db:aT Tryz.prog 107:=aW Tryz.func107
theorem Dc:aT Tryz.prog 108:=aW Tryz.func108
theorem wY:aT Tryz.prog 109:=aW Tryz.func109
theorem gh:aT Tryz.prog 11:=aW Tryz.func11
theorem Dd:aT Tryz.prog 111:=aW Tryz.func111
theorem De:aT Tryz.prog 112:=aW Tryz.func112
theorem Df:aT Tryz.prog 113:=aW Tryz.func113
theorem Dg:aT Tryz.prog 114:=aW Tryz.func114
theorem Dh:aT Tryz.prog 115:=aW Tryz.func115
theorem xa:aT Tryz.prog 116:=aW Tryz.func116
theorem xc:aT Tryz.prog 117:=aW Tryz.func117
theorem Di:aT Tryz.prog 118:=aW Tryz.func118
theorem xd:aT Tryz.prog 119:=aW Tryz.func119
theorem gq:aT Tryz.prog 12:=aW Tryz.func12
theorem Dj:aT Tryz.prog 120:=aW Tryz.func120
theorem Dk:aT Tryz.prog 121:=aW Tryz.func121
theorem Dl:aT Tryz.prog 122:=aW Tryz.func122
theorem Dm:aT Tryz.prog 123:=aW Tryz.func123
theorem xe:aT Tryz.prog 124:=aW Tryz.func124
theorem r8:aT Tryz.prog 125:=aW Tryz.func125
theorem xf:aT Tryz.prog 126:=aW Tryz.func126
theorem Dn:aT Tryz.prog 127:=aW Tryz.func127
theorem Dp:aT Tryz.prog 128:=aW Tryz.func128
theorem xg:aT Tryz.prog 129:=aW Tryz.func129
theorem r9:aT Tryz.prog 13:=aW Tryz.func13
theorem xh:aT Tryz.prog 130:=aW Tryz.func130
theorem Dq:aT Tryz.prog 131:=aW Tryz.func131
theorem Dr:aT Tryz.prog 132:=aW Tryz.func132
theorem sc:aT Tryz.prog 133:=aW Tryz.func133
theorem Ds:aT Tryz.prog 134:=aW Tryz.func134
theorem sd:aT Tryz.prog 135:=aW Tryz.func135
theorem xi:aT Tryz.prog 136:=aW Tryz.func136
theorem Dt:aT Tryz.prog 137:=aW Tryz.func137
theorem se:aT Tryz.prog 138:=aW Tryz.func138
theorem xj:aT Tryz.prog 139:=aW Tryz.func139
theorem xk:aT Tryz.prog 14:=aW Tryz.func14
theorem sg:aT Tryz.prog 140:=aW Tryz.func140
theorem sh:aT Tryz.prog 141:=aW Tryz.func141
theorem Du:aT Tryz.prog 142:=aW Tryz.func142
theorem Dv:aT Tryz.prog 143:=aW Tryz.func143
theorem xl:aT Tryz.prog 144:=aW Tryz.func144
theorem Dw:aT Tryz.prog 148:=aW Tryz.func148
theorem Dx:aT Tryz.prog 149:=aW Tryz.func149
theorem pG:aT Tryz.prog 15:=aW Tryz.func15
theorem Dy:aT Tryz.prog 150:=aW Tryz.func150
theorem Dz:aT Tryz.prog 151:=aW Tryz.func151
theorem xm:aT Tryz.prog 152:=aW Tryz.func152
theorem xn:aT Tryz.prog 153:=aW Tryz.func153
theorem DA:aT Tryz.prog 154:=aW Tryz.func154
theorem DB:aT Tryz.prog 155:=aW Tryz.func155
theorem DC:aT Tryz.prog 156:=aW Tryz.func156
theorem DD:aT Tryz.prog 157:=aW Tryz.func157
theorem DE:aT Tryz.prog 158:=aW Tryz.func158
theorem DF:aT Tryz.prog 159:=aW Tryz.func159
theorem DG:aT Tryz.prog 16:=aW Tryz.func16
theorem DH:aT Tryz.prog 160:=aW Tryz.func160
theorem DI:aT Tryz.prog 161:=aW Tryz.func161
theorem iH:aT Tryz.prog 162:=aW Tryz.func162
theorem DJ:aT Tryz.prog 163:=aW Tryz.func163
theorem DK:aT Tryz.prog 164:=aW Tryz.func164
theorem DL:aT Tryz.prog 166:=aW Tryz.func166
theorem DM:aT Tryz.prog 167:=aW Tryz.func167
theorem DN:aT Tryz.prog 168:=aW Tryz.func168
theorem pH:aT Tryz.prog 17:=aW Tryz.func17
theorem DO:aT Tryz.prog 172:=aW Tryz.func172
theorem DP:aT Tryz.prog 173:=aW Tryz.func173
theorem DQ:aT Tryz.prog 174:=aW Tryz.func174
theorem xo:aT Tryz.prog 175:=aW Tryz.func175
theorem DR:aT Tryz.prog 176:=aW Tryz.func176
theorem DS:aT Tryz.prog 177:=aW Tryz.func177
theorem si:aT Tryz.prog 178:=aW Tryz.func178
theorem xp:aT Tryz.prog 179:=aW Tryz.func179
theorem xq:aT Tryz.prog 18:=aW Tryz.func18
theorem DT:aT Tryz.prog 180:=aW Tryz.func180
theorem xr:aT Tryz.prog 181:=aW Tryz.func181
theorem xu:aT Tryz.prog 182:=aW Tryz.func182
theorem sj:aT Tryz.prog 186:=aW Tryz.func186
theorem xv:aT Tryz.prog 187:=aW Tryz.func187
theorem DU:aT Tryz.prog 23:=aW Tryz.func23
theorem lK:aT Tryz.prog 24:=aW Tryz.func24
theorem pI:aT Tryz.prog 25:=aW Tryz.func25
theorem pJ:aT Tryz.prog 26:=aW Tryz.func26
theorem xw:aT Tryz.prog 29:=aW Tryz.func29
theorem xx:aT Tryz.prog 30:=aW Tryz.func30
theorem DV:aT Tryz.prog 31:=aW Tryz.func31
theorem DW:aT Tryz.prog 32:=aW Tryz.func32
theorem xy:aT Tryz.prog 33:=aW Tryz.func33
theorem eT:aT Tryz.prog 34:=aW Tryz.func34
theorem DX:aT Tryz.prog 35:=aW Tryz.func35
theorem mr:aT Tryz.prog 36:=aW Tryz.func36
theorem DY:aT Tryz.prog 37:=aW Tryz.func37
theorem DZ:aT Tryz.prog 38:=aW Tryz.func38
theorem D0:aT Tryz.prog 39:=aW Tryz.func39
theorem sn:aT Tryz.prog 40:=aW Tryz.func40
theorem D1:aT Tryz.prog 41:=aW Tryz.func41
theorem sr:aT Tryz.prog 42:=aW Tryz.func42
theorem D2:aT Tryz.prog 43:=aW Tryz.func43
theorem su:aT Tryz.prog 44:=aW Tryz.func44
theorem mu:aT Tryz.prog 45:=aW Tryz.func45
theorem D3:aT Tryz.prog 46:=aW Tryz.func46
theorem D4:aT Tryz.prog 48:=aW Tryz.func48
theorem pK:aT Tryz.prog 49:=aW Tryz.func49
theorem D5:aT Tryz.prog 50:=aW Tryz.func50
theorem xz:aT Tryz.prog 51:=aW Tryz.func51
theorem nZ:aT Tryz.prog 52:=aW Tryz.func52
theorem D6:aT Tryz.prog 53:=aW Tryz.func53
theorem xA:aT Tryz.prog 54:=aW Tryz.func54
theorem sv:aT Tryz.prog 55:=aW Tryz.func55
theorem xB:aT Tryz.prog 56:=aW Tryz.func56
theorem D7:aT Tryz.prog 57:=aW Tryz.func57
theorem D8:aT Tryz.prog 58:=aW Tryz.func58
theorem D9:aT Tryz.prog 59:=aW Tryz.func59
theorem Ea:aT Tryz.prog 60:=aW Tryz.func60
theorem n7:aT Tryz.prog 61:=aW Tryz.func61
theorem Eb:aT Tryz.prog 62:=aW Tryz.func62
theorem sw:aT Tryz.prog 63:=aW Tryz.func63
theorem Ec:aT Tryz.prog 64:=aW Tryz.func64
theorem xC:aT Tryz.prog 65:=aW Tryz.func65
theorem gZ:aT Tryz.prog 66:=aW Tryz.func66
theorem xD:aT Tryz.prog 67:=aW Tryz.func67
theorem pL:aT Tryz.prog 68:=aW Tryz.func68
theorem pM:aT Tryz.prog 69:=aW Tryz.func69
theorem Ed:aT Tryz.prog 70:=aW Tryz.func70
theorem Ee:aT Tryz.prog 71:=aW Tryz.func71
theorem Ef:aT Tryz.prog 72:=aW Tryz.func72
theorem sx:aT Tryz.prog 73:=aW Tryz.func73
theorem xE:aT Tryz.prog 74:=aW Tryz.func74
theorem xF:aT Tryz.prog 75:=aW Tryz.func75
theorem Eg:aT Tryz.prog 76:=aW Tryz.func76
theorem xG:aT Tryz.prog 77:=aW Tryz.func77
theorem sy:aT Tryz.prog 78:=aW Tryz.func78
theorem xH:aT Tryz.prog 79:=aW Tryz.func79
theorem sA:aT Tryz.prog 80:=aW Tryz.func80
theorem Eh:aT Tryz.prog 81:=aW Tryz.func81
theorem sB:aT Tryz.prog 82:=aW Tryz.func82
theorem Ei:aT Tryz.prog 83:=aW Tryz.func83
theorem pN:aT Tryz.prog 84:=aW Tryz.func84
theorem pO:aT Tryz.prog 85:=aW Tryz.func85
theorem Ej:aT Tryz.prog 86:=aW Tryz.func86
theorem Ek:aT Tryz.prog 87:=aW Tryz.func87
theorem xI:aT Tryz.prog 88:=aW Tryz.func88
theorem El:aT Tryz.prog 89:=aW Tryz.func89
theorem Em:aT Tryz.prog 90:=aW Tryz.func90
theorem En:aT Tryz.prog 91:=aW Tryz.func91
theorem sD:aT Tryz.prog 92:=aW Tryz.func92
theorem pP:aT Tryz.prog 93:=aW Tryz.func93
theorem sE:aT Tryz.prog 94:=aW Tryz.func94
theorem Eo:aT Tryz.prog 95:=aW Tryz.func95
theorem sF:aT Tryz.prog 96:=aW Tryz.func96
theorem pQ:aT Tryz.prog 97:=aW Tryz.func97
theorem sG:aT Tryz.prog 98:=aW Tryz.func98
theorem xJ:aT Tryz.prog 99:=aW Tryz.func99
theorem E9:∀ (l:List UInt8) (c:UInt8) (w:World),(callFunc 185 #[str l,.int .u8 c.toNat]).run Tryz.prog w= .ok (.value (.int .i64 (l.count c:Nat))) w:=KF Tryz.func185 (by kernel_rfl) (by kernel_rfl) (by kernel_rfl) (by kernel_rfl)
theorem FB:∀ v w,(callFunc 110 #[v]).run Tryz.prog w= .ok (.value v) w:=fun v w=>by kernel_rfl
theorem xX:da Tryz.prog 105=some 2:=by kernel_rfl
theorem FC:da Tryz.prog 115=some 1:=by kernel_rfl
theorem FD:da Tryz.prog 116=some 1:=by kernel_rfl
theorem FE:da Tryz.prog 117=some 1:=by kernel_rfl
theorem xY:da Tryz.prog 118=some 1:=by kernel_rfl
theorem xZ:da Tryz.prog 127=some 8:=by kernel_rfl
theorem lL:da Tryz.prog 129=some 5:=by kernel_rfl
theorem FF:da Tryz.prog 139=some 1:=by kernel_rfl
theorem FG:da Tryz.prog 141=some 1:=by kernel_rfl
theorem sP:da Tryz.prog 155=some 7:=by kernel_rfl
theorem m7:da Tryz.prog 157=some 5:=by kernel_rfl
theorem x2:da Tryz.prog 211=some 1:=by kernel_rfl
theorem my:da Tryz.prog 213=some 1:=by kernel_rfl
theorem sQ:da Tryz.prog 22=some 1:=by kernel_rfl
theorem FH:da Tryz.prog 225=some 1:=by kernel_rfl
theorem kU:da Tryz.prog 227=some 4:=by kernel_rfl
theorem fR:da Tryz.prog 25=some 3:=by kernel_rfl
theorem pZ:da Tryz.prog 266=some 1:=by kernel_rfl
theorem fW:da Tryz.prog 3=some 1:=by kernel_rfl
theorem FI:da Tryz.prog 39=some 1:=by kernel_rfl
theorem x3:da Tryz.prog 4=some 1:=by kernel_rfl
theorem x4:da Tryz.prog 48=some 1:=by kernel_rfl
theorem p4:da Tryz.prog 54=some 1:=by kernel_rfl
theorem km:da Tryz.prog 56=some 2:=by kernel_rfl
theorem x5:da Tryz.prog 64=some 1:=by kernel_rfl
theorem jU:da Tryz.prog 68=some 2:=by kernel_rfl
theorem eb:da Tryz.prog 71=some 1:=by kernel_rfl
theorem x6:da Tryz.prog 74=some 1:=by kernel_rfl
theorem FJ:da Tryz.prog 81=some 5:=by kernel_rfl
theorem x7:da Tryz.prog 82=some 1:=by kernel_rfl
theorem x8:da Tryz.prog 83=some 1:=by kernel_rfl
theorem x9:da Tryz.prog 84=some 1:=by kernel_rfl
theorem ya:da Tryz.prog 85=some 1:=by kernel_rfl
theorem yb:da Tryz.prog 87=some 13:=by kernel_rfl
theorem jc:da Tryz.prog 9=some 1:=by kernel_rfl
theorem FK:da Tryz.prog 99=some 2:=by kernel_rfl
theorem Gp:ep Tryz.prog 116=some 1:=by kernel_rfl
theorem qd:ep Tryz.prog 117=some 5:=by kernel_rfl
theorem qe:ep Tryz.prog 118=some 8:=by kernel_rfl
theorem iK:ep Tryz.prog 139=some 1:=by kernel_rfl
theorem Gq:ep Tryz.prog 169=some 1:=by kernel_rfl
theorem Gr:ep Tryz.prog 211=some 4:=by kernel_rfl
theorem Gs:ep Tryz.prog 235=some 1:=by kernel_rfl
theorem yE:ep Tryz.prog 35=some 2:=by kernel_rfl
theorem m9:ep Tryz.prog 39=some 2:=by kernel_rfl
theorem jV:ep Tryz.prog 45=some 2:=by kernel_rfl
theorem bA:ep Tryz.prog 48=some 1:=by kernel_rfl
theorem bj:ep Tryz.prog 54=some 1:=by kernel_rfl
theorem kn:ep Tryz.prog 64=some 1:=by kernel_rfl
theorem na:ep Tryz.prog 74=some 2:=by kernel_rfl
theorem s0:ep Tryz.prog 83=some 1:=by kernel_rfl
theorem Gt:ep Tryz.prog 84=some 5:=by kernel_rfl
theorem s5:ep Tryz.prog 85=some 7:=by kernel_rfl
theorem qm:bR Tryz.prog 105 0=some 0:=by kernel_rfl
theorem oe:bR Tryz.prog 105 1=some 1:=by kernel_rfl
theorem og:bR Tryz.prog 108 0=some 0:=by kernel_rfl
theorem tp:bR Tryz.prog 108 1=some 1:=by kernel_rfl
theorem nd:bR Tryz.prog 120 0=some 0:=by kernel_rfl
theorem GN:bR Tryz.prog 120 1=some 1:=by kernel_rfl
theorem GO:bR Tryz.prog 120 2=some 2:=by kernel_rfl
theorem qn:bR Tryz.prog 120 3=some 3:=by kernel_rfl
theorem GP:bR Tryz.prog 120 4=some 8:=by kernel_rfl
theorem y5:bR Tryz.prog 120 5=some 9:=by kernel_rfl
theorem oh:bR Tryz.prog 120 6=some 10:=by kernel_rfl
theorem kW:bR Tryz.prog 120 7=some 11:=by kernel_rfl
theorem jW:bR Tryz.prog 120 8=some 12:=by kernel_rfl
theorem ik:bR Tryz.prog 122 0=some 0:=by kernel_rfl
theorem tq:bR Tryz.prog 122 1=some 1:=by kernel_rfl
theorem kr:bR Tryz.prog 122 2=some 2:=by kernel_rfl
theorem GQ:bR Tryz.prog 122 3=some 3:=by kernel_rfl
theorem kX:bR Tryz.prog 122 4=some 4:=by kernel_rfl
theorem kY:bR Tryz.prog 122 5=some 5:=by kernel_rfl
theorem GR:bR Tryz.prog 127 0=some 0:=by kernel_rfl
theorem GU:bR Tryz.prog 127 3=some 3:=by kernel_rfl
theorem GV:bR Tryz.prog 127 4=some 4:=by kernel_rfl
theorem y6:bR Tryz.prog 127 5=some 5:=by kernel_rfl
theorem tt:bR Tryz.prog 127 6=some 6:=by kernel_rfl
theorem y7:bR Tryz.prog 127 7=some 7:=by kernel_rfl
theorem tu:bR Tryz.prog 129 0=some 0:=by kernel_rfl
theorem qo:bR Tryz.prog 129 1=some 1:=by kernel_rfl
theorem y8:bR Tryz.prog 129 2=some 2:=by kernel_rfl
theorem tv:bR Tryz.prog 143 0=some 0:=by kernel_rfl
theorem qp:bR Tryz.prog 143 1=some 1:=by kernel_rfl
theorem GW:bR Tryz.prog 155 3=some 3:=by kernel_rfl
theorem GX:bR Tryz.prog 155 4=some 4:=by kernel_rfl
theorem GY:bR Tryz.prog 155 5=some 5:=by kernel_rfl
theorem qq:bR Tryz.prog 155 6=some 6:=by kernel_rfl
theorem tw:bR Tryz.prog 157 0=some 0:=by kernel_rfl
theorem qs:bR Tryz.prog 157 1=some 1:=by kernel_rfl
theorem y9:bR Tryz.prog 157 2=some 2:=by kernel_rfl
theorem GZ:bR Tryz.prog 157 3=some 3:=by kernel_rfl
theorem tx:bR Tryz.prog 157 4=some 4:=by kernel_rfl
theorem mC:bR Tryz.prog 213 0=some 0:=by kernel_rfl
theorem G0:bR Tryz.prog 261 0=some 0:=by kernel_rfl
theorem nf:bR Tryz.prog 50 0=some 0:=by kernel_rfl
theorem om:bR Tryz.prog 50 1=some 1:=by kernel_rfl
theorem qt:bR Tryz.prog 56 0=some 0:=by kernel_rfl
theorem qu:bR Tryz.prog 56 1=some 1:=by kernel_rfl
theorem tz:bR Tryz.prog 68 0=some 0:=by kernel_rfl
theorem ng:bR Tryz.prog 87 0=some 0:=by kernel_rfl
theorem G1:bR Tryz.prog 87 1=some 1:=by kernel_rfl
theorem G2:bR Tryz.prog 87 2=some 2:=by kernel_rfl
theorem za:bR Tryz.prog 87 3=some 3:=by kernel_rfl
theorem tA:bR Tryz.prog 87 4=some 8:=by kernel_rfl
theorem qv:bR Tryz.prog 87 5=some 9:=by kernel_rfl
theorem kZ:bR Tryz.prog 87 6=some 10:=by kernel_rfl
theorem ni:bR Tryz.prog 87 7=some 11:=by kernel_rfl
theorem k0:bR Tryz.prog 87 8=some 12:=by kernel_rfl
theorem et:bR Tryz.prog 89 0=some 0:=by kernel_rfl
theorem zb:bR Tryz.prog 89 1=some 13:=by kernel_rfl
theorem eL:bR Tryz.prog 92 0=some 0:=by kernel_rfl
theorem oo:bR Tryz.prog 92 1=some 1:=by kernel_rfl
theorem oq:bR Tryz.prog 92 2=some 2:=by kernel_rfl
theorem G3:bR Tryz.prog 92 3=some 3:=by kernel_rfl
theorem nj:bR Tryz.prog 92 4=some 4:=by kernel_rfl
theorem tB:bR Tryz.prog 92 5=some 5:=by kernel_rfl
theorem tC:bR Tryz.prog 92 6=some 6:=by kernel_rfl
theorem zc:bR Tryz.prog 99 0=some 0:=by kernel_rfl
theorem zd:bR Tryz.prog 99 1=some 1:=by kernel_rfl
theorem Ib:(Tryz.prog.info? 143).isSome=true :=by kernel_rfl
theorem Ir:∀ (l:List UInt8) (c:UInt8) (w:World),(callFunc 169 #[str l,.int .u8 c.toNat]).run Tryz.prog w= .ok (.value (.int .i64 (dC c l))) w:=KG Tryz.func169 (by kernel_rfl) (by kernel_rfl) (by kernel_rfl) (by kernel_rfl)
theorem mG:kb Tryz.prog 71 (k4 .u16):=Iv (q:= .u16) (by kernel_rfl)
theorem fp:kb Tryz.prog 9 fK:=Iw (by kernel_rfl)
theorem ue:mJ Tryz.prog 25=true :=by kernel_rfl
theorem JX:ptrTo Tryz.prog 183 5=true :=by kernel_rfl
theorem Bn:ei Tryz.prog 115 219 2 32=true :=by kernel_rfl
theorem Bo:ei Tryz.prog 116 64 1 24=true :=by kernel_rfl
theorem Bp:ei Tryz.prog 117 129 5 40=true :=by kernel_rfl
theorem rf:ei Tryz.prog 118 127 8 104=true :=by kernel_rfl
theorem eQ:ei Tryz.prog 139 5 1 1=true :=by kernel_rfl
theorem rh:ei Tryz.prog 211 227 4 32=true :=by kernel_rfl
theorem Bq:ei Tryz.prog 235 261 1 16=true :=by kernel_rfl
theorem Bs:ei Tryz.prog 35 68 2 40=true :=by kernel_rfl
theorem ri:ei Tryz.prog 39 56 2 40=true :=by kernel_rfl
theorem rj:ei Tryz.prog 45 50 2 32=true :=by kernel_rfl
theorem dU:ei Tryz.prog 48 9 1 16=true :=by kernel_rfl
theorem rk:ei Tryz.prog 54 71 1 2=true :=by kernel_rfl
theorem jK:ei Tryz.prog 64 3 1 8=true :=by kernel_rfl
theorem Bt:ei Tryz.prog 74 105 2 32=true :=by kernel_rfl
theorem rl:ei Tryz.prog 82 163 2 32=true :=by kernel_rfl
theorem rm:ei Tryz.prog 83 54 1 24=true :=by kernel_rfl
theorem rp:ei Tryz.prog 84 157 5 40=true :=by kernel_rfl
theorem rq:ei Tryz.prog 85 155 7 88=true :=by kernel_rfl
theorem Lg:ga Tryz.prog 105=some ([(0,1),(1,1)],[.int .i64 0,.slice none 0 0]):=by kernel_rfl
theorem Lh:ga Tryz.prog 108=some ([(0,1),(1,1)],[.slice none 0 0,.map none]):=by kernel_rfl
theorem Li:ga Tryz.prog 120=some ([(0,1),(1,1),(2,1),(3,5),(8,1),(9,1),(10,1),(11,1),(12,1)],[.int .i64 0,.string ⟨⟨[]⟩⟩,.string ⟨⟨[]⟩⟩,.int .i64 0,.int .i64 0,.int .i64 0,.int .i64 0,.int .i64 0,.int .i64 0,.slice none 0 0,.slice none 0 0,.slice none 0 0,.slice none 0 0]):=by kernel_rfl
theorem Lj:ga Tryz.prog 122=some ([(0,1),(1,1),(2,1),(3,1),(4,1),(5,1)],[.pointer none,.slice none 0 0,.int .i64 0,.int .i64 0,.slice none 0 0,.int .i64 0]):=by kernel_rfl
theorem Bz:ga Tryz.prog 127=some ([(0,1),(1,1),(2,1),(3,1),(4,1),(5,1),(6,1),(7,1)],[.int .i64 0,.int .i64 0,.bool false,.string ⟨⟨[]⟩⟩,.string ⟨⟨[]⟩⟩,.string ⟨⟨[]⟩⟩,.slice none 0 0,.int .i64 0]):=by kernel_rfl
theorem BA:ga Tryz.prog 129=some ([(0,1),(1,1),(2,1),(3,1),(4,1)],[.int .i64 0,.int .i64 0,.bool false,.int .i64 0,.int .i64 0]):=by kernel_rfl
theorem Lk:ga Tryz.prog 155=some ([(0,1),(1,1),(2,1),(3,1),(4,1),(5,1),(6,1)],[.int .i64 0,.int .u16 0,.bool false,.string ⟨⟨[]⟩⟩,.string ⟨⟨[]⟩⟩,.string ⟨⟨[]⟩⟩,.slice none 0 0]):=by kernel_rfl
theorem uZ:ga Tryz.prog 157=some ([(0,1),(1,1),(2,1),(3,1),(4,1)],[.int .u16 0,.int .i64 0,.bool false,.int .i64 0,.int .i64 0]):=by kernel_rfl
theorem Ll:ga Tryz.prog 163=some ([(0,1),(1,1)],[.string ⟨⟨[]⟩⟩,.string ⟨⟨[]⟩⟩]):=by kernel_rfl
theorem oQ:ga Tryz.prog 213=some ([(0,1)],[.slice none 0 0]):=by kernel_rfl
theorem Lm:ga Tryz.prog 219=some ([(0,1),(1,1)],[.string ⟨⟨[]⟩⟩,.string ⟨⟨[]⟩⟩]):=by kernel_rfl
theorem nA:ga Tryz.prog 25=some ([(0,1),(1,1),(2,1)],[.int .i64 0,.int .i64 0,.int .i64 0]):=by kernel_rfl
theorem Ln:ga Tryz.prog 261=some ([(0,1)],[.string ⟨⟨[]⟩⟩]):=by kernel_rfl
theorem BB:ga Tryz.prog 50=some ([(0,1),(1,1)],[.int .i64 0,.slice none 0 0]):=by kernel_rfl
theorem la:ga Tryz.prog 56=some ([(0,1),(1,1)],[.string ⟨⟨[]⟩⟩,.slice none 0 0]):=by kernel_rfl
theorem lf:ga Tryz.prog 68=some ([(0,1),(1,1)],[.string ⟨⟨[]⟩⟩,.slice none 0 0]):=by kernel_rfl
theorem Lo:ga Tryz.prog 89=some ([(0,13),(13,1)],[.int .i64 0,.string ⟨⟨[]⟩⟩,.string ⟨⟨[]⟩⟩,.int .u16 0,.int .u16 0,.int .u16 0,.int .u16 0,.int .u16 0,.int .i64 0,.slice none 0 0,.slice none 0 0,.slice none 0 0,.slice none 0 0,.map none]):=by kernel_rfl
theorem Lp:ga Tryz.prog 92=some ([(0,1),(1,1),(2,1),(3,1),(4,1),(5,1),(6,1)],[.pointer none,.slice none 0 0,.int .i64 0,.int .i64 0,.map none,.map none,.slice none 0 0]):=by kernel_rfl
theorem jm:ga Tryz.prog 99=some ([(0,1),(1,1)],[.int .i64 0,.nilFunc]):=by kernel_rfl
theorem vc:Tryz.prog.underlying 106=some (.map 9 64):=by kernel_rfl
theorem BN:Tryz.prog.underlying 116=some (.slice 64):=by kernel_rfl
theorem vd:Tryz.prog.underlying 117=some (.slice 129):=by kernel_rfl
theorem ve:Tryz.prog.underlying 118=some (.slice 127):=by kernel_rfl
theorem jn:Tryz.prog.underlying 139=some (.slice 5):=by kernel_rfl
theorem BO:Tryz.prog.underlying 141=some (.pointer 143):=by kernel_rfl
theorem LK:Tryz.prog.underlying 169=some (.slice 71):=by kernel_rfl
theorem vf:Tryz.prog.underlying 211=some (.slice 227):=by kernel_rfl
theorem l6:Tryz.prog.underlying 22=some (.pointer 89):=by kernel_rfl
theorem BQ:Tryz.prog.underlying 224=some (.int .u64):=by kernel_rfl
theorem vg:Tryz.prog.underlying 235=some (.slice 261):=by kernel_rfl
theorem LL:Tryz.prog.underlying 266=some (.int .u64):=by kernel_rfl
theorem nE:Tryz.prog.underlying 28=some (.pointer 108):=by kernel_rfl
theorem u3:Tryz.prog.underlying 3=some (.int .i64):=by kernel_rfl
theorem l7:Tryz.prog.underlying 35=some (.slice 68):=by kernel_rfl
theorem oT:Tryz.prog.underlying 39=some (.slice 56):=by kernel_rfl
theorem u4:Tryz.prog.underlying 4=some (.bool):=by kernel_rfl
theorem rA:Tryz.prog.underlying 45=some (.slice 50):=by kernel_rfl
theorem c9:Tryz.prog.underlying 48=some (.slice 9):=by kernel_rfl
theorem u5:Tryz.prog.underlying 5=some (.int .u8):=by kernel_rfl
theorem kD:Tryz.prog.underlying 54=some (.slice 71):=by kernel_rfl
theorem u64:Tryz.prog.underlying 64=some (.slice 3):=by kernel_rfl
theorem rB:Tryz.prog.underlying 71=some (.int .u16):=by kernel_rfl
theorem rC:Tryz.prog.underlying 74=some (.slice 105):=by kernel_rfl
theorem dY:Tryz.prog.underlying 80=some (.map 71 3):=by kernel_rfl
theorem LM:Tryz.prog.underlying 82=some (.slice 163):=by kernel_rfl
theorem rD:Tryz.prog.underlying 83=some (.slice 54):=by kernel_rfl
theorem BS:Tryz.prog.underlying 84=some (.slice 157):=by kernel_rfl
theorem rE:Tryz.prog.underlying 85=some (.slice 155):=by kernel_rfl
theorem u9:Tryz.prog.underlying 9=some (.string):=by kernel_rfl
theorem l8:Tryz.prog.underlying 90=some (.map 9 3):=by kernel_rfl
theorem iO:Tryz.prog.underlying 94=some (.map 9 99):=by kernel_rfl
theorem BU:oU Tryz.prog 141 202 143 2=true :=by kernel_rfl
theorem LW:(Tryz.prog.underlying 224).isSome=true :=by kernel_rfl
theorem LX:(Tryz.prog.underlying 225).isSome=true :=by kernel_rfl
theorem l9:(Tryz.prog.underlying 3).isSome=true :=by kernel_rfl
theorem lj:(Tryz.prog.underlying 5).isSome=true :=by kernel_rfl
theorem wide:Tryz.prog.follows .mixedOrders=true :=by kernel_rfl
theorem Cb:zeroOf Tryz.prog 105=some (some [.int .i64 0,.slice none 0 0]):=by kernel_rfl
theorem Cc:zeroOf Tryz.prog 127=some (some [.int .i64 0,.int .i64 0,.bool false,.string ⟨⟨[]⟩⟩,.string ⟨⟨[]⟩⟩,.string ⟨⟨[]⟩⟩,.slice none 0 0,.int .i64 0]):=by kernel_rfl
theorem mR:zeroOf Tryz.prog 129=some (some [.int .i64 0,.int .i64 0,.bool false,.int .i64 0,.int .i64 0]):=by kernel_rfl
theorem Cd:zeroOf Tryz.prog 143=some (some [.pointer none,.slice none 0 0]):=by kernel_rfl
theorem vw:zeroOf Tryz.prog 155=some (some [.int .i64 0,.int .u16 0,.bool false,.string ⟨⟨[]⟩⟩,.string ⟨⟨[]⟩⟩,.string ⟨⟨[]⟩⟩,.slice none 0 0]):=by kernel_rfl
theorem oX:zeroOf Tryz.prog 157=some (some [.int .u16 0,.int .i64 0,.bool false,.int .i64 0,.int .i64 0]):=by kernel_rfl
theorem vz:zeroOf Tryz.prog 213=some (some [.slice none 0 0]):=by kernel_rfl
theorem Ml:zeroOf Tryz.prog 22=some (some [.pointer none]):=by kernel_rfl
theorem mS:zeroOf Tryz.prog 227=some (some [.int .u64 0,.int .u64 0,.int .u64 0,.int .u64 0]):=by kernel_rfl
theorem iP:zeroOf Tryz.prog 25=some (some [.int .i64 0,.int .i64 0,.int .i64 0]):=by kernel_rfl
theorem Mm:zeroOf Tryz.prog 266=some (some [.int .u64 0]):=by kernel_rfl
theorem Mn:zeroOf Tryz.prog 3=some (some [.int .i64 0]):=by kernel_rfl
theorem Mo:zeroOf Tryz.prog 48=some (some [.slice none 0 0]):=by kernel_rfl
theorem Ce:zeroOf Tryz.prog 56=some (some [.string ⟨⟨[]⟩⟩,.slice none 0 0]):=by kernel_rfl
theorem vA:zeroOf Tryz.prog 68=some (some [.string ⟨⟨[]⟩⟩,.slice none 0 0]):=by kernel_rfl
theorem Mp:zeroOf Tryz.prog 74=some (some [.slice none 0 0]):=by kernel_rfl
theorem Mq:zeroOf Tryz.prog 81=some (some [.int .u16 0,.int .u16 0,.int .u16 0,.int .u16 0,.int .u16 0]):=by kernel_rfl
theorem Cf:zeroOf Tryz.prog 87=some (some [.int .i64 0,.string ⟨⟨[]⟩⟩,.string ⟨⟨[]⟩⟩,.int .u16 0,.int .u16 0,.int .u16 0,.int .u16 0,.int .u16 0,.int .i64 0,.slice none 0 0,.slice none 0 0,.slice none 0 0,.slice none 0 0]):=by kernel_rfl
theorem Mr:zeroOf Tryz.prog 9=some (some [.string ⟨⟨[]⟩⟩]):=by kernel_rfl
theorem Ms:zeroOf Tryz.prog 99=some (some [.int .i64 0,.nilFunc]):=by kernel_rfl
theorem Mt:zeroOf Tryz.prog 204=some (some (List.replicate 256 (.bool false))):=by kernel_rfl
theorem Mu:zeroV Tryz.prog 25=some (.agg #[.int .i64 0,.int .i64 0,.int .i64 0]):=by kernel_rfl
theorem kJ:zeroV Tryz.prog 3=some (.int .i64 0):=by kernel_rfl
theorem Mv:zeroV Tryz.prog 5=some (.int .u8 0):=by kernel_rfl
theorem Cg:zeroV Tryz.prog 64=some (.slice none 0 0):=by kernel_rfl
theorem Mx:zeroV Tryz.prog 71=some (.int .u16 0):=by kernel_rfl
theorem My:zeroV Tryz.prog 99=some (.agg #[.int .i64 0,.nilFunc]):=by kernel_rfl
end Go.Hb.di
end
section
set_option maxRecDepth 20000
set_option maxHeartbeats 1000000
namespace Go.Hb.Builder
open Go.Hb.di
open Go.Proofs
theorem Fg (b:Nat) (a:Option Addr) (i:Value) (w:World) (hb:w.heap[b]? =some (.cells [Value.pointer a,i].toArray 143 (0,0))) (hp:a=none∨a=some ⟨b,0,none⟩):
 aU Tryz.prog 87 (List.toArray [aG b]) w (fun v w'=>v= .tuple #[]∧w'.heap[b]? =some (.cells [Value.pointer (some ⟨b,0,none⟩),i].toArray 143 (0,0))∧Md (fun k=>k=b) w w'):=by
 refine enter Tryz.func87 rfl Tryz.ntmps87 rfl ?_
 refine U (fun _ j=>(ab (aG b) (p (nc rfl) (p (fa tv rfl) (p (ld vU rfl ((aO hb).trans rfl)) (p (ij BO rfl rfl) (nl ?_)))))))
 refine tn (j _ _ (cb rfl (fun hc6=> ?_) (fun hc6=> ?_)))
 obtain rfl :a=none:=by simpa using hc6
 refine rg rfl (ab (aG b) (ab (aG b) (p (LC BU rfl hb rfl) (p (E7 FB rfl) (p (G5 BU rfl hb rfl) (p (nc rfl) (p (fa tv rfl) ?_)))))))
 refine e (ca FG rfl rfl rfl hb (by simp) fun w1 s hB=>nl (f0 rfl ?_))
 exact ⟨rfl,hB,s⟩
 obtain rfl :a=some ⟨b,0,none⟩:=hp.resolve_left (by rintro rfl; simp at hc6)
 refine U (fun _ q=>(ab (aG b) (p (nc rfl) (p (fa tv rfl) (p (ld vU rfl ((aO hb).trans rfl)) (ab (aG b) (p (Je BO Ib rfl rfl) ?_)))))))
 refine ag ((q _ _ (cf rfl (au (f0 rfl ?_)))))
 exact ⟨rfl,hb,Md.refl _ _⟩
theorem Ca (b:Nat) (i:Value) (l:List UInt8) (c:UInt8) (w:World) (hb:Bd 143 5 w b i l) (hl:l.length≤70368744177664):
 aU Tryz.prog 54 (List.toArray [aG b,.int .u8 c.toNat]) w (fun v w'=>v= .nilIface∧∃ A,Bd 143 5 w' b A (l++ [c])∧Md (BF b i) w w'∧∀ k,BF b A k→BF b i k∨w.heap.size≤k):=by
 obtain ⟨⟨al,hbl,ai⟩,hown,hnil⟩:=hb
 have hlt:b < w.heap.size:=(Array.getElem?_eq_some_iff.1 hbl).1
 have I:∀ k,i.ownBlock=some k→k≠b∧k < w.heap.size:=fun k hk=>by have :=hown.lt k hk; exact ⟨by omega,this.2⟩
 refine enter Tryz.func54 rfl Tryz.ntmps54 rfl ?_
 refine U (fun _ M=>(ae (((M _ _ (U (fun _ O=>(ab (aG b) ?_))))))))
 refine e (cl Ek (Fg b al i w hbl ai) rfl fun v6 w6 hR6=> ?_)
 obtain ⟨_,G,q⟩:=hR6
 have ho1:=bW hown q (fun k hk=>(I k hk).1)
 have hs1:=q.size
 refine ag ((O _ _ (U (fun _ V=>(ab (aG b) (ab (aG b) (p (nc rfl) (p (fa qp rfl) ?_))))))))
 refine p (ld rS rfl ((aO G).trans rfl)) (ab (.int .u8 c.toNat) (e (ea eQ rfl rfl fun am w13 an j aa=>e (ap eQ (aE ho1 j.md) rfl (by have :=j.size; omega) rfl (ak.cQ aa) (rfl) (rfl) (by omega) (by omega) fun J w14 s C hz14 ah=> ?_))))
 have hb14:=C.az (Wk.az j.md G) (fun h=>(I b h).1 rfl)
 refine p (nc rfl) (p (fa qp rfl) (e (ca FF rfl rfl (by obtain ⟨a,c,h,_⟩:=nu s; exact congrArg Value.oneCell' h) hb14 (by simp) fun w3 E ac=>ag ((V _ _ (U (fun _ Y=>(p aj ?_))))))))
 refine ag ((Y _ _ (rt (f1 rfl rfl ?_))))
 have Z:∀ k,J.ownBlock=some k→k≠b:=fun k hk=>by have :=s.lt k hk; omega
 refine ⟨rfl,J,⟨⟨_,ac,.inr rfl⟩,?_,?_⟩,?_,?_⟩
 rw [List.length_append,o8]; exact bW s E (fun k hk=>Z k hk)
 rw [hz14]; simp
 refine Md.trans' (Md.trans' (Md.trans' (q.mono (fun k _ h=> .inl h)) j.md (fun _ _ h=>h.elim)) C (fun k _ h=> .inr h)) E (fun k _ h=> .inl h)
 rintro k (rfl | hk)
 exact .inl (.inl rfl)
 by_cases h:i.ownBlock=some k
 exact .inl (.inr h)
 have :=ah k hk; have h1:=q.size; have h2:=j.md.size; exact .inr (by rcases this with h3 | h3; exact absurd h3 h; omega)
theorem u7 (b:Nat) (q:Value) (l:List UInt8) (w:World) (hb:Bd 143 5 w b q l) (hl:l.length≤70368744177664):
 aU Tryz.prog 55 (List.toArray [aG b]) w (fun v w'=>v=str l∧Md (fun k=>q.ownBlock=some k) w w'):=by
 obtain ⟨⟨J,hbl,G⟩,hown,hnil⟩:=hb
 obtain ⟨a,c,rfl,hcs,hle,hk,E⟩:=nu hown
 refine enter Tryz.func55 rfl Tryz.ntmps55 rfl ?_
 refine U (fun _ s=>(ae (((s _ _ (sq (fun _ A=> ?_)))))))
 have i:(fun w'=>Md (fun k=>(Value.slice a l.length c).ownBlock=some k) w w') w.drew:=(Md.refl _ _).drew
 refine bC (fun w'=>Md (fun k=>(Value.slice a l.length c).ownBlock=some k) w w') rfl wide i (bo 0 rfl (aG b) i (aA 1 rfl (fun _ _=>nc rfl) i (aA 2 rfl (fun _ _=>fa qp rfl) i (aA 3 rfl (fun w' j=>ld rS rfl (j.aC ((aO hbl).trans rfl) (fun h=>by have :=hown.lt _ h; omega))) i (bo 5 rfl (aG b) i (aA 6 rfl (fun _ _=>nc rfl) i (aA 7 rfl (fun _ _=>fa qp rfl) i ?_)))))))
 refine aA 8 rfl (fun w' j=>ld rS rfl (j.aC ((aO hbl).trans rfl) (fun h=>by have :=hown.lt _ h; omega))) i (aA 9 rfl (fun _ _=>ba jn rfl rfl) i ?_)
 refine aA 4 rfl (fun _ _=>LY (v:= .nilFunc) rfl (by
  by_cases h:l= []
  have :=hnil.2 h; simp only [Value.slice.injEq] at this; exact .inl this.1
  right; have :0 < l.length:=List.length_pos_iff.2 h; omega)) i ?_
 refine he 10 rfl (by kernel_rfl) (LZ JX rfl rfl hown rfl (by omega) fun w13 C I=> ?_)
 have p:(fun w'=>Md (fun k=>(Value.slice a l.length c).ownBlock=some k) w w') w13:=i.trans' C (fun _ _ h=>h)
 refine ⟨p,?_⟩
 exact aA 11 rfl (fun _ _=>aj) p (hn (by kernel_rfl) (tn (A _ _ (rt (f1 rfl rfl (⟨rfl,p⟩))))))
end Go.Hb.Builder
end
section
set_option maxRecDepth 20000
set_option maxHeartbeats 1000000
namespace Go.Hb.kg
open Go.Hb.di
open Go.Proofs
open Go.Hb.Builder
theorem g3 (b:UInt8):mB b=decide ((b.toNat:Int)=92∨(b.toNat:Int)=47∨(b.toNat:Int)=35):=by
 unfold mB; exact decide_eq_decide.2 (by omega)
theorem tc (b:UInt8):fj b=decide (32 < (b.toNat:Int)∧(b.toNat:Int)≠127):=by
 unfold fj; exact decide_eq_decide.2 (by omega)
theorem GI {b:UInt8} (h:32 < (b.toNat:Int)) (h1:(b.toNat:Int)≠127):fj b=true :=by rw [tc]; exact decide_eq_true ⟨h,h1⟩
theorem ta {b:UInt8} (h:¬(32 < (b.toNat:Int)∧(b.toNat:Int)≠127)):fj b=false :=by rw [tc]; exact decide_eq_false h
theorem yS (b:UInt8) (w:World):
 aU Tryz.prog 103 (List.toArray [.int .u8 b.toNat]) w (fun v w'=>v= .bool (fj b)∧Wk w w'):=by
 refine enter Tryz.func103 rfl Tryz.ntmps103 rfl ?_
 refine U (fun _ i=>(ae (((i _ _ (U (fun _ a=>(ab (.int .u8 b.toNat) ?_))))))))
 refine p (gt rfl rfl) (p mv (gs (t:=5) rfl (fun hg5=> ?_) (fun hg5=> ?_)))
 refine pg rfl rfl rfl (aB (.int .u8 b.toNat) rfl) (pg rfl rfl rfl (bP rfl rfl) (p (bf rfl) (ae (((a _ _ (rt (f1 rfl rfl ?_))))))))
 exact ⟨by show Value.bool (decide _)=_; rw [tc]; exact bv (by constructor <;> intro h <;> first | exact ⟨by omega,h⟩ | exact h.2),Md.refl _ _⟩
 refine sk rfl rfl rfl rfl (sk rfl rfl rfl rfl (p (a4 rfl) (ae (((a _ _ (rt (f1 rfl rfl ?_))))))))
 exact ⟨by show Value.bool false =_; rw [ta (by omega)],Md.refl _ _⟩
theorem I2 (b:UInt8) (w:World):
 aU Tryz.prog 53 (List.toArray [.int .u8 b.toNat]) w (fun v w'=>v= .bool (mB b)∧Wk w w'):=by
 refine enter Tryz.func53 rfl Tryz.ntmps53 rfl ?_
 refine U (fun _ A=>(ae (((A _ _ (sq (fun _ q=>U (fun _ C=> ?_))))))))
 refine ab (.int .u8 b.toNat) (ag ((C _ _ (az (sq (fun _ s=>U (fun _ E=>(p (a8 rfl rfl) ?_))))))))
 refine ae (((E _ _ (cd rfl (fun a=> ?_) (fun a=> ?_)))))
 refine au (tn (s _ _ (cd rfl (fun a=> ?_) (fun a=> ?_))))
 refine U (fun _ j=>(ae (((j _ _ (rt (br (tr ?_))))))))
 refine f1 rfl rfl ?_
 first | exact ⟨by show Value.bool true =_; rw [g3,decide_eq_true (by omega)],Md.refl _ _⟩ | exact ⟨by show Value.bool false =_; rw [g3,decide_eq_false (by omega)],Md.refl _ _⟩
 refine au (bn (tn (q _ _ (U (fun _ j=>(ae (((j _ _ ?_)))))))))
 refine rt (f1 rfl rfl ?_)
 first | exact ⟨by show Value.bool true =_; rw [g3,decide_eq_true (by omega)],Md.refl _ _⟩ | exact ⟨by show Value.bool false =_; rw [g3,decide_eq_false (by omega)],Md.refl _ _⟩
 refine U (fun _ j=>(p (a8 rfl rfl) (ae (((j _ _ (cd rfl (fun a=> ?_) (fun a=> ?_))))))))
 refine au (tn (s _ _ (cd rfl (fun a=> ?_) (fun a=> ?_))))
 refine U (fun _ i=>(ae (((i _ _ (rt (br (tr ?_))))))))
 refine f1 rfl rfl ?_
 first | exact ⟨by show Value.bool true =_; rw [g3,decide_eq_true (by omega)],Md.refl _ _⟩ | exact ⟨by show Value.bool false =_; rw [g3,decide_eq_false (by omega)],Md.refl _ _⟩
 refine au (bn (tn (q _ _ (U (fun _ i=>(ae (((i _ _ ?_)))))))))
 refine rt (f1 rfl rfl ?_)
 first | exact ⟨by show Value.bool true =_; rw [g3,decide_eq_true (by omega)],Md.refl _ _⟩ | exact ⟨by show Value.bool false =_; rw [g3,decide_eq_false (by omega)],Md.refl _ _⟩
 refine rg rfl (p (a8 rfl rfl) (ae (((s _ _ (cd rfl (fun a=> ?_) (fun a=> ?_)))))))
 refine U (fun _ i=>(ae (((i _ _ (rt (br (tr ?_))))))))
 refine f1 rfl rfl ?_
 first | exact ⟨by show Value.bool true =_; rw [g3,decide_eq_true (by omega)],Md.refl _ _⟩ | exact ⟨by show Value.bool false =_; rw [g3,decide_eq_false (by omega)],Md.refl _ _⟩
 refine au (bn (tn (q _ _ (U (fun _ i=>(ae (((i _ _ ?_)))))))))
 refine rt (f1 rfl rfl ?_)
 first | exact ⟨by show Value.bool true =_; rw [g3,decide_eq_true (by omega)],Md.refl _ _⟩ | exact ⟨by show Value.bool false =_; rw [g3,decide_eq_false (by omega)],Md.refl _ _⟩
theorem BZ (s:List UInt8) (w:World) (hs:s.length≤1048576):
 aU Tryz.prog 74 (List.toArray [str s]) w (fun v w'=>v= .bool (lk s)∧Wk w w'):=by
 refine enter Tryz.func74 rfl Tryz.ntmps74 rfl ?_
 refine U (fun _ O=>(ae (((O _ _ (sq (fun _ Z=>U (fun _ I=> ?_))))))))
 refine ab (str s) (p (cG rfl rfl) (p mv (gs (t:=6) rfl (fun hg6=> ?_) (fun hg6=> ?_))))
 refine sk rfl rfl rfl rfl (sk rfl rfl rfl rfl (sk rfl rfl rfl rfl (p (bf rfl) (ag ((I _ _ (ct rfl (sq (fun _ a=> ?_)))))))))
 exact rg rfl (ae (((a _ _ (rt (tr (f1 rfl rfl (⟨by show Value.bool false =_; unfold lk; rw [decide_eq_false (by rw [hg6]; simp)],Md.refl _ _⟩))))))))
 refine pg rfl rfl rfl (aB (str s) rfl) (pg rfl rfl rfl (bI u9 rfl rfl) (pg rfl rfl rfl (gt rfl rfl) (p (a4 rfl) (ag ((I _ _ (cd rfl (fun hc10=> ?_) (fun hc10=> ?_))))))))
 refine U (fun _ a=>(ae (((a _ _ (rt (tr (f1 rfl rfl ?_))))))))
 exact ⟨by show Value.bool false =_; unfold lk; rw [decide_eq_false (by omega)],Md.refl _ _⟩
 refine au (tn (Z _ _ (sq (fun _ a=>U (fun _ aa=>(ab (str s) (p (bI u9 rfl rfl) (p mv ?_))))))))
 refine ag ((aa _ _ (az (lp (fun J q wI=> ∃ (i:Nat),(i≤s.length∧1≤s.length∧s.length≤64)∧(∀ j,j < i→fj (s.getD j 0)=true)∧(Wk w wI)∧(q 0=str s)∧(q 12= .int .i64 s.length)∧(q 13= .int .i64 i)∧(s.length - i=J)) _ ⟨0,(⟨by omega,by rcases Nat.eq_zero_or_pos s.length with h | h <;> first | exact absurd (List.length_eq_zero_iff.1 h) hg6 | exact h,by omega⟩),((fun j hj=>by omega)),(Md.refl _ _),rfl,rfl,rfl,rfl⟩ ?_))))
 rintro J q wI ⟨i,hi,hp,C,am,an,ao,rfl⟩
 refine fx 0 am (fx 12 an (fx 13 ao (U (fun _ ac=>(p (lt rfl rfl) (ag ((ac _ _ (sq (fun _ ah=>cd rfl (fun al=> ?_) (fun al=> ?_)))))))))))
 refine au (tn (ah _ _ (sq (fun _ A=>az (U (fun _ ai=>(ab (.int .i64 i) (p (bG (.int .i64 i) rfl) ?_))))))))
 refine ag ((ai _ _ (U (fun _ V=>(ab (str s) (ab (.int .i64 i) (p (dA u9 rfl rfl (by omega)) (e (cl wW (yS (s.getD i 0) _) rfl fun ap w19 ak=> ?_)))))))))
 obtain ⟨rfl,M⟩:=ak
 refine p (no rfl) (ag ((V _ _ (cb rfl (fun E=> ?_) (fun E=> ?_)))))
 have G:fj (s.getD i 0)=false :=by simpa using E
 refine U (fun _ Y=>(ae (((Y _ _ (rt (br (tr ?_))))))))
 exact tr (br (tr (f1 rfl rfl (⟨by show Value.bool false =_; unfold lk; rw [m6 (i:=i) (by omega) G,decide_eq_false (by simp)],Md.trans C M⟩))))
 have G:fj (s.getD i 0)=true :=by simpa using E
 refine au (bn (tn (A _ _ (rg rfl (p (ad rfl rfl (bp (by omega))) (p mv (nl (tn ?_))))))))
 exact ⟨_,by omega,i+1,(by omega),((fun j hj=>by rcases Nat.lt_or_ge j i with h | h <;> first | exact hp j h | (rw [show j=i by omega]; exact G))),(Md.trans C M),rfl,rfl,rfl,rfl⟩
 refine ext (te _ (te _ (be (tn (a _ _ (U (fun _ A=>(p aj ?_))))))))
 exact ag ((A _ _ (rt (f1 rfl rfl (⟨by show Value.bool true =_; unfold lk; rw [nY (fun j hj=>hp j (by omega)),decide_eq_true ⟨hi.2.1,hi.2.2,rfl⟩],C⟩)))))
theorem vv (s:List UInt8) (w:World) (hs:s.length≤1048576):
 aU Tryz.prog 73 (List.toArray [str s]) w (fun v w'=>v=AQ (aV s)∧Wk w w'):=by
 refine enter Tryz.func73 rfl Tryz.ntmps73 rfl ?_
 refine U (fun _ al=>(p aj (p aj (p aj (ae (((al _ _ ?_))))))))
 refine U (fun _ aq=>(e (fH Cd fun a w6 hb6 aJ hB6=>ag ((aq _ _ (sq (fun _ ar=>U (fun _ av=> ?_))))))))
 refine ae (((av _ _ (az (lp (fun ai G wI=> ∃ (i:Nat) (acc:List UInt8) (j:Value),(i≤s.length∧acc.length≤i)∧(Bd 143 5 wI a j acc)∧(Wk w wI)∧(fM acc (s.drop i)=aV s)∧(G 0=str s)∧(G 6=aG a)∧(G 7= .int .i64 i)∧(s.length - i=ai)) _ ⟨0,[],.slice none 0 0,(by simp),(Bd.new hB6),aJ.md,rfl,rfl,rfl,rfl,rfl⟩ ?_)))))
 rintro ai G wI ⟨i,acc,j,hi,q,A,hd,aX,aY,aZ,rfl⟩
 refine fx 0 aX (fx 6 aY (fx 7 aZ (sq (fun _ aw=>U (fun _ ax=>(ab (.int .i64 i) (ab (str s) (p (bI u9 rfl rfl) (p (lt rfl rfl) ?_)))))))))
 refine ag ((ax _ _ (cd rfl (fun aP=> ?_) (fun aP=> ?_))))
 refine au (tn (aw _ _ (sq (fun _ O=>az (U (fun _ ay=>(ab (str s) (ab (.int .i64 i) ?_))))))))
 refine p (dA u9 rfl rfl (by omega)) (ag ((ay _ _ (az ?_))))
 refine cX (fun I wC=> ∃ (k:Nat),(k < s.length∧i≤k∧k≤i+1)∧(Bd 143 5 wC a j acc)∧(Wk w wC)∧(fM (acc++ [s.getD k 0]) (s.drop (k+1))=aV s)∧(I 0=str s)∧(I 6=aG a)∧(I 7= .int .i64 k)) ?_ ?_
 refine az (sq (fun _ V=>az (sq (fun _ am=>az (sq (fun _ an=>sq (fun _ ao=>sq (fun _ ap=> ?_))))))))
 refine rg rfl (p (a8 rfl rfl) (ae (((ap _ _ (cd rfl (fun aR=> ?_) (fun aR=> ?_)))))))
 have aO:(s.getD i 0).toNat=47:=by omega
 refine ext (te _ (te _ (be (tn (am _ _ (sq (fun _ ac=>sq (fun _ J=> ?_))))))))
 have C:(fun w'=>True) wI.drew:=trivial
 refine bC (fun w'=>True) rfl wide C (bo 1 rfl (str s) C (bo 2 rfl (.int .i64 i) C (aA 3 rfl (fun _ _=>a9 ((i+1:Nat):Int) rfl rfl (aQ (by omega) (by omega))) C (aA 4 rfl (fun _ _=>kB u9 rfl rfl (by omega)) C (he 0 rfl (by kernel_rfl) (cl sv (u7 a j acc _ (q.md (Md.refl (fun _=>False) _).drew (fun _ _ h=>h)) (by omega)) rfl fun a5 w21 aK=> ?_))))))
 obtain ⟨rfl,aF⟩:=aK
 have E:(fun w'=>True) w21:=trivial
 refine ⟨E,?_⟩
 refine aA 5 rfl (fun _ _=>aj) E (aA 6 rfl (fun _ _=>aj) E (aA 7 rfl (fun _ _=>aj) E (aA 8 rfl (fun _ _=>aj) E (hn (by kernel_rfl) (tn (J _ _ (rt (tr ?_))))))))
 refine br (tr (br (tr (br (br (tr (tr ?_)))))))
 refine br (tr (f4 rfl rfl rfl rfl rfl ?_))
 skip
 exact ⟨by rw [← hd,drop_cons 0 (by omega :i < s.length),vu aO]; rfl,q.u6 A (Md.trans (Md.refl _ _).drew aF) (by omega)⟩
 refine au (tn (ao _ _ (U (fun _ ac=>(p (a8 rfl rfl) (ae (((ac _ _ ?_)))))))))
 refine cd rfl (fun aS=> ?_) (fun aS=> ?_)
 have Z:(s.getD i 0).toNat=92:=by omega
 refine ext (te _ (kj (by decide) (te _ (be (tn (V _ _ (U (fun _ J=> ?_))))))))
 refine ab (.int .i64 i) (p (a9 ((i+1:Nat):Int) rfl rfl (aQ (by omega) (by omega))) (ae (((J _ _ (U (fun _ ah=>(p mv ?_))))))))
 refine ab (str s) (p (bI u9 rfl rfl) (p (a8 rfl rfl) (p mv (gs (t:=32) rfl (fun aW=> ?_) (fun aW=> ?_)))))
 refine sk rfl rfl rfl rfl (sk rfl rfl rfl rfl (sk rfl rfl rfl rfl (sk rfl rfl rfl rfl (sk rfl rfl rfl rfl (p (bf rfl) (ag ((ah _ _ ?_))))))))
 refine ct rfl (U (fun _ M=>(p aj (p aj (p aj (p aj (nl ?_)))))))
 refine tn (M _ _ (rt (br (tr (br (br (tr (tr ?_))))))))
 refine br (tr (f4 rfl rfl rfl rfl rfl ?_))
 exact ⟨by rw [← hd,drop_cons 0 (by omega :i < s.length),List.drop_eq_nil_of_le (by omega),vp Z]; rfl,A⟩
 refine pg rfl rfl rfl (aB (str s) rfl) (pg rfl rfl rfl mv (pg rfl rfl rfl (dA u9 rfl rfl (by omega)) (eg rfl rfl rfl (cl D6 (I2 (s.getD (i+1) 0) _) rfl fun a6 w36 aL=> ?_))))
 obtain ⟨rfl,Y⟩:=aL
 refine pg rfl rfl rfl (no rfl) (p (a4 rfl) (ag ((ah _ _ (cb rfl (fun aa=> ?_) (fun aa=> ?_))))))
 refine U (fun _ M=>(p aj (p aj (p aj (ae (((M _ _ ?_))))))))
 refine rt (br (tr (br (br (tr (tr (br ?_)))))))
 refine tr (f4 rfl rfl rfl rfl rfl ?_)
 exact ⟨by rw [← hd,drop_cons 0 (by omega :i < s.length),drop_cons 0 (by omega :i+1 < s.length),vq Z (by simpa using aa)]; rfl,Md.trans A Y⟩
 exact au (bn (tn (⟨i+1,(by omega),(q.md Y (fun _ _ h=>h)),(Md.trans A Y),((by rw [← hd,drop_cons 0 (by omega :i < s.length),drop_cons 0 (by omega :i+1 < s.length),oW Z (by simpa using aa)])),rfl,rfl,rfl⟩)))
 refine au (tn (an _ _ (ext (kj (by decide) (te _ (kj (by decide) (te _ (be ?_))))))))
 exact tn (⟨i,(by omega),q,A,((by rw [← hd,drop_cons 0 (by omega :i < s.length),vt (by omega) (by omega)])),rfl,rfl,rfl⟩)
 rintro I wC ⟨k,hk,ak,aE,aT,a0,a1,a2⟩
 refine fx 0 a0 (fx 6 a1 (fx 7 a2 (U (fun _ V=>(ab (str s) (ab (.int .i64 k) (p (dA u9 rfl rfl (by omega)) (e (cl xA (Ca a j (acc) (s.getD k 0) _ ak (by omega)) rfl fun a7 w42 aM=> ?_)))))))))
 obtain ⟨rfl,aC,aD,aH,a3⟩:=aM
 refine ag ((V _ _ (ext (be (bn (tn (O _ _ (rg rfl (ab (.int .i64 k) ?_)))))))))
 exact p (ad rfl rfl (bp (by omega))) (ae (((⟨_,by omega,k+1,acc++ [s.getD k 0],aC,(by rw [List.length_append,List.length_singleton]; omega),aD,(ak.step aE aH (by omega)),aT,rfl,rfl,rfl,rfl⟩))))
 refine ext (te _ (te _ (be (tn (ar _ _ (U (fun _ O=>(e (cl sv (u7 a j acc _ q (by omega)) rfl fun ba w43 aN=> ?_)))))))))
 obtain ⟨rfl,aI⟩:=aN
 refine p aj (p aj (p aj (ae (((O _ _ (rt (f4 rfl rfl rfl rfl rfl ?_))))))))
 exact ⟨by rw [← hd,List.drop_eq_nil_of_le (by omega),rK]; rfl,q.u6 A aI (by omega)⟩
theorem IJ (s:List UInt8) (w:World) (hs:s.length≤1048576):
 aU Tryz.prog 95 (List.toArray [str s]) w (fun v w'=>v= .tuple #[str (letE s).1,.int .i64 (letE s).2]∧Wk w w'):=by
 refine enter Tryz.func95 rfl Tryz.ntmps95 rfl ?_
 refine U (fun _ ao=>(p aj (ae (((ao _ _ (U (fun _ aw=> ?_))))))))
 refine e (al Mt fun O w4 aV G ac=> ?_)
 have hB4x:bD w4.heap O (marksOf []):=by rw [I4]; exact ac
 refine ag ((aw _ _ (sq (fun _ ax=>U (fun _ ay=>(ab (str s) (p (cG rfl rfl) (nl ?_))))))))
 refine tn (ay _ _ (cd rfl (fun hc8=> ?_) (fun hc8=> ?_)))
 refine U (fun _ M=>(p aj (ae (((M _ _ (rt (tr ?_))))))))
 exact f2 rfl rfl rfl (⟨by show Value.tuple #[str [],.int .i64 21]=_; unfold letE; rw [if_pos (.inl hc8)]; rfl,G.md⟩)
 refine au (tn (ax _ _ (U (fun _ M=>(e (fH Cd fun E w5 hb5 an aH=>ag ((M _ _ (sq (fun _ aA=> ?_))))))))))
 refine U (fun _ aB=>(ab (str s) (p (bI u9 rfl rfl) (p mv (ag ((aB _ _ (az ?_))))))))
 have hb4l:=ac.lt
 refine lp (fun aa a wI=> ∃ (i:Nat) (q:Value),(i≤s.length)∧(∀ j,j < i→fj (s.getD j 0)=true)∧(bD wI.heap O (marksOf (lets (s.take i))))∧(Bd 143 5 wI E q (lets (s.take i)))∧(Wk w wI)∧(a 0=str s)∧(a 4=aG O)∧(a 5=aG E)∧(a 10= .int .i64 s.length)∧(a 11= .int .i64 i)∧(s.length - i=aa)) _ ⟨0,.slice none 0 0,(by omega),((fun j hj=>by omega)),(an.md.B hB4x),(Bd.new aH),(Md.trans G.md an.md),rfl,rfl,rfl,rfl,rfl,rfl⟩ ?_
 rintro aa a wI ⟨i,q,hi,hp,am,V,Y,aP,aS,aT,aQ,aR,rfl⟩
 refine fx 0 aP (fx 4 aS (fx 5 aT (fx 10 aQ (fx 11 aR ?_))))
 have hll:=tX (s.take i)
 rw [List.length_take] at hll
 have hbl4:=am.lt
 refine U (fun _ aC=>(p (lt rfl rfl) (ag ((aC _ _ (sq (fun _ aD=>cd rfl (fun aO=> ?_) (fun aO=> ?_))))))))
 refine au (tn (aD _ _ (sq (fun _ C=>az (U (fun _ ap=>(ab (.int .i64 i) (p (bG (.int .i64 i) rfl) ?_))))))))
 refine ag ((ap _ _ (sq (fun _ aq=>U (fun _ ar=>(ab (str s) (ab (.int .i64 i) (p (dA u9 rfl rfl (by omega)) ?_))))))))
 refine e (cl wW (yS (s.getD i 0) _) rfl fun aX w17 aL=> ?_)
 obtain ⟨rfl,hE17⟩:=aL
 refine p (no rfl) (ag ((ar _ _ (cb rfl (fun hc18=> ?_) (fun hc18=> ?_)))))
 have I:fj (s.getD i 0)=false :=by simpa using hc18
 refine U (fun _ J=>(p aj (ae (((J _ _ (rt (tr ?_))))))))
 exact br (tr (tr (br (tr (f2 rfl rfl rfl (⟨by show Value.tuple #[str [],.int .i64 21]=_; unfold letE; rw [if_pos (.inr (m6 (by omega) I))]; rfl,Md.trans Y hE17⟩))))))
 have I:fj (s.getD i 0)=true :=by simpa using hc18
 have ah:Wk w w17:=Md.trans Y hE17
 have hB17:=hE17.B am
 have hBd17:=V.md hE17 (fun _ _ h=>h)
 have hsz17:=hE17.size
 refine au (tn (aq _ _ (U (fun _ J=>(ab (str s) (ab (.int .i64 i) (p (dA u9 rfl rfl (by omega)) (p (il wm rfl rfl (by have :=UInt8.toNat_lt (s.getD i 0); omega)) ?_))))))))
 refine p (ld po rfl (I6 hB17 _)) (p (no rfl) (ag ((J _ _ (cb rfl (fun Z=> ?_) (fun Z=> ?_))))))
 have A:¬s.getD i 0∈lets (s.take i):=of_decide_eq_false (by simpa using Z)
 refine U (fun _ av=>(ab (str s) (ab (.int .i64 i) (p (dA u9 rfl rfl (by omega)) (p (il wm rfl rfl (by have :=UInt8.toNat_lt (s.getD i 0); omega)) (e (st x3 rfl rfl (rfl) (hB17) (by rw [Ae]; have :=UInt8.toNat_lt (s.getD i 0); omega) fun wt11_4 ai aF=> ?_)))))))
 have hMk11:=I7 aF
 have aJ:Wk w wt11_4:=Md.trans' ah ai (fun k hk h=>by omega)
 have hBd11:=hBd17.md ai (fun k hk h=>by have :=hBd17.fJ hk; omega)
 refine ag ((av _ _ (rg rfl (ab (str s) (ab (.int .i64 i) (p (dA u9 rfl rfl (by omega)) (e (cl xA (Ca E q (lets (s.take i)) (s.getD i 0) _ hBd11 (by omega)) rfl fun aY a0 aM=> ?_))))))))
 obtain ⟨rfl,aE,aI,ak,aW⟩:=aM
 refine nl (bn (tn (C _ _ (rg rfl (p (ad rfl rfl (bp (by omega))) (p mv (nl (tn ?_))))))))
 exact ⟨_,by omega,i+1,aE,(by omega),((fun j hj=>by rcases Nat.lt_or_ge j i with h | h <;> first | exact hp j h | (rw [show j=i by omega]; exact I))),((by rw [lW (by omega),if_neg A]; exact ak.B hMk11 (fun h=>by have :=hBd11.fJ h; omega))),((by rw [lW (by omega),if_neg A]; exact aI)),(hBd11.step aJ ak (by have :=G.md.size; omega)),rfl,rfl,rfl,rfl,rfl,rfl⟩
 have A:s.getD i 0∈lets (s.take i):=by simpa using Z
 refine au (bn (tn (C _ _ (rg rfl (p (ad rfl rfl (bp (by omega))) (p mv (nl (tn ?_))))))))
 exact ⟨_,by omega,i+1,q,(by omega),((fun j hj=>by rcases Nat.lt_or_ge j i with h | h <;> first | exact hp j h | (rw [show j=i by omega]; exact I))),((by rw [lW (by omega),if_pos A]; exact hB17)),((by rw [lW (by omega),if_pos A]; exact hBd17)),ah,rfl,rfl,rfl,rfl,rfl,rfl⟩
 refine ext (te _ (te _ (be (tn (aA _ _ (U (fun _ C=>(e (cl sv (u7 E q (lets (s.take i)) _ V (by have :=tX (s.take i); rw [List.length_take] at this; omega)) rfl fun aZ a1 aN=> ?_)))))))))
 obtain ⟨rfl,aK⟩:=aN
 exact p aj (ae (((C _ _ (rt (f2 rfl rfl rfl (⟨by show Value.tuple #[str (lets (s.take i)),.int .i64 0]=_; unfold letE; rw [if_neg (by rw [nY (fun j hj=>hp j (by omega))]; exact fun h=>h.elim hc8 Bool.noConfusion),show s.take i=s from List.take_of_length_le (by omega)]; rfl,V.u6 Y aK (by have :=G.md.size; omega)⟩)))))))
end Go.Hb.kg
end
section
set_option maxRecDepth 20000
set_option maxHeartbeats 1000000
namespace Go.Hb.gA
open Go.Hb.di
open Go.Proofs
theorem qG {s:List UInt8} (h:¬s= []) (h1:¬(1 < s.length∧(s.getD 0 0).toNat=48)):¬lT s:=fun hz=>hz.elim h h1
theorem AN {s:List UInt8} (h:¬lT s):0 < s.length:=List.length_pos_iff.2 (fun e=>h (.inl e))
theorem qS (s:List UInt8) (most:Int) (w:World) (hs:s.length≤1048576) (hm: -9223372036854775808≤most∧most≤9223372036854775807):
 aU Tryz.prog 68 (List.toArray [str s,.int .i64 most]) w (fun v w'=>v= .tuple #[.int .i64 (cH s most).1,.int .i64 (cH s most).2]∧Wk w w'):=by
 refine enter Tryz.func68 rfl Tryz.ntmps68 rfl ?_
 refine U (fun _ V=>(p aj (ae (((V _ _ ?_))))))
 refine cX (fun J I=>(¬lT s)∧(I=w)∧(J 0=str s)∧(J 1= .int .i64 most)) ?_ ?_
 refine U (fun _ A=>(ab (str s) (p (cG rfl rfl) (p mv (gs (t:=11) rfl (fun hg11=> ?_) (fun hg11=> ?_))))))
 refine sk rfl rfl rfl rfl (sk rfl rfl rfl rfl (sk rfl rfl rfl rfl (sk rfl rfl rfl rfl (ek rfl rfl rfl (ek rfl rfl rfl (ek rfl rfl rfl (sk rfl rfl rfl rfl ?_)))))))
 refine p (bf rfl) (ag ((A _ _ (ct rfl (U (fun _ C=>(p aj (p aj ?_))))))))
 exact ag ((C _ _ (rt (tr (f2 rfl rfl rfl (⟨by show Value.tuple #[.int .i64 0,.int .i64 13]=_; rw [qR (.inl hg11)]; rfl,Md.refl _ _⟩))))))
 refine pg rfl rfl rfl (aB (str s) rfl) (pg rfl rfl rfl (bI u9 rfl rfl) (pg rfl rfl rfl (gt rfl rfl) (pg rfl rfl rfl mv (gs (t:=15) rfl (fun ar=> ?_) (fun ar=> ?_)))))
 refine pg rfl rfl rfl (aB (str s) rfl) (pg rfl rfl rfl (fz 0 u9 rfl rfl (by omega)) (pg rfl rfl rfl (a8 rfl rfl) (pg rfl rfl rfl (bf rfl) (p (a4 rfl) (ag ((A _ _ (cd rfl (fun an=> ?_) (fun an=> ?_)))))))))
 refine U (fun _ C=>(p aj (ae (((C _ _ (rt (tr ?_))))))))
 exact f2 rfl rfl rfl (⟨by show Value.tuple #[.int .i64 0,.int .i64 13]=_; rw [qR (.inr ⟨by omega,by omega⟩)]; rfl,Md.refl _ _⟩)
 have hh:=qG (s:=s) hg11 (by omega)
 exact au (tn (⟨hh,rfl,rfl,rfl⟩))
 refine sk rfl rfl rfl rfl (sk rfl rfl rfl rfl (sk rfl rfl rfl rfl (pg rfl rfl rfl (a4 rfl) (p (a4 rfl) (ag ((A _ _ (cf rfl ?_))))))))
 exact au (tn (⟨(qG (s:=s) hg11 (by omega)),rfl,rfl,rfl⟩))
 rintro J I ⟨hh,al,ay,aA⟩
 refine fx 0 ay (fx 1 aA ?_)
 subst al
 have hp:=AN hh
 refine U (fun _ A=>(ae (((A _ _ (sq (fun _ C=>U (fun _ Z=> ?_))))))))
 refine ab (str s) (p (bI u9 rfl rfl) (p mv (ag ((Z _ _ (az (lp (fun M q wI=> ∃ (i:Nat),(i≤s.length)∧(wI=I)∧((du (s.take i):Int)≤max 0 most∧(0 < i→(du (s.take i):Int)≤most))∧(∀ j,j < i→lM (s.getD j 0)=true)∧(q 0=str s)∧(q 1= .int .i64 most)∧(q 6=aa (du (s.take i)))∧(q 22= .int .i64 s.length)∧(q 23= .int .i64 i)∧(s.length - i=M)) _ ⟨0,(by omega),rfl,((by rw [List.take_zero]; show (0:Int)≤_∧_; omega)),((fun j hj=>by omega)),rfl,rfl,(iv (by first | rfl | (rw [ju (by omega)]))),rfl,rfl,rfl⟩ ?_)))))))
 rintro M q wI ⟨i,hi,am,hn,O,aC,aD,aG,aE,aF,rfl⟩
 refine fx 0 aC (fx 1 aD (fx 6 aG (fx 22 aE (fx 23 aF ?_))))
 subst am
 have hb8:=UInt8.toNat_lt (s.getD i 0)
 refine U (fun _ ac=>(p (lt rfl rfl) (ag ((ac _ _ (sq (fun _ ah=>cd rfl (fun ao=> ?_) (fun ao=> ?_))))))))
 refine au (tn (ah _ _ (sq (fun _ G=>az (U (fun _ ai=>(ab (.int .i64 i) (p (bG (.int .i64 i) rfl) ?_))))))))
 refine ag ((ai _ _ (U (fun _ ak=>(ab (str s) (ab (.int .i64 i) (p (dA u9 rfl rfl (by omega)) (p (pY u3 lj rfl (bp (by omega))) ?_))))))))
 refine p (sb rfl rfl (bp (by omega))) (ae (((ak _ _ (sq (fun _ Y=>U (fun _ E=>(p mv ?_))))))))
 refine p (lt rfl rfl) (p mv (gs (t:=33) rfl (fun av=> ?_) (fun av=> ?_)))
 refine sk rfl rfl rfl rfl (sk rfl rfl rfl rfl (p (bf rfl) (p mv (sk rfl rfl rfl rfl (sk rfl rfl rfl rfl (sk rfl rfl rfl rfl (p (bf rfl) ?_)))))))
 refine p mv (sk rfl rfl rfl rfl (sk rfl rfl rfl rfl (sk rfl rfl rfl rfl (sk rfl rfl rfl rfl (sk rfl rfl rfl rfl (sk rfl rfl rfl rfl (p (bf rfl) ?_)))))))
 refine ag ((E _ _ (ct rfl (U (fun _ a=>(p aj (p aj (nl ?_))))))))
 refine tn (a _ _ (rt (tr (br (tr (tr (br (tr ?_))))))))
 exact f2 rfl rfl rfl (⟨by show Value.tuple #[.int .i64 0,.int .i64 13]=_; rw [qQ (i:=i) (by omega) (p7 (by omega))]; rfl,Md.refl _ _⟩)
 refine pg rfl rfl rfl mv (pg rfl rfl rfl (gt rfl rfl) (p (a4 rfl) (p mv (gs (t:=37) rfl (fun aw=> ?_) (fun aw=> ?_)))))
 refine sk rfl rfl rfl rfl (sk rfl rfl rfl rfl (sk rfl rfl rfl rfl (p (bf rfl) (p mv (sk rfl rfl rfl rfl (sk rfl rfl rfl rfl (sk rfl rfl rfl rfl ?_)))))))
 refine sk rfl rfl rfl rfl (sk rfl rfl rfl rfl (sk rfl rfl rfl rfl (p (bf rfl) (ag ((E _ _ (ct rfl (sq (fun _ a=> ?_)))))))))
 refine rg rfl (p aj (ae (((a _ _ (rt (tr (br ?_))))))))
 exact tr (tr (br (tr (f2 rfl rfl rfl (⟨by show Value.tuple #[.int .i64 0,.int .i64 13]=_; rw [qQ (i:=i) (by omega) (p7 (by omega))]; rfl,Md.refl _ _⟩)))))
 refine pg rfl rfl rfl (aB (.int .i64 most) rfl) (pg rfl rfl rfl mv (pg rfl rfl rfl (lt rfl rfl) (p (a4 rfl) (p mv (gs (t:=42) rfl (fun ax=> ?_) (fun ax=> ?_))))))
 refine sk rfl rfl rfl rfl (sk rfl rfl rfl rfl (sk rfl rfl rfl rfl (sk rfl rfl rfl rfl (sk rfl rfl rfl rfl (sk rfl rfl rfl rfl (p (bf rfl) (nl ?_)))))))
 refine tn (E _ _ (ct rfl (U (fun _ a=>(p aj (ae (((a _ _ ?_)))))))))
 refine rt (tr (br (tr (tr (br (tr (f2 rfl rfl rfl ?_)))))))
 exact ⟨by show Value.tuple #[.int .i64 0,.int .i64 13]=_; rw [oB (i+1) (by rw [ju (by omega)]; omega)]; rfl,Md.refl _ _⟩
 have hml:((s.getD i 0).toNat:Int) - 48≤most:=by omega
 refine pg rfl rfl rfl (aB (aa (du (s.take i))) rfl) (pg rfl rfl rfl (aB (.int .i64 most) rfl) (pg rfl rfl rfl mv (pg rfl rfl rfl (sb rfl rfl (bp (by omega))) (pg rfl rfl rfl (l2 (((most - (((s.getD i 0).toNat:Int) - 48)).toNat / 10:Nat):Int) rfl rfl (by omega) (aQ (by omega) (by omega))) (pg rfl rfl rfl (gt rfl rfl) (p (a4 rfl) (nl ?_)))))))
 refine tn (E _ _ (cd rfl (fun ap=> ?_) (fun ap=> ?_)))
 refine U (fun _ a=>(p aj (ae (((a _ _ (rt (tr ?_))))))))
 exact br (tr (tr (br (tr (f2 rfl rfl rfl (⟨by show Value.tuple #[.int .i64 0,.int .i64 13]=_; rw [oB (i+1) (by rw [ju (by omega)]; omega)]; rfl,Md.refl _ _⟩))))))
 have aq:lM (s.getD i 0)=true :=decide_eq_true (by omega)
 refine au (tn (Y _ _ (rg rfl (ab (aa (du (s.take i))) (p (kt ((du (s.take i)*10:Nat):Int) rfl rfl (aQ (by omega) (by omega))) (p mv (p (a9 ((du (s.take i)*10 +((s.getD i 0).toNat - 48):Nat):Int) rfl rfl (aQ (by omega) (by omega))) (p aj ?_))))))))
 refine nl (bn (tn (G _ _ (rg rfl (p (ad rfl rfl (bp (by omega))) (p mv (nl (tn ?_))))))))
 exact ⟨_,by omega,i+1,(by omega),rfl,((by rw [ju (by omega)]; omega)),((fun j hj=>by rcases Nat.lt_or_ge j i with h | h <;> first | exact O j h | (rw [show j=i by omega]; exact aq))),rfl,rfl,(iv (by first | rfl | (rw [ju (by omega)]))),rfl,rfl,rfl⟩
 refine ext (te _ (te _ (be (tn (C _ _ (U (fun _ G=>(ab (aa (du (s.take i))) ?_))))))))
 exact p (bG (aa (du (s.take i))) rfl) (ae (((G _ _ (rt (f2 rfl rfl rfl (⟨by show Value.tuple #[aa (du (s.take i)),.int .i64 0]=_; rw [show s.take i=s from List.take_of_length_le (by omega),uh hh (fun j hj=>O j (by omega)) (by rw [show s.take i=s from List.take_of_length_le (by omega)] at hn; omega)],Md.refl _ _⟩)))))))
theorem mM (s:List UInt8) (most:Int) (w:World) (hs:s.length≤1048576) (hm: -9223372036854775808≤most∧most≤9223372036854775807):
 aU Tryz.prog 45 (List.toArray [str s,.int .i64 most]) w (fun v w'=>v= .tuple #[.int .i64 (cH s most).1,.int .i64 (cH s most).2]∧Wk w w'):=by
 refine enter Tryz.func45 rfl Tryz.ntmps45 rfl ?_
 refine U (fun _ am=>(p aj (ae (((am _ _ ?_))))))
 refine cX (fun ak ai=>(¬lT s)∧(ai=w)∧(ak 0=str s)∧(ak 1= .int .i64 most)) ?_ ?_
 refine U (fun _ A=>(ab (str s) (p (bI u9 rfl rfl) (p (a8 rfl rfl) (p mv (gs (t:=13) rfl (fun hg13=> ?_) (fun hg13=> ?_)))))))
 refine sk rfl rfl rfl rfl (sk rfl rfl rfl rfl (sk rfl rfl rfl rfl (sk rfl rfl rfl rfl (ek rfl rfl rfl (ek rfl rfl rfl (ek rfl rfl rfl (sk rfl rfl rfl rfl ?_)))))))
 refine p (bf rfl) (ag ((A _ _ (ct rfl (U (fun _ C=>(p aj (p aj ?_))))))))
 exact ag ((C _ _ (rt (tr (f2 rfl rfl rfl (⟨by show Value.tuple #[.int .i64 0,.int .i64 13]=_; rw [qR (.inl (List.length_eq_zero_iff.1 (by omega)))]; rfl,Md.refl _ _⟩))))))
 refine pg rfl rfl rfl (aB (str s) rfl) (pg rfl rfl rfl (bI u9 rfl rfl) (pg rfl rfl rfl (gt rfl rfl) (pg rfl rfl rfl mv (gs (t:=17) rfl (fun aG=> ?_) (fun aG=> ?_)))))
 refine pg rfl rfl rfl (aB (str s) rfl) (pg rfl rfl rfl (fz 0 u9 rfl rfl (by omega)) (pg rfl rfl rfl (a8 rfl rfl) (pg rfl rfl rfl (bf rfl) (p (a4 rfl) (ag ((A _ _ (cd rfl (fun ax=> ?_) (fun ax=> ?_)))))))))
 refine U (fun _ C=>(p aj (ae (((C _ _ (rt (tr ?_))))))))
 exact f2 rfl rfl rfl (⟨by show Value.tuple #[.int .i64 0,.int .i64 13]=_; rw [qR (.inr ⟨by omega,by omega⟩)]; rfl,Md.refl _ _⟩)
 exact au (tn (⟨(qG (s:=s) (fun e=>by subst e; exact hg13 rfl) (by omega)),rfl,rfl,rfl⟩))
 refine sk rfl rfl rfl rfl (sk rfl rfl rfl rfl (sk rfl rfl rfl rfl (pg rfl rfl rfl (a4 rfl) (p (a4 rfl) (ag ((A _ _ (cf rfl ?_))))))))
 exact au (tn (⟨(qG (s:=s) (fun e=>by subst e; exact hg13 rfl) (by omega)),rfl,rfl,rfl⟩))
 rintro ak ai ⟨hh,ar,aK,aL⟩
 refine fx 0 aK (fx 1 aL ?_)
 subst ar
 have hp:=AN hh
 refine U (fun _ A=>(ae (((A _ _ (sq (fun _ C=>U (fun _ ao=> ?_))))))))
 refine ae (((ao _ _ (az (lp (fun G J wI=> ∃ (i:Nat),(i≤s.length)∧(wI=ai)∧(∀ j,j < i→lM (s.getD j 0)=true)∧(J 0=str s)∧(J 1= .int .i64 most)∧(J 6= .int .i64 0)∧(J 7= .int .i64 i)∧(s.length - i=G)) _ ⟨0,(by omega),rfl,((fun j hj=>by omega)),rfl,rfl,rfl,rfl,rfl⟩ ?_)))))
 rintro G J wI ⟨i,hi,av,I,aM,aN,aO,aP,rfl⟩
 refine fx 0 aM (fx 1 aN (fx 6 aO (fx 7 aP ?_)))
 subst av
 refine sq (fun _ ap=>U (fun _ aq=>(ab (.int .i64 i) (ab (str s) (p (bI u9 rfl rfl) (p (lt rfl rfl) (nl ?_)))))))
 refine tn (aq _ _ (cd rfl (fun ay=> ?_) (fun ay=> ?_)))
 refine au (tn (ap _ _ (sq (fun _ ah=>az (U (fun _ V=>(ab (str s) (ab (.int .i64 i) ?_))))))))
 refine p (dA u9 rfl rfl (by omega)) (p (lt rfl rfl) (p mv (gs (t:=33) rfl (fun aH=> ?_) (fun aH=> ?_))))
 refine sk rfl rfl rfl rfl (sk rfl rfl rfl rfl (sk rfl rfl rfl rfl (sk rfl rfl rfl rfl (p (bf rfl) (ag ((V _ _ (ct rfl ?_))))))))
 refine U (fun _ E=>(p aj (ae (((E _ _ (rt (br ?_))))))))
 exact tr (tr (br (tr (f2 rfl rfl rfl (⟨by show Value.tuple #[.int .i64 0,.int .i64 13]=_; rw [qQ (i:=i) (by omega) (p7 (by omega))]; rfl,Md.refl _ _⟩)))))
 refine pg rfl rfl rfl (aB (str s) rfl) (pg rfl rfl rfl (aB (.int .i64 i) rfl) (pg rfl rfl rfl (dA u9 rfl rfl (by omega)) (pg rfl rfl rfl (gt rfl rfl) (p (a4 rfl) (ag ((V _ _ (cd rfl (fun aA=> ?_) (fun aA=> ?_)))))))))
 refine U (fun _ E=>(p aj (ae (((E _ _ (rt (br ?_))))))))
 exact tr (tr (br (tr (f2 rfl rfl rfl (⟨by show Value.tuple #[.int .i64 0,.int .i64 13]=_; rw [qQ (i:=i) (by omega) (p7 (by omega))]; rfl,Md.refl _ _⟩)))))
 have aF:lM (s.getD i 0)=true :=decide_eq_true (by omega)
 refine au (bn (tn (ah _ _ (rg rfl (ab (.int .i64 i) (p (ad rfl rfl (bp (by omega))) (p aj (nl ?_))))))))
 exact tn (⟨_,by omega,i+1,(by omega),rfl,((fun j hj=>by rcases Nat.lt_or_ge j i with h | h <;> first | exact I j h | (rw [show j=i by omega]; exact aF))),rfl,rfl,rfl,rfl,rfl⟩)
 refine ext (te _ (te _ (be (tn (C _ _ (sq (fun _ ah=>U (fun _ V=> ?_))))))))
 refine ae (((V _ _ (az (lp (fun G M al=> ∃ (j:Nat),(j≤s.length)∧(al=wI)∧(du (s.take j)≤9223372036854775807)∧(M 0=str s)∧(M 1= .int .i64 most)∧(M 6=aa (du (s.take j)))∧(M 8= .int .i64 j)∧(s.length - j=G)) _ ⟨0,(by omega),rfl,((by rw [List.take_zero]; exact Nat.zero_le _)),rfl,rfl,(iv (by first | rfl | (rw [ju (by omega)]))),rfl,rfl⟩ ?_)))))
 rintro G M al ⟨j,hj,aw,hn,aR,aS,aT,aV,rfl⟩
 refine fx 0 aR (fx 1 aS (fx 6 aT (fx 8 aV ?_)))
 subst aw
 refine sq (fun _ E=>U (fun _ an=>(ab (.int .i64 j) (ab (str s) (p (bI u9 rfl rfl) (p (lt rfl rfl) (nl ?_)))))))
 refine tn (an _ _ (cd rfl (fun aC=> ?_) (fun aC=> ?_)))
 refine au (tn (E _ _ (sq (fun _ O=>az (sq (fun _ Y=> ?_))))))
 have hd2:=sS (I j (by omega))
 refine rg rfl (ab (str s) (ab (.int .i64 j) (p (dA u9 rfl rfl (by omega)) (p (sb rfl rfl (nN (by omega))) (p (pY u3 lj rfl (bp (by omega))) (p aj (nl ?_)))))))
 refine tn (Y _ _ (sq (fun _ a=>U (fun _ Z=>(ab (aa (du (s.take j))) (p (gt rfl rfl) (p mv (gs (t:=52) rfl (fun aI=> ?_) (fun aI=> ?_)))))))))
 refine sk rfl rfl rfl rfl (sk rfl rfl rfl rfl (sk rfl rfl rfl rfl (ek rfl rfl rfl (ek rfl rfl rfl (sk rfl rfl rfl rfl (p (bf rfl) (nl ?_)))))))
 refine tn (Z _ _ (ct rfl (U (fun _ ac=>(p aj (ae (((ac _ _ ?_)))))))))
 refine rt (tr (br (tr (tr (br (tr (f2 rfl rfl rfl ?_)))))))
 exact ⟨by show Value.tuple #[.int .i64 0,.int .i64 13]=_; rw [oB (j+1) (by rw [ju (by omega)]; omega)]; rfl,Md.refl _ _⟩
 refine pg rfl rfl rfl (aB (aa (du (s.take j))) rfl) (pg rfl rfl rfl (a8 rfl rfl) (pg rfl rfl rfl mv (gs (t:=55) rfl (fun aJ=> ?_) (fun aJ=> ?_))))
 refine pg rfl rfl rfl mv (pg rfl rfl rfl (gt rfl rfl) (pg rfl rfl rfl (bf rfl) (p (a4 rfl) (ag ((Z _ _ (cd rfl (fun aD=> ?_) (fun aD=> ?_))))))))
 refine U (fun _ ac=>(p aj (ae (((ac _ _ (rt (tr ?_))))))))
 exact br (tr (tr (br (tr (f2 rfl rfl rfl (⟨by show Value.tuple #[.int .i64 0,.int .i64 13]=_; rw [oB (j+1) (by rw [ju (by omega)]; omega)]; rfl,Md.refl _ _⟩))))))
 refine au (tn (a _ _ (rg rfl (ab (aa (du (s.take j))) (p (kt ((du (s.take j)*10:Nat):Int) rfl rfl (aQ (by omega) (by omega))) (p mv (p (a9 ((du (s.take j)*10 +((s.getD j 0).toNat - 48):Nat):Int) rfl rfl (aQ (by omega) (by omega))) (p aj ?_))))))))
 refine nl (bn (tn (O _ _ (rg rfl (ab (.int .i64 j) (p (ad rfl rfl (bp (by omega))) (p aj (nl ?_))))))))
 exact tn (⟨_,by omega,j+1,(by omega),rfl,((by have :=sS (I j (by omega)); rw [ju (by omega)]; omega)),rfl,rfl,(iv (by first | rfl | (rw [ju (by omega)]))),rfl,rfl⟩)
 refine sk rfl rfl rfl rfl (sk rfl rfl rfl rfl (pg rfl rfl rfl (a4 rfl) (p (a4 rfl) (ag ((Z _ _ (cf rfl (au ?_))))))))
 refine tn (a _ _ (rg rfl (ab (aa (du (s.take j))) (p (kt ((du (s.take j)*10:Nat):Int) rfl rfl (aQ (by omega) (by omega))) (p mv (p (a9 ((du (s.take j)*10 +((s.getD j 0).toNat - 48):Nat):Int) rfl rfl (aQ (by omega) (by omega))) (p aj (nl ?_))))))))
 refine bn (tn (O _ _ (rg rfl (ab (.int .i64 j) (p (ad rfl rfl (bp (by omega))) (p aj (nl (tn ?_))))))))
 exact ⟨_,by omega,j+1,(by omega),rfl,((by have :=sS (I j (by omega)); rw [ju (by omega)]; omega)),rfl,rfl,(iv (by first | rfl | (rw [ju (by omega)]))),rfl,rfl⟩
 refine ext (te _ (te _ (be (tn (ah _ _ (sq (fun _ O=>U (fun _ Y=> ?_))))))))
 refine ab (aa (du (s.take j))) (ab (.int .i64 most) (p (gt rfl rfl) (ag ((Y _ _ (cd rfl (fun aE=> ?_) (fun aE=> ?_)))))))
 refine U (fun _ a=>(p aj (ae (((a _ _ (rt (tr ?_))))))))
 exact f2 rfl rfl rfl (⟨by show Value.tuple #[.int .i64 0,.int .i64 13]=_; rw [oB j (by omega)]; rfl,Md.refl _ _⟩)
 refine au (tn (O _ _ (U (fun _ a=>(ab (aa (du (s.take j))) (p (bG (aa (du (s.take j))) rfl) (p aj (nl ?_))))))))
 exact tn (a _ _ (rt (f2 rfl rfl rfl (⟨by show Value.tuple #[aa (du (s.take j)),.int .i64 0]=_; rw [show s.take j=s from List.take_of_length_le (by omega),uh hh (fun q aW=>I q (by omega)) (by rw [show s.take j=s from List.take_of_length_le (by omega)] at*; omega)],Md.refl _ _⟩))))
end Go.Hb.gA
end
section
set_option maxRecDepth 20000
set_option maxHeartbeats 1000000
namespace Go.Hb.fQ
open Go.Hb.di
open Go.Proofs
theorem uF {s pr:List UInt8} (h:s.take pr.length=pr):pr.length≤s.length:=by
 have :=congrArg List.length h
 rw [List.length_take] at this; omega
theorem Ls {s:List UInt8} (h:decide (1≤s.length∧s.drop (s.length - 1)= [13])=true):fX s=s.take (s.length - 1):=by
 have h1:=of_decide_eq_true h
 rw [z4 (by omega)] at h1
 exact yv (by omega) (by simpa using h1.2)
theorem Lt {s:List UInt8} (h:decide (1≤s.length∧s.drop (s.length - 1)= [13])=false):fX s=s:=by
 have h1:=of_decide_eq_false h
 refine sX fun h2=>h1 ⟨by omega,?_⟩
 rw [z4 (by omega),h2.2]
theorem Iq (c:UInt8):dC c [c]=0:=by unfold dC; simp
theorem zC (s pr:List UInt8) (w:World) (hs:s.length≤1099511627776) (hp:pr.length≤1099511627776):
 aU Tryz.prog 129 (List.toArray [str s,str pr]) w (fun v w'=>v= .bool (decide (s.take pr.length=pr))∧Wk w w'):=by
 refine enter Tryz.func129 rfl Tryz.ntmps129 rfl ?_
 refine U (fun _ i=>(ae (((i _ _ (U (fun _ a=>(ab (str s) ?_))))))))
 refine p (bI u9 rfl rfl) (ab (str pr) (p (bI u9 rfl rfl) (p (ge rfl rfl) (p mv (gs (t:=10) rfl (fun hg10=> ?_) (fun hg10=> ?_))))))
 refine pg rfl rfl rfl (aB (str s) rfl) (pg rfl rfl rfl (aB (str pr) rfl) (pg rfl rfl rfl (bI u9 rfl rfl) (pg rfl rfl rfl (ra u9 rfl rfl (by omega)) (pg rfl rfl rfl (aB (str pr) rfl) (pg rfl rfl rfl (cG rfl rfl) (p (bf rfl) (p aj ?_)))))))
 exact ag ((a _ _ (rt (f1 rfl rfl (⟨rfl,Md.refl _ _⟩)))))
 refine sk rfl rfl rfl rfl (sk rfl rfl rfl rfl (sk rfl rfl rfl rfl (sk rfl rfl rfl rfl (sk rfl rfl rfl rfl (sk rfl rfl rfl rfl (p (a4 rfl) (p aj ?_)))))))
 exact ag ((a _ _ (rt (f1 rfl rfl (⟨by show Value.bool false =_; rw [decide_eq_false (fun h=>by have :=uF h; omega)],Md.refl _ _⟩)))))
theorem LF (s pr:List UInt8) (w:World) (hs:s.length≤1099511627776) (hp:pr.length≤1099511627776):
 aU Tryz.prog 111 (List.toArray [str s,str pr]) w (fun v w'=>v=str (eR s pr)∧Wk w w'):=by
 refine enter Tryz.func111 rfl Tryz.ntmps111 rfl ?_
 refine U (fun _ j=>(ae (((j _ _ (sq (fun _ q=>U (fun _ A=> ?_))))))))
 refine ab (str s) (ab (str pr) (e (cl xg (zC s pr _ hs hp) rfl fun C w7 hR7=> ?_)))
 obtain ⟨rfl,hE7⟩:=hR7
 refine ag ((A _ _ (cb rfl (fun i=> ?_) (fun i=> ?_))))
 have hpp:=of_decide_eq_true i
 have hpl:=uF hpp
 refine U (fun _ a=>(ab (str s) (ab (str pr) (p (bI u9 rfl rfl) (p (kB u9 rfl rfl (by omega)) (p aj (nl ?_)))))))
 exact tn (a _ _ (rt (tr (f1 rfl rfl (⟨by show str (s.drop (pr.length:Int).toNat)=_; unfold eR; rw [if_pos hpp]; rfl,hE7⟩)))))
 have hpp:=of_decide_eq_false i
 refine au (tn (q _ _ (U (fun _ a=>(ab (str s) (p (bG (str s) rfl) (ag ((a _ _ ?_)))))))))
 exact rt (f1 rfl rfl (⟨by show str s=_; unfold eR; rw [if_neg hpp],hE7⟩))
theorem LG (s pr:List UInt8) (w:World) (hs:s.length≤1099511627776) (hp:pr.length≤1099511627776):
 aU Tryz.prog 89 (List.toArray [str s,str pr]) w (fun v w'=>v=str (eR s pr)∧Wk w w'):=by
 refine enter Tryz.func89 rfl Tryz.ntmps89 rfl ?_
 refine U (fun _ a=>(ae (((a _ _ (U (fun _ i=>(ab (str s) ?_))))))))
 refine ab (str pr) (e (cl Dd (LF s pr _ hs hp) rfl fun j w7 hR7=> ?_))
 obtain ⟨rfl,hE7⟩:=hR7
 exact ae (((i _ _ (rt (f1 rfl rfl (⟨rfl,hE7⟩))))))
theorem Hx (s pr:List UInt8) (w:World) (hs:s.length≤1099511627776) (hp:pr.length≤1099511627776):
 aU Tryz.prog 131 (List.toArray [str s,str pr]) w (fun v w'=>v= .bool (decide (pr.length≤s.length∧s.drop (s.length - pr.length)=pr))∧Wk w w'):=by
 refine enter Tryz.func131 rfl Tryz.ntmps131 rfl ?_
 refine U (fun _ i=>(ae (((i _ _ (U (fun _ a=>(ab (str s) ?_))))))))
 refine p (bI u9 rfl rfl) (ab (str pr) (p (bI u9 rfl rfl) (p (ge rfl rfl) (p mv (gs (t:=10) rfl (fun hg10=> ?_) (fun hg10=> ?_))))))
 refine pg rfl rfl rfl (aB (str s) rfl) (pg rfl rfl rfl (aB (str s) rfl) (pg rfl rfl rfl (bI u9 rfl rfl) (pg rfl rfl rfl (aB (str pr) rfl) (pg rfl rfl rfl (bI u9 rfl rfl) (pg rfl rfl rfl (sb rfl rfl (bp (by omega))) (pg rfl rfl rfl (kB u9 rfl rfl (by omega)) (pg rfl rfl rfl (aB (str pr) rfl) ?_)))))))
 exact pg rfl rfl rfl (cG rfl rfl) (p (bf rfl) (ae (((a _ _ (rt (f1 rfl rfl (⟨by show Value.bool (decide (s.drop ((s.length:Int) - (pr.length:Int)).toNat=pr))=_; rw [show ((s.length:Int) - (pr.length:Int)).toNat=s.length - pr.length from by omega]; exact bv (by constructor <;> intro h <;> first | exact ⟨by omega,h⟩ | exact h.2),Md.refl _ _⟩))))))))
 refine sk rfl rfl rfl rfl (sk rfl rfl rfl rfl (sk rfl rfl rfl rfl (sk rfl rfl rfl rfl (sk rfl rfl rfl rfl (sk rfl rfl rfl rfl (sk rfl rfl rfl rfl (sk rfl rfl rfl rfl ?_)))))))
 exact sk rfl rfl rfl rfl (p (a4 rfl) (ae (((a _ _ (rt (f1 rfl rfl (⟨by show Value.bool false =_; rw [decide_eq_false (by omega)],Md.refl _ _⟩))))))))
theorem LH (s:List UInt8) (w:World) (hs:s.length≤1099511627776):
 aU Tryz.prog 113 (List.toArray [str s,str [13]]) w (fun v w'=>v=str (fX s)∧Wk w w'):=by
 refine enter Tryz.func113 rfl Tryz.ntmps113 rfl ?_
 refine U (fun _ j=>(ae (((j _ _ (sq (fun _ q=>U (fun _ A=> ?_))))))))
 refine ab (str s) (ab (str [13]) (e (cl Dq (Hx s [13] _ hs (by decide)) rfl fun C w7 hR7=> ?_)))
 obtain ⟨rfl,hE7⟩:=hR7
 refine ag ((A _ _ (cb rfl (fun a=> ?_) (fun a=> ?_))))
 have hpl:=(of_decide_eq_true a).1
 have hl1:([13]:List UInt8).length=1:=rfl
 refine U (fun _ i=>(ab (str s) (ab (str s) (p (bI u9 rfl rfl) (ab (str [13]) (p (bI u9 rfl rfl) (p (sb rfl rfl (bp (by omega))) ?_)))))))
 exact p (ra u9 rfl rfl (by omega)) (ae (((i _ _ (rt (tr (f1 rfl rfl (⟨by show str (s.take ((s.length:Int) - (([13]:List UInt8).length:Int)).toNat)=_; rw [Ls a,show ((s.length:Int) - (([13]:List UInt8).length:Int)).toNat=s.length - 1 from by simp only [List.length_singleton]; omega],hE7⟩))))))))
 refine au (tn (q _ _ (U (fun _ i=>(ab (str s) (p (bG (str s) rfl) (ag ((i _ _ ?_)))))))))
 exact rt (f1 rfl rfl (⟨by show str s=_; rw [Lt a],hE7⟩))
theorem LI (s:List UInt8) (w:World) (hs:s.length≤1099511627776):
 aU Tryz.prog 91 (List.toArray [str s,str [13]]) w (fun v w'=>v=str (fX s)∧Wk w w'):=by
 refine enter Tryz.func91 rfl Tryz.ntmps91 rfl ?_
 refine U (fun _ a=>(ae (((a _ _ (U (fun _ i=>(ab (str s) ?_))))))))
 refine ab (str [13]) (e (cl Df (LH s _ hs) rfl fun j w7 hR7=> ?_))
 obtain ⟨rfl,hE7⟩:=hR7
 exact ae (((i _ _ (rt (f1 rfl rfl (⟨rfl,hE7⟩))))))
theorem zR (s:List UInt8) (c:UInt8) (w:World):
 aU Tryz.prog 144 (List.toArray [str s,.int .u8 c.toNat]) w (fun v w'=>v= .int .i64 (dC c s)∧Wk w w'):=by
 refine enter Tryz.func144 rfl Tryz.ntmps144 rfl ?_
 refine U (fun _ a=>(ae (((a _ _ (U (fun _ i=>(ab (str s) ?_))))))))
 exact ab (.int .u8 c.toNat) (p (xR (Ir s c _) rfl) (ae (((i _ _ (rt (f1 rfl rfl (⟨rfl,Md.refl _ _⟩))))))))
theorem zQ (s:List UInt8) (c:UInt8) (w:World):
 aU Tryz.prog 130 (List.toArray [str s,str [c]]) w (fun v w'=>v= .int .i64 (dC c s)∧Wk w w'):=by
 refine enter Tryz.func130 rfl Tryz.ntmps130 rfl ?_
 refine U (fun _ j=>(ae (((j _ _ (U (fun _ q=>(ab (str [c]) ?_))))))))
 refine p (bI u9 rfl rfl) (ae (((q _ _ (sq (fun _ I=>az (U (fun _ A=> ?_))))))))
 refine p mv (p (a8 rfl rfl) (p mv (gs (t:=19) rfl (fun h=>absurd h (by simp)) (fun M=> ?_))))
 refine pg rfl rfl rfl (aB (str [c]) rfl) (pg rfl rfl rfl (aB (str s) rfl) (pg rfl rfl rfl (cG rfl rfl) (p (a4 rfl) (ae (((A _ _ (cd rfl (fun i=> ?_) (fun i=> ?_)))))))))
 refine U (fun _ a=>(ae (((a _ _ (rt (br (tr ?_))))))))
 exact f1 rfl rfl (⟨by show Value.int .i64 0=_; rw [← i,Iq],Md.refl _ _⟩)
 refine U (fun _ a=>(p mv (p (a8 rfl rfl) (ae (((a _ _ (cd rfl (fun J=> ?_) (fun h=>absurd rfl h)))))))))
 refine U (fun _ C=>(ab (str s) (ab (str [c]) (p (fz 0 u9 rfl rfl (by simp)) (e (cl xl (zR s c _) rfl fun v30 w30 G=> ?_))))))
 obtain ⟨rfl,E⟩:=G
 exact ae (((C _ _ (rt (br (tr (f1 rfl rfl (⟨rfl,E⟩))))))))
theorem Ia (s:List UInt8) (c:UInt8) (w:World):
 aU Tryz.prog 173 (List.toArray [str s,str [c]]) w (fun v w'=>v= .int .i64 (dC c s)∧Wk w w'):=by
 refine enter Tryz.func173 rfl Tryz.ntmps173 rfl ?_
 refine U (fun _ a=>(ae (((a _ _ (U (fun _ i=>(ab (str s) ?_))))))))
 refine ab (str [c]) (e (cl xh (zQ s c _) rfl fun j w7 hR7=> ?_))
 obtain ⟨rfl,hE7⟩:=hR7
 exact ae (((i _ _ (rt (f1 rfl rfl (⟨rfl,hE7⟩))))))
theorem Fu (s:List UInt8) (c:UInt8) (w:World) (hs:s.length≤1099511627776):
 aU Tryz.prog 112 (List.toArray [str s,str [c]]) w (fun v w'=>v= .tuple #[str (jb c s),str (jT c s),.bool (!decide (dC c s < 0))]∧Wk w w'):=by
 refine enter Tryz.func112 rfl Tryz.ntmps112 rfl ?_
 refine U (fun _ q=>(p aj (p aj (ae (((q _ _ (sq (fun _ A=> ?_)))))))))
 refine U (fun _ C=>(ab (str s) (ab (str [c]) (e (cl xh (zQ s c _) rfl fun v10 w10 hR10=> ?_)))))
 obtain ⟨rfl,j⟩:=hR10
 refine ae (((C _ _ (U (fun _ E=>(p mv (p (ge rfl rfl) (nl ?_))))))))
 refine tn (E _ _ (cd rfl (fun G=> ?_) (fun G=> ?_)))
 have hix:=mF (c:=c) (l:=s) (by omega)
 have hl1:[c].length=1:=rfl
 refine sq (fun _ i=> ?_)
 have a:(fun w'=>Wk w10 w') w10.drew:=(Md.refl _ _).drew
 refine bC (fun w'=>Wk w10 w') rfl wide a (bo 0 rfl (str s) a (aA 1 rfl (fun _ _=>mv) a (aA 2 rfl (fun _ _=>ra u9 rfl rfl (by omega)) a (bo 3 rfl (str s) a (aA 4 rfl (fun _ _=>mv) a (bo 5 rfl (str [c]) a (aA 6 rfl (fun _ _=>bI u9 rfl rfl) a ?_)))))))
 refine aA 7 rfl (fun _ _=>a9 ((s.idxOf c+1:Nat):Int) rfl rfl (aQ (by omega) (by omega))) a (aA 8 rfl (fun _ _=>kB u9 rfl rfl (by omega)) a (aA 9 rfl (fun _ _=>aj) a (aA 10 rfl (fun _ _=>aj) a (aA 11 rfl (fun _ _=>aj) a (hn (by kernel_rfl) (tn (i _ _ (rt ?_))))))))
 exact tr (f3 rfl rfl rfl rfl (⟨by show Value.tuple #[str (s.take (dC c s).toNat),str (s.drop (s.idxOf c+1)),.bool true]=_; unfold jb jT; rw [if_neg (by omega),if_neg (by omega),hix.1,decide_eq_false (by omega)]; rfl,Md.trans j (Md.refl _ _).drew⟩))
 refine au (tn (A _ _ (U (fun _ i=>(ab (str s) (p (bG (str s) rfl) (p aj (p aj ?_))))))))
 exact ag ((i _ _ (rt (f3 rfl rfl rfl rfl (⟨by show Value.tuple #[str s,str [],.bool false]=_; unfold jb jT; rw [if_pos (by omega),if_pos (by omega),decide_eq_true (by omega)]; rfl,j⟩)))))
theorem Fz (s:List UInt8) (c:UInt8) (w:World) (hs:s.length≤1099511627776):
 aU Tryz.prog 90 (List.toArray [str s,str [c]]) w (fun v w'=>v= .tuple #[str (jb c s),str (jT c s),.bool (!decide (dC c s < 0))]∧Wk w w'):=by
 refine enter Tryz.func90 rfl Tryz.ntmps90 rfl ?_
 refine U (fun _ a=>(p aj (p aj (ae (((a _ _ (sq (fun _ i=> ?_)))))))))
 refine rg rfl (ab (str s) (ab (str [c]) (e (cl De (Fu s c _ hs) rfl fun v9 w9 hR9=> ?_))))
 obtain ⟨rfl,j⟩:=hR9
 refine p (xt rfl rfl) (p (xt rfl rfl) (p (xt rfl rfl) (p aj (p aj (ae (((i _ _ ?_))))))))
 exact rt (f3 rfl rfl rfl rfl (⟨rfl,j⟩))
end Go.Hb.fQ
end
