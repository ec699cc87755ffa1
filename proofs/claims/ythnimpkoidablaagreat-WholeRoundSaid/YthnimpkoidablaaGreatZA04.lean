import Derived.Test.YthnimpkoidablaaGreatZA00
import Derived.Test.YthnimpkoidablaaGreatZA03
set_option linter.unusedVariables false
set_option linter.unusedSimpArgs false
namespace Go.Proofs.YthnimpkoidablaaGreat.Z
open Go.RowKit
section
open Go
section
variable {P:Program}
theorem Q8i{w w2:World}(t:Touch [] w w2){k:Nat}{o:Obj}(h:w.heap[k]? =some o):w2.heap[k]? =some o:=by
 have hk:k<w.heap.size:=by
  rcases Nat.lt_or_ge k w.heap.size with h'|h'
  ·exact h'
  ·simp[Array.getElem?_eq_none h']at h
 rw[t.block k hk (by simp)]
 exact h
theorem X4C{w w2:World}(t:Touch [] w w2)(at_:Addr)(u:TypeId)(k:Addr)(b:Bool){r}(h:w.seen P at_ u k b= .ok r):w2.seen P at_ u k b= .ok r:=by
 cases hc:w.heap[at_.block]? with
 |some o=>
  have:=Q8i t hc
  unfold World.seen at h⊢
  rw[hc]at h
  rw[this]
  exact h
 |none=>
  exfalso
  unfold World.seen at h
  rw[hc]at h
  simp only[bind,Except.bind,pure,Except.pure,throw,throwThe,MonadExceptOf.throw]at h
  repeat' split at h
  all_goals cases h
theorem Q9f{w w2:World}(t:Touch [] w w2)(at_:Addr)(u:TypeId)(k:Addr)(b:Bool){r}(h:w.viewLoad P at_ u k b= .ok r):w2.viewLoad P at_ u k b= .ok r:=by
 unfold World.viewLoad at h⊢
 cases hs:w.seen P at_ u k b with
 |ok x=>rw[X4C t _ _ _ _ hs];rw[hs]at h;exact h
 |error e=>rw[hs]at h;cases h
theorem X0H{w w2:World}(t:Touch [] w w2)(a:Addr)(b:Bool){r}(h:w.farLoad P a b= .ok r):w2.farLoad P a b= .ok r:=by
 unfold World.farLoad at h⊢
 cases hc:w.heap[a.block]? with
 |none=>rw[hc]at h;cases h
 |some o=>
  rw[Q8i t hc]
  rw[hc]at h
  cases o with
  |view at_ u=>
   simp only at h⊢
   cases hv:w.viewLoad P at_ u a b with
   |ok x=>rw[Q9f t _ _ _ _ hv];rw[hv]at h;exact h
   |error e=>rw[hv]at h;cases h
  |_=>cases h
theorem X5N{w w2:World}(t:Touch [] w w2){a:Addr}{v:Value}(h:w.cell? a=some v):w2.cell? a=some v:=by
 rw[t.cell (World.block_lt_of_cell? w _ h) (by simp)]
 exact h
def Q5E(P:Program){α:Type}(s:Sem α):Prop:= ∀w a w',s.run P w= .ok a w'→w'=w∧ ∀w2,Touch [] w w2→s.run P w2= .ok a w2
theorem Q5E.bind{α β:Type}{s:Sem α}{f:α→Sem β}(hs:Q5E P s)(hf: ∀a,Q5E P (f a)):Q5E P (s>>=f):=by
 intro w b w' h
 rw[Sem.run_bind]at h
 cases hr:s.run P w with
 |ok a w1=>
  rw[hr]at h
  obtain⟨rfl,h1⟩:=hs _ _ _ hr
  obtain⟨e2,h2⟩:=hf a _ _ _ h
  exact⟨e2,fun w2 t=>by rw[Sem.run_bind,h1 w2 t];exact h2 w2 t⟩
 |halt h' w1=>rw[hr]at h;cases h
theorem Q0q.Y4k{α:Type}{s:Sem α}(h:Q0q P s):Q5E P s:=by
 intro w a w' e
 rcases h with⟨b,hb⟩|hh
 ·rw[hb w]at e;cases e;exact⟨rfl,fun w2 _=>hb w2⟩
 ·obtain⟨h,w2,e2⟩:=hh w;rw[e2]at e;cases e
theorem Q5E.load(m:Go.Mode)(a:Addr):Q5E P (Sem.load m a Sem.pure):=by
 intro w b w' h
 have hstill:=StillS.load (P:=P) m a w b w' h
 refine⟨hstill,fun w2 t=> ?_⟩
 unfold Sem.run at h⊢
 cases hc:w.cell? a with
 |some v=>
  rw[X5N t hc]
  rw[hc]at h
  cases h
  rfl
 |none=>
  rw[hc]at h
  simp only at h
  cases hf:w.farLoad P a (m== .atomic)with
  |ok x=>
   rw[hf]at h
   have h2:=X0H t a _ hf
   have hn:w2.cell? a=none:=by
    unfold World.farLoad at hf
    cases hb:w.heap[a.block]? with
    |none=>rw[hb]at hf;cases hf
    |some o=>
     have hb2:=Q8i t hb
     unfold World.cell? at hc⊢
     rw[hb]at hc
     rw[hb2]
     exact hc
   rw[hn]
   simp only[h2]
   obtain⟨v,l⟩:=x
   cases h
   rfl
  |error e=>rw[hf]at h;cases h
theorem Q5E.loadCellsFrom(a:Addr): ∀(n i:Nat) (acc:Array Value),Q5E P (loadCellsFrom a i n acc)
 |0,i,acc=>(Q0q.pure _).Y4k
 |n+1,i,acc=>(Q5E.load _ _).bind fun v=>Q5E.loadCellsFrom a n _ _
theorem Q5E.loadAt(t:TypeId)(v:Value):Q5E P (Instr.loadAt t v):=by
 unfold Instr.loadAt
 refine(Q0q.sureAddr v).Y4k.bind fun a=> ?_
 unfold loadVar
 refine(Q0q.isAgg t).Y4k.bind fun b=> ?_
 split
 ·exact(Q0q.sizeOf t).Y4k.bind fun n=>Q5E.bind (Q5E.loadCellsFrom a n 0 #[]) fun _=>(Q0q.pure _).Y4k
 ·exact Q5E.load _ _
def Q5l(P:Program){α:Type}(s:Sem α):Prop:= ∀w a w',s.run P w= .ok a w'→Touch [] w w'
theorem Q5l.bind{α β:Type}{s:Sem α}{f:α→Sem β}(hs:Q5l P s)(hf: ∀a,Q5l P (f a)):Q5l P (s>>=f):=by
 intro w b w' h
 rw[Sem.run_bind]at h
 cases hr:s.run P w with
 |ok a w1=>rw[hr]at h;exact(hs _ _ _ hr).trans (hf a _ _ _ h)
 |halt h' w1=>rw[hr]at h;cases h
theorem Q0q.grow{α:Type}{s:Sem α}(h:Q0q P s):Q5l P s:=fun w a w' e=>by
 obtain⟨rfl,_⟩:=h.Y4k w a w' e
 exact Touch.refl _ _
theorem Q5l.newRow(e:TypeId)(cs:Array Value):Q5l P (Go.newRow e cs):=by
 unfold Go.newRow
 refine Q5l.bind (s:=newObj (.cells cs e)) ?_ fun _=>(Q0q.pure _).grow
 intro w a w' h
 cases h
 exact(Touch.refl [] w).alloc _
def Q9k(o:Oper):Bool:=match o.op with| .box .. | .alloc .. | .buildSlice .. =>true|_=>false
theorem Q9N{o:Oper}{a:Act}(h:Q9k o=true): ∃s:Sem Value,execOp a.eval o=(do Pure.pure (Next.value (←s)))∧Q5l P s:=by
 obtain⟨dst,op,type,pos,after,guard⟩:=o
 cases op<;>simp only[Q9k,Bool.false_eq_true]at h
 case alloc e=>
  refine⟨_,rfl,?_⟩
  unfold Instr.alloc
  refine(Q0q.zeroValue e).grow.bind fun z=> ?_
  exact(Q5l.newRow _ _).bind fun _=>(Q0q.pure _).grow
 case box e x=>
  refine⟨_,rfl,?_⟩
  unfold Instr.box
  exact(Q5l.newRow _ _).bind fun _=>(Q0q.pure _).grow
 case buildSlice t n ps=>
  refine⟨_,rfl,?_⟩
  unfold Instr.buildSlice
  refine(Q0q.underlying t).grow.bind fun d=> ?_
  split
  ·rename_i el
   refine(Q0q.sizeOf _).grow.bind fun sz=> ?_
   have tail: ∀zero:Array Value,Q5l P (do
    let some cells:=Instr.fill (fun i=>some (i*sz,sz)) ((Array.range (n*sz)).map (zero[· %zero.size]!)) (ps.map fun(i,x)=>(i,a.eval x)).toList
     |Go.stuck "buildSlice: a part of the wrong size"
    Pure.pure (Value.slice (some (←Go.newRow el cells)) n n)):=by
    intro zero
    split
    ·exact(Q5l.newRow _ _).bind fun _=>(Q0q.pure _).grow
    ·exact(Q0q.stuck _).grow
   dsimp only
   split
   ·exact Q5l.bind (Q0q.unsupported _).grow fun _=>by
     split
     ·exact Q5l.bind (Q0q.pure _).grow fun z=>tail z
     ·exact Q5l.bind ((Q0q.zeroValue _).grow) fun z=>Q5l.bind (Q0q.pure _).grow fun z=>tail z
   ·split
    ·exact Q5l.bind (Q0q.pure _).grow fun z=>tail z
    ·exact Q5l.bind ((Q0q.zeroValue _).grow) fun z=>Q5l.bind (Q0q.pure _).grow fun z=>tail z
  ·exact(Q0q.stuck _).grow
theorem X8E{o:Oper}{a:Act}(h:Q2x o=true):Q5E P (execOp a.eval o):=by
 obtain⟨dst,op,type,pos,after,guard⟩:=o
 cases op<;>simp only[Q2x,Bool.false_eq_true]at h
 case load t x=>exact(Q5E.loadAt t _).bind fun _=>(Q0q.pure _).Y4k
variable {ops:Array Oper}{Q:Exit→Act→World→Prop}
theorem Q3p.grow{o:Oper}{v:Value}{a:Act}{w w':World}(hl:Q2x o=true)(hy:Q3p P ops o v a w)(t:Touch [] w w'):Q3p P ops o v a w':=
 hy.imp (fun⟨h1,h2⟩=>⟨h1,(X8E hl _ _ _ h2).2 w' t⟩) id
theorem X0y{o:Oper}{a:Act}(h:Q9k o=true):Nums o a:=by
 obtain⟨dst,op,type,pos,after,guard⟩:=o
 cases op<;>simp only[Q9k,Bool.false_eq_true]at h
 all_goals exact trivial
theorem Y6d{i k:Nat}{oi ok:Oper}{K:Act→World→Prop}{a:Act}{w:World}(hQ:Calm Q)(hi:ops[i]? =some oi)(hk:ops[k]? =some ok)
 (hsi: ∀cs b,oi.op≠ .select cs b) (hsk: ∀cs b,ok.op≠ .select cs b) (hni:Q9k oi=true) (hlk:Q2x ok=true) (hap:oi.apart ops ok=true)
 (h:Q3q P ops Q k (Q3q P ops Q i K) a w):Q3q P ops Q i (Q3q P ops Q k K) a w:=by
 obtain⟨a1,a2,a3⟩:=Oper.apart_spec hap
 obtain⟨u,hu,hh⟩:=Q8G hQ hk hlk h.2
 have h2:=hh.2
 have keep: ∀(v:Value) (w':World),Touch [] w w'→K ((a.put ok.dst u).put oi.dst v) w'→Q3q P ops Q k K (a.put oi.dst v) w':=fun v w' t hK=>
  ⟨fun o ho _=>by rw[hk]at ho;cases ho;exact Q4G hlk,
   Q3p.wpOp hk ((hu.grow hlk t).of_same (execOp_put ok hsk a oi.dst v a1) (wanted_put ok a oi.dst v a1)) (by rw[Act.put_comm a v u a2];exact hK)⟩
 refine⟨fun o ho _=>by rw[hi]at ho;cases ho;exact X0y hni,?_⟩
 unfold wpOp at h2⊢
 simp only[hi]at h2⊢
 rw[wanted_put oi a ok.dst u a3]at h2
 split
 ·rename_i hw
  simp only[hw,if_true]at h2
  rcases h2 with h2|⟨_,h2⟩
  case inr=>exact absurd h2 hQ.out
  refine .inl ?_
  unfold Oper.wp at h2⊢
  rw[execOp_put oi hsi a ok.dst u a3]at h2
  obtain⟨s,hs,hg⟩:=Q9N (P:=P) (a:=a) hni
  rw[hs]at h2⊢
  rw[Sem.run_bind]at h2⊢
  cases hr:s.run P w with
  |ok v w'=>
   rw[hr]at h2
   exact keep v w' (hg _ _ _ hr) h2
  |halt h' w'=>
   rw[hr]at h2
   obtain⟨n,w2,e2⟩:=Q7d hQ h2
   cases e2
 ·rename_i hw
  simp only[hw]at h2
  exact keep undef w (Touch.refl _ _) h2
end
end
end Go.Proofs.YthnimpkoidablaaGreat.Z
