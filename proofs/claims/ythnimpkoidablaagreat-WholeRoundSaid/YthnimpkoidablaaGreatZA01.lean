import Derived.Orders
import Derived.Tactics
import Derived.WalkKit
set_option linter.unusedVariables false
set_option linter.unusedSimpArgs false
namespace Go.Proofs.YthnimpkoidablaaGreat.Z
open Go.RowKit
section
open Go
section
variable {P:Program}
def Q0q(P:Program){α:Type}(s:Sem α):Prop:=(∃a,∀w,s.run P w= .ok a w)∨(∀w,∃h w',s.run P w= .halt h w')
theorem Q0q.pure{α:Type}(a:α):Q0q P (pure a:Sem α):= .inl ⟨a,fun _=>rfl⟩
theorem Q0q.halt{α:Type}(h:Halt):Q0q P (.halt h:Sem α):= .inr fun w=>⟨h,w,rfl⟩
theorem Q0q.stuck{α:Type}(s:String):Q0q P (stuck s:Sem α):=Q0q.halt _
theorem Q0q.unsupported{α:Type}(s:Unsupported):Q0q P (unsupported s:Sem α):=Q0q.halt _
theorem Q0q.program:Q0q P program:= .inl ⟨P,fun _=>rfl⟩
theorem Q0q.bind{α β:Type}{s:Sem α}{f:α→Sem β}(hs:Q0q P s)(hf: ∀a,Q0q P (f a)):Q0q P (s>>=f):=by
 rcases hs with⟨a,ha⟩|hh
 ·rcases hf a with⟨b,hb⟩|hb
  ·exact .inl ⟨b,fun w=>by rw[Sem.run_bind,ha w];exact hb w⟩
  ·exact .inr fun w=>by
    obtain⟨h,w',e⟩:=hb w
    exact⟨h,w',by rw[Sem.run_bind,ha w];exact e⟩
 ·exact .inr fun w=>by
   obtain⟨h,w',e⟩:=hh w
   exact⟨h,w',by rw[Sem.run_bind,e];rfl⟩
theorem Q0q.typeInfo(t:TypeId):Q0q P (typeInfo t):=by
 unfold Go.typeInfo
 refine Q0q.program.bind fun p=> ?_
 split
 ·exact Q0q.pure _
 ·exact Q0q.stuck _
theorem Q0q.underlying(t:TypeId):Q0q P (underlying t):=by
 unfold Go.underlying
 refine Q0q.program.bind fun p=> ?_
 split
 ·exact Q0q.pure _
 ·exact Q0q.stuck _
theorem Q0q.sizeOf(t:TypeId):Q0q P (Go.sizeOf t):=by
 unfold Go.sizeOf
 exact(Q0q.typeInfo t).bind fun _=>Q0q.pure _
theorem Q0q.isAgg(t:TypeId):Q0q P (isAgg t):=by
 unfold Go.isAgg
 refine(Q0q.underlying t).bind fun d=> ?_
 split<;>exact Q0q.pure _
theorem Q0q.zeroValue(t:TypeId):Q0q P (zeroValue t):=by
 unfold Go.zeroValue
 refine(Q0q.typeInfo t).bind fun d=> ?_
 split
 ·exact Q0q.pure _
 ·exact Q0q.unsupported _
theorem Q0q.part(t:TypeId)(cs:Array Value)(off:Nat):Q0q P (part t cs off):=by
 unfold Go.part
 refine(Q0q.isAgg t).bind fun b=> ?_
 split
 ·exact(Q0q.sizeOf t).bind fun _=>Q0q.pure _
 ·split
  ·exact Q0q.pure _
  ·exact Q0q.stuck _
theorem Q0q.asBool(v:Value):Q0q P (asBool v):=by
 unfold Go.asBool
 split
 ·exact Q0q.pure _
 ·exact Q0q.stuck _
theorem Q0q.asIntOf(v:Value):Q0q P (asIntOf v):=by
 unfold Go.asIntOf
 split
 ·exact Q0q.pure _
 ·exact Q0q.unsupported _
 ·exact Q0q.stuck _
theorem Q0q.sureAddr(v:Value):Q0q P (Instr.sureAddr v):=by
 unfold Instr.sureAddr
 split
 ·exact Q0q.pure _
 ·exact Q0q.stuck _
theorem Q0q.nilDeref{α:Type}:Q0q P (runtimePanic .nilDeref:Sem α):=by
 unfold runtimePanic
 exact Q0q.program.bind fun p=>Q0q.halt _
theorem Q0q.extract(v:Value)(i:Nat):Q0q P (Instr.extract v i):=by
 unfold Instr.extract
 split
 ·split
  ·exact Q0q.pure _
  ·exact Q0q.stuck _
 ·exact Q0q.stuck _
theorem Q0q.boundsPanic{α:Type}(k:IntKind)(x y:Int)(code:BoundsCode):Q0q P (boundsPanic k x y code:Sem α):=by
 refine .inr fun w=> ?_
 have hp: ∀(s:Bool) w,∃h w',(runtimePanic (.bounds (IntKind.i64.wrap x) y s code):Sem α).run P w= .halt h w':=fun s w=>⟨_,w,rfl⟩
 unfold Go.boundsPanic
 have hb: ∀{s:Sem Bool},∃h w',(s>>=fun b=>(runtimePanic (.bounds (IntKind.i64.wrap x) y b code):Sem α)).run P w= .halt h w':=by
  intro s
  rw[Sem.run_bind]
  cases hr:s.run P w with
  |ok v w1=>exact hp _ _
  |halt h w1=>exact⟨h,w1,rfl⟩
 dsimp only
 split
 ·exact hb
 ·exact hb
theorem Q0q.indexAt(t:TypeId)(x i:Value):Q0q P (Instr.indexAt t x i):=by
 unfold Instr.indexAt
 refine(Q0q.asIntOf i).bind fun ki=> ?_
 obtain⟨k,i⟩:=ki
 refine(Q0q.underlying t).bind fun d=> ?_
 have tail: ∀r:Option Addr×Nat×TypeId,Q0q P (do
  let(base,len,elem):=r
  let tiny:=len≤1 &&(match←Go.underlying t with| .array .. =>true|_=>false)
  match base with
  |some a=>
   if 0≤i∧i<len then Pure.pure (Value.pointer (some (a.add (i.toNat*(←Go.sizeOf elem)))))
   else if tiny then Go.unsupported (.noEntry "op/indexAddr.an index out of range at an array of length 0 or 1 (ledger 616)")
   else Go.boundsPanic k i len .index
  |none=>Go.boundsPanic k i 0 .index):=by
  intro r
  obtain⟨base,len,elem⟩:=r
  refine(Q0q.underlying t).bind fun d=> ?_
  dsimp only
  split
  ·split
   ·exact(Q0q.sizeOf _).bind fun _=>Q0q.pure _
   ·repeat' split
    all_goals first|exact Q0q.unsupported _|exact Q0q.boundsPanic _ _ _ _
  ·exact Q0q.boundsPanic _ _ _ _
 dsimp only
 split
 ·exact Q0q.bind (Q0q.sureAddr _) fun a=>Q0q.bind (Q0q.pure _) fun r=>tail r
 ·exact Q0q.bind (Q0q.pure _) fun r=>tail r
 ·exact Q0q.bind (Q0q.stuck _) fun r=>tail r
theorem Q0q.followBlind: ∀(l:List FieldStep) (t:TypeId) (x:Option Value),Q0q P (Go.followBlind l t x)
 |[],t,x=>Q0q.pure _
 |s::rest,t,x=>by
  unfold Go.followBlind
  refine(Q0q.underlying _).bind fun d=> ?_
  split
  ·split
   ·split
    ·exact Q0q.pure _
    ·exact Q0q.followBlind rest _ _
    ·exact Q0q.stuck _
    ·exact Q0q.pure _
    ·exact(Q0q.part _ _ _).bind fun v=>Q0q.followBlind rest _ _
    ·exact Q0q.stuck _
    ·exact Q0q.followBlind rest _ _
   ·exact Q0q.stuck _
  ·exact Q0q.stuck _
theorem Q0q.nilAhead: ∀(n:Nat) (t:TypeId) (v:Value) (name:String),Q0q P (Go.nilAhead n t v name)
 |0,t,v,name=>Q0q.pure _
 |n+1,t,v,name=>by
  unfold Go.nilAhead
  refine(Q0q.typeInfo _).bind fun d=> ?_
  split
  ·refine(Q0q.followBlind _ _ _).bind fun r=> ?_
   split
   ·exact Q0q.pure _
   ·split
    ·exact Q0q.nilAhead n _ _ _
    ·exact Q0q.pure _
    ·exact Q0q.stuck _
    ·exact Q0q.pure _
    ·exact Q0q.pure _
    ·refine(Q0q.underlying _).bind fun d=> ?_
     split<;>exact Q0q.pure _
  ·exact Q0q.stuck _
theorem Q0q.mapM{α β:Type}(f:α→Sem β)(hf: ∀a,Q0q P (f a)): ∀l:List α,Q0q P (l.mapM f)
 |[]=>by rw[List.mapM_nil];exact Q0q.pure _
 |a::l=>by
  rw[List.mapM_cons]
  exact(hf a).bind fun b=>(Q0q.mapM f hf l).bind fun bs=>Q0q.pure _
theorem Q0q.amapM{α β:Type}(f:α→Sem β)(hf: ∀a,Q0q P (f a))(l:Array α):Q0q P (l.mapM f):=by
 rw[Array.mapM_eq_mapM_toList]
 rcases Q0q.mapM f hf l.toList with⟨a,ha⟩|hh
 ·exact .inl ⟨a.toArray,fun w=>by rw[Sem.run_map,ha w];rfl⟩
 ·exact .inr fun w=>by
   obtain⟨h,w',e⟩:=hh w
   exact⟨h,w',by rw[Sem.run_map,e];rfl⟩
theorem Q0q.build(t:TypeId)(ps:Array (Nat×Value)):Q0q P (Instr.build t ps):=by
 unfold Instr.build
 refine(Q0q.zeroValue t).bind fun z=> ?_
 refine(Q0q.underlying t).bind fun d=> ?_
 split
 ·refine(Q0q.amapM _ (fun f=>(Q0q.sizeOf _).bind fun _=>Q0q.pure _) _).bind fun pl=> ?_
  split
  ·exact Q0q.pure _
  ·exact Q0q.stuck _
 ·refine(Q0q.sizeOf _).bind fun n=> ?_
  split
  ·exact Q0q.pure _
  ·exact Q0q.stuck _
 ·exact Q0q.stuck _
def Q6p(P:Program)(s:Sem Next):Prop:=(∃v,∀w,s.run P w= .ok (.value v) w)∨(∀w,∃h w',s.run P w= .halt h w')
theorem Q0q.next{s:Sem Value}(h:Q0q P s):Q6p P (do Pure.pure (.value (←s))):=by
 rcases h with⟨a,ha⟩|hh
 ·exact .inl ⟨a,fun w=>by rw[Sem.run_bind,ha w];rfl⟩
 ·exact .inr fun w=>by
   obtain⟨h,w',e⟩:=hh w
   exact⟨h,w',by rw[Sem.run_bind,e];rfl⟩
theorem Q6p.bind{α:Type}{s:Sem α}{f:α→Sem Next}(hs:Q0q P s)(hf: ∀a,Q6p P (f a)):Q6p P (s>>=f):=by
 rcases hs with⟨a,ha⟩|hh
 ·rcases hf a with⟨b,hb⟩|hb
  ·exact .inl ⟨b,fun w=>by rw[Sem.run_bind,ha w];exact hb w⟩
  ·exact .inr fun w=>by
    obtain⟨h,w',e⟩:=hb w
    exact⟨h,w',by rw[Sem.run_bind,ha w];exact e⟩
 ·exact .inr fun w=>by
   obtain⟨h,w',e⟩:=hh w
   exact⟨h,w',by rw[Sem.run_bind,e];rfl⟩
def Y2v:Value→Bool
 |.int _ _=>true
 |_=>false
theorem Q8H{v:Value}(h:Y2v v=true): ∃k n,v= .int k n:=by
 cases v<;>first|exact⟨_,_,rfl⟩|cases h
theorem Q0q.intDiv(op:BinOp)(k:IntKind)(m n:Int):Q0q P (Op.intDiv op k m n):=by
 unfold Op.intDiv
 split
 ·exact Q0q.program.bind fun p=>Q0q.halt _
 ·cases op<;>first|exact Q0q.pure _|exact Q0q.stuck _
theorem Q0q.shift(op:BinOp)(k:IntKind)(m:Int)(k':IntKind)(n:Int):Q0q P (Op.shift op k m k' n):=by
 unfold Op.shift
 split
 ·exact Q0q.program.bind fun p=>Q0q.halt _
 ·cases op<;>first|exact Q0q.pure _|exact Q0q.stuck _
theorem Q0q.binOp(op:BinOp)(t:TypeId)(x y:Value)(hx:Y2v x=true)(hy:Y2v y=true):Q0q P (binOp op t x y):=by
 obtain⟨k,m,rfl⟩:=Q8H hx
 obtain⟨k',n,rfl⟩:=Q8H hy
 unfold Go.binOp
 split
 ·exact Q0q.shift _ _ _ _ _
 ·exact Q0q.shift _ _ _ _ _
 all_goals first
  |(rename_i h1 h2;cases h1;cases h2
    split
    ·exact Q0q.stuck _
    ·split
     ·exact Q0q.pure _
     ·exact Q0q.pure _
     ·exact Q0q.pure _
     ·exact Q0q.intDiv _ _ _ _
     ·exact Q0q.intDiv _ _ _ _
     ·exact Q0q.pure _
     ·exact Q0q.pure _
     ·exact Q0q.pure _
     ·exact Q0q.pure _
     ·unfold Op.intCmp
      split<;>first|exact Q0q.pure _|exact Q0q.stuck _)
  |(simp_all;done)
  |(simp_all;exact Q0q.stuck _)
  |(simp_all;split
    ·exact Q0q.pure _
    ·exact Q0q.stuck _)
theorem Q0q.convert(src dst:TypeId)(x:Value)(hx:Y2v x=true){k:IntKind}(hd:P.underlying dst=some (.int k)):Q0q P (convert src dst x):=by
 obtain⟨k',n,rfl⟩:=Q8H hx
 ·unfold Go.convert
  refine(Q0q.underlying _).bind fun d=> ?_
  have he: ∀(f:TypeDesc→Sem Value),Q0q P (f (.int k))→Q0q P (Go.underlying dst>>=f):=by
   intro f hf
   have hr: ∀w,(Go.underlying dst).run P w= .ok (.int k) w:=fun w=>by
    unfold Go.underlying
    rw[Sem.run_bind]
    show(match P.underlying dst with|some d=>(Pure.pure d:Sem TypeDesc)|none=>Go.stuck "no such type").run P w=_
    rw[hd]
    rfl
   rcases hf with⟨a,ha⟩|hh
   ·exact .inl ⟨a,fun w=>by rw[Sem.run_bind,hr w];exact ha w⟩
   ·exact .inr fun w=>by
     obtain⟨h,w',e⟩:=hh w
     exact⟨h,w',by rw[Sem.run_bind,hr w];exact e⟩
  refine he _ ?_
  exact Q0q.pure _
def Q3X(P:Program)(o:Oper):Bool:=
 match o.op with
 |.move _| .assign _| .pick .. | .nilCheck _| .extract .. | .makeFunc .. | .build .. | .binOp .. | .indexAddr .. =>true
 |.fieldAddr s _ f=>match P.underlying s with
  |some (.struct fs)=>match fs[f]? with
   |some fd=>match P.info? fd.type with
    |some i=>i.size !=0
    |none=>false
   |none=>false
  |_=>false
 |.convert _ dst _=>match P.underlying dst with
  |some (.int _)=>true
  |_=>false
 |_=>false
def Q2x(o:Oper):Bool:=match o.op with| .load .. =>true|_=>false
def Nums(o:Oper)(a:Act):Prop:=
 match o.op with
 |.binOp _ _ x y _=>Y2v (a.eval x)=true∧Y2v (a.eval y)=true
 |.convert _ _ x=>Y2v (a.eval x)=true
 |_=>True
theorem X1W{o:Oper}{a:Act}(h:Q3X P o=true)(hn:Nums o a):Q6p P (execOp a.eval o):=by
 obtain⟨dst,op,type,pos,after,guard⟩:=o
 unfold Nums at hn
 cases op<;>simp only[Q3X,Bool.false_eq_true]at h hn<;>simp only[execOp]
 case move x=>exact .inl ⟨_,fun w=>rfl⟩
 case assign x=>exact .inl ⟨_,fun w=>rfl⟩
 case pick c x y=>
  rcases Q0q.asBool (P:=P) (a.eval c)with⟨b,hb⟩|hh
  ·exact .inl ⟨_,fun w=>by rw[Sem.run_bind,hb w];rfl⟩
  ·exact .inr fun w=>by
    obtain⟨h,w',e⟩:=hh w
    exact⟨h,w',by rw[Sem.run_bind,e];rfl⟩
 case nilCheck x=>
  have hp: ∀v,Q6p P (Pure.pure (Next.value v)):=fun v=> .inl ⟨v,fun w=>rfl⟩
  have hd:Q6p P (runtimePanic .nilDeref:Sem Next):=by
   rcases Q0q.nilDeref (P:=P) (α:=Next)with⟨n,hn⟩|hh
   ·exact absurd (hn default) (by intro hc;cases hc)
   ·exact .inr hh
  split
  ·exact hd
  ·exact hd
  ·exact hd
  ·split
   ·exact hd
   ·rename_i t w' _
    refine Q6p.bind Q0q.program fun p=> ?_
    refine Q6p.bind (Q0q.nilAhead _ _ _ _) fun r=> ?_
    split
    ·exact Q6p.bind (Q0q.unsupported _) fun _=>hp _
    ·exact hp _
   ·exact hp _
  ·exact hp _
 case build t ps=>exact(Q0q.build _ _).next
 case makeFunc f xs ys=>exact(Q0q.pure _).next
 case extract t i=>exact(Q0q.extract _ _).next
 case indexAddr t x i=>exact(Q0q.indexAt _ _ _).next
 case binOp op t x y u=>
  refine Q0q.next ?_
  obtain⟨hx,hy⟩:=hn
  obtain⟨k,m,e1⟩:=Q8H hx
  obtain⟨k',n,e2⟩:=Q8H hy
  refine Q0q.bind (s:=eqGuard op t x y (a.eval x) (a.eval y)) ?_ fun _=>Q0q.binOp _ _ _ _ hx hy
  rw[e1,e2]
  unfold eqGuard
  cases op<;>exact Q0q.pure ()
 case convert s d x=>
  split at h
  ·rename_i k hk
   exact(Q0q.convert _ _ _ hn hk).next
  ·cases h
 case fieldAddr s x f=>
  split at h
  ·rename_i fs hs
   split at h
   ·rename_i fd hf
    split at h
    ·rename_i i hi
     have hr: ∀w,(Go.underlying s).run P w= .ok (.struct fs) w:=fun w=>by
      unfold Go.underlying
      rw[Sem.run_bind]
      show(match P.underlying s with|some d=>(Pure.pure d:Sem TypeDesc)|none=>Go.stuck "no such type").run P w=_
      rw[hs]
      rfl
     have hz: ∀w,(Go.sizeOf fd.type).run P w= .ok i.size w:=fun w=>by
      unfold Go.sizeOf Go.typeInfo
      simp only[Sem.run_bind]
      show((match P.info? fd.type with|some d=>(Pure.pure d:Sem TypeInfo)|none=>Go.stuck "no such type").run P w).andThen _=_
      rw[hi]
      rfl
     have hne:i.size≠0:=by simpa using h
     rcases Q0q.sureAddr (P:=P) (a.eval x)with⟨b,hb⟩|hh
     ·refine .inl ⟨.pointer (some (b.add fd.offset)),fun w=> ?_⟩
      simp[Instr.fieldAt,hr,hf,hb,fieldPlace,hz,hne,Result.andThen]
     ·refine .inr fun w=> ?_
      obtain⟨h',w',e⟩:=hh w
      exact⟨h',w',by simp[Instr.fieldAt,hr,hf,e,Result.andThen]⟩
    ·cases h
   ·cases h
  ·cases h
def StillS(P:Program){α:Type}(s:Sem α):Prop:= ∀w a w',s.run P w= .ok a w'→w'=w
theorem StillS.bind{α β:Type}{s:Sem α}{f:α→Sem β}(hs:StillS P s)(hf: ∀a,StillS P (f a)):StillS P (s>>=f):=by
 intro w b w' h
 rw[Sem.run_bind]at h
 cases hr:s.run P w with
 |ok a w1=>
  rw[hr]at h
  have e1:=hs _ _ _ hr
  subst e1
  exact hf a _ _ _ h
 |halt h' w1=>rw[hr]at h;cases h
theorem Q0q.still{α:Type}{s:Sem α}(h:Q0q P s):StillS P s:=by
 intro w a w' e
 rcases h with⟨b,hb⟩|hh
 ·rw[hb w]at e;cases e;rfl
 ·obtain⟨h,w2,e2⟩:=hh w;rw[e2]at e;cases e
theorem StillS.load(m:Go.Mode)(a:Addr):StillS P (Sem.load m a Sem.pure):=by
 intro w b w' h
 unfold Sem.run at h
 split at h
 ·cases h;rfl
 ·split at h
  ·cases h;rfl
  ·cases h
theorem StillS.loadCellsFrom(a:Addr): ∀(n i:Nat) (acc:Array Value),StillS P (loadCellsFrom a i n acc)
 |0,i,acc=>(Q0q.pure _).still
 |n+1,i,acc=>(StillS.load _ _).bind fun v=>StillS.loadCellsFrom a n _ _
theorem StillS.loadAt(t:TypeId)(v:Value):StillS P (Instr.loadAt t v):=by
 unfold Instr.loadAt
 refine(Q0q.sureAddr v).still.bind fun a=> ?_
 unfold loadVar
 refine(Q0q.isAgg t).still.bind fun b=> ?_
 split
 ·exact(Q0q.sizeOf t).still.bind fun n=>StillS.bind (StillS.loadCellsFrom a n 0 #[]) fun _=>(Q0q.pure _).still
 ·exact StillS.load _ _
theorem X2D{o:Oper}{a:Act}{w:World}(h:Q2x o=true):(∃v,(execOp a.eval o).run P w= .ok (.value v) w)∨(∃h w',(execOp a.eval o).run P w= .halt h w'):=by
 obtain⟨dst,op,type,pos,after,guard⟩:=o
 cases op<;>simp only[Q2x,Bool.false_eq_true]at h
 case load t x=>
  simp only[execOp]
  rw[Sem.run_bind]
  cases hr:(Instr.loadAt t (a.eval x)).run P w with
  |ok v w1=>
   have:=StillS.loadAt t _ _ _ _ hr
   subst this
   exact .inl ⟨v,rfl⟩
  |halt h' w1=>exact .inr ⟨h',w1,rfl⟩
structure Calm(Q:Exit→Act→World→Prop):Prop where
 panic: ∀c a w,¬Q (.panic c) a w
 out: ¬LetsOut Q
variable {ops:Array Oper}{Q:Exit→Act→World→Prop}
def Q3q(P:Program)(ops:Array Oper)(Q:Exit→Act→World→Prop)(i:Nat)(K:Act→World→Prop)(a:Act)(w:World):Prop:=
 (∀o,ops[i]? =some o→Region.wanted o (yielded ops a.tmps)=true→Nums o a)∧wpOp P ops Q i K a w
def Q8c(P:Program)(ops:Array Oper)(Q:Exit→Act→World→Prop):List Nat→Act→World→Prop
 |[],a,w=>Q .normal a w
 |i::rest,a,w=>Q3q P ops Q i (Q8c P ops Q rest) a w
theorem Q9q{i:Nat}{a:Act}{w:World}{K K':Act→World→Prop}(h: ∀a w,K a w→K' a w)(hh:Q3q P ops Q i K a w):Q3q P ops Q i K' a w:=
 ⟨hh.1,wpOp_mono h hh.2⟩
theorem Q6R{o:Oper}{a:Act}{dst:Option Tmp}{v:Value}(h: ∀d,dst=some d→d∉o.looksAt ops):Nums o (a.put dst v)↔Nums o a:=by
 have he: ∀x,x∈o.op.operands→(a.put dst v).eval x=a.eval x:=fun x hx=>Act.eval_put fun d hd hxd=>h d hd (by
  subst hxd
  exact List.mem_append_left _ (List.mem_filterMap.2 ⟨.tmp d,by simpa using hx,rfl⟩))
 unfold Nums
 split
 ·rename_i op t x y u ho
  rw[he x (by rw[ho];simp[Op.operands]),he y (by rw[ho];simp[Op.operands])]
 ·rename_i s d x ho
  rw[he x (by rw[ho];simp[Op.operands])]
 ·exact Iff.rfl
theorem Q7d{o:Oper}{a:Act}{next:Act→World→Prop}{r:Result Next}(hQ:Calm Q)(h:o.upon P a next Q r): ∃n w',r= .ok n w':=by
 cases r with
 |ok n w'=>exact⟨n,w',rfl⟩
 |halt x w'=>
  cases x<;>simp only[Oper.upon]at h
  case panic v=>exact absurd h (hQ.panic _ _ _)
theorem Q3J{i:Nat}{oi:Oper}{a:Act}{w:World}{K:Act→World→Prop}(hQ:Calm Q)(hi:ops[i]? =some oi)(hb:Q3X P oi=true)(h:Q3q P ops Q i K a w):
 ∃v,Yields P ops oi v a∧K (a.put oi.dst v) w:=by
 obtain⟨hn,h⟩:=h
 unfold wpOp at h
 simp only[hi]at h
 cases hw:Region.wanted oi (yielded ops a.tmps)with
 |true=>
  simp only[hw,if_true]at h
  rcases h with h|⟨_,h⟩
  ·unfold Oper.wp at h
   rcases X1W (P:=P) hb (hn oi hi hw)with⟨v,hv⟩|hh
   ·rw[hv w]at h
    exact⟨v, .inl ⟨hw,hv⟩,h⟩
   ·obtain⟨h',w',e⟩:=hh w
    rw[e]at h
    obtain⟨n,w2,e2⟩:=Q7d hQ h
    cases e2
  ·exact absurd h hQ.out
 |false=>
  simp only[hw,Bool.false_eq_true,if_false]at h
  exact⟨undef, .inr ⟨hw,rfl⟩,h⟩
end
end
end Go.Proofs.YthnimpkoidablaaGreat.Z
