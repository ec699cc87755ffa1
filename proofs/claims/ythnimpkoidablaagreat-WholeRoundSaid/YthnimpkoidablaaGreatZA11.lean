import Derived.Deep.MidRow
import Derived.Shelf.Spec.SlicesInsert
import Derived.Lib.AppendZerosOnto
import Derived.Test.YthnimpkoidablaaGreatZA10
set_option linter.unusedVariables false
set_option linter.unusedSimpArgs false
set_option maxHeartbeats 3200000
namespace Go.Proofs.YthnimpkoidablaaGreat.Z
open Go.RowKit
structure Mt where
 n:Int
 mode:Int
 L:List Int
 fs:List Fr
 hold:List Int
def Q4h(op:Int):Fr:=⟨op,0,0,0,0,Wk.zero,0⟩
def Mt.run(M:Mt)(i:Nat)(f:Fr):Rn:=⟨M.n,M.mode,i,f,Acc.zero,[],M.L⟩
def Mt.put(M:Mt)(i:Nat)(f:Fr)(h:Int)(L:List Int):Mt:={M with L:=L,fs:=M.fs.set i f,hold:=M.hold.set i h}
structure Tk where
 r:Nat
 s:Rn
 nv:Value
def Tk.res(m:Nat)(t:Tk):List Res:=[.blk t.r (Q0V m t.s t.nv), .own 40 4 t.nv t.s.notes.length (nts t.s.notes)]
def Tk.ptr(t:Tk):Value:= .pointer (some ⟨t.r,0,none⟩)
def Q2O(m:Nat)(ts:List Tk):List Res:=ts.flatMap (Tk.res m)
structure Fit(M:Mt)(ts:List Tk):Prop where
 len:ts.length=M.fs.length
 hlen:M.hold.length=M.fs.length
 each: ∀(i:Nat) (t:Tk),ts[i]? =some t→M.fs[i]? =some t.s.f∧t.s.n=M.n∧t.s.mode=M.mode∧t.s.task=i
 ok: ∀f,f∈M.fs→Y5N f
 n64:I64 M.n
 few:M.fs.length≤64
def Q1D(S0:List Nat)(w0:World)(m a x hb:Nat)(rs:List Res)(M:Mt)(w:World):Prop:=
 ∃(lv:Value) (ts:List Tk),Fit M ts∧Has S0 w0 w (.mem m a M.L:: .blk x #[lv, .slice (some ⟨hb,0,none⟩) M.fs.length M.fs.length]:: .own 135 1 lv M.fs.length (ts.map Tk.ptr):: .blk hb (Q3S M.hold).toArray::(Q2O m ts++rs))
theorem Q1D.words{S0:List Nat}{w0 w:World}{m a x hb:Nat}{rs:List Res}{M:Mt}(H:Q1D S0 w0 m a x hb rs M w):Words M.L:=by
 obtain⟨lv,ts,F,H⟩:=H
 exact H.mem.words
theorem Q1D.touch{S0:List Nat}{w0 w:World}{m a x hb:Nat}{rs:List Res}{M:Mt}(H:Q1D S0 w0 m a x hb rs M w):Touch S0 w0 w:=by
 obtain⟨lv,ts,F,H⟩:=H
 exact H.touch
theorem Q1D.grow{w':World}{S0:List Nat}{w0 w:World}{m a x hb:Nat}{rs:List Res}{M:Mt}(H:Q1D S0 w0 m a x hb rs M w)(t:Touch [] w w'):Q1D S0 w0 m a x hb rs M w':=by
 obtain⟨lv,ts,F,H⟩:=H
 exact⟨lv,ts,F,H.grow t⟩
theorem Q1D.drew{S0:List Nat}{w0 w:World}{m a x hb:Nat}{rs:List Res}{M:Mt}(H:Q1D S0 w0 m a x hb rs M w):Q1D S0 w0 m a x hb rs M w.drew:=by
 obtain⟨lv,ts,F,H⟩:=H
 exact⟨lv,ts,F,H.drew⟩
theorem Q1D.held{S0:List Nat}{w0 w:World}{m a x hb:Nat}{rs:List Res}{M:Mt}(H:Q1D S0 w0 m a x hb rs M w):
 x<w.heap.size∧w.cell? ⟨x,1,none⟩=some (.slice (some ⟨hb,0,none⟩) M.fs.length M.fs.length)∧hb<w.heap.size∧ ∀i,i<M.fs.length→w.cell? ⟨hb,i,none⟩=some (.int .i64 (M.hold.getD i 0)):=by
 obtain⟨lv,ts,F,H⟩:=H
 have h1:=H.at_ 1 rfl
 have h3:=H.at_ 3 rfl
 refine⟨h1.lt,h1.cell 1,h3.lt,fun i hi=> ?_⟩
 rw[h3.cell]
 have:i<M.hold.length:=by rw[F.hlen];exact hi
 simp[Q3S,List.getD,this]
theorem Q1D.box{S0:List Nat}{w0 w:World}{m a x hb:Nat}{rs:List Res}{M:Mt}(H:Q1D S0 w0 m a x hb rs M w){b:Nat}(hb':w.heap.size=b)(cs:Array Value)(T:TypeId):Q1D S0 w0 m a x hb (.blk b cs::rs) M (w.alloc (.cells cs T)):=by
 obtain⟨lv,ts,F,H⟩:=H
 refine⟨lv,ts,F,?_⟩
 have H1:=(H.new hb' cs T)
 refine H1.perm ?_
 refine List.Perm.trans ?_ (List.Perm.append_left [_,_,_,_] (List.perm_middle (l₁:=Q2O m ts) (l₂:=rs) (a:= .blk b cs)).symm)
 exact(Q2c _ _ _ _ [.blk b cs] (Q2O m ts++rs))
def Mt.start(k:Nat)(mode:Int)(Z:List Int):Mt:=⟨k,mode,Z,List.replicate k Fr.zero,List.replicate k 0⟩
def Q1P(h:Int)(f:Fr):List Value:=[.int .i64 h, .int .i64 f.op, .int .i64 f.line, .int .u32 f.a, .int .u32 f.b, .int .i64 f.st, .bool f.wk.on, .int .i64 f.wk.cell, .int .i64 f.wk.i, .bool f.wk.hit, .int .i64 f.ret]
def Q6x(f:Fr):List Value:=[.int .i64 f.op, .int .i64 f.line, .int .u32 f.a, .int .u32 f.b, .int .i64 f.st, .bool f.wk.on, .int .i64 f.wk.cell, .int .i64 f.wk.i, .bool f.wk.hit, .int .i64 f.ret]
def Q1t:List Int→List Fr→List Value
 |h::hs,f::fs=>Q1P h f++Q1t hs fs
 |_,_=>[]
def setMany:List Value→List Value→Nat→List Value
 |[],cs,_=>cs
 |v::r,cs,o=>setMany r (cs.set o v) (o+1)
theorem Q7F: ∀(vs a b:List Value) (o:Nat),setMany vs (a++b) (a.length+o)=a++setMany vs b o
 |[],a,b,o=>rfl
 |v::r,a,b,o=>by
  show setMany r ((a++b).set (a.length+o) v) (a.length+o+1)=a++setMany r (b.set o v) (o+1)
  rw[List.set_append_right _ _ (by omega),show a.length+o-a.length=o by omega,Nat.add_assoc]
  exact Q7F r a (b.set o v) (o+1)
theorem Has.setMany{S0:List Nat}{w0:World}{b:Nat}{rs:List Res}: ∀(vs:List Value) {w:World} {cs:List Value} (o:Nat),Has S0 w0 w (.blk b cs.toArray::rs)→Has S0 w0 (w.setCells b o vs) (.blk b (setMany vs cs o).toArray::rs)
 |[],w,cs,o,h=>h
 |v::r,w,cs,o,h=>by
  rw[World.setCells]
  have h1:=h.set o v
  rw[List.setIfInBounds_toArray]at h1
  exact Has.setMany r (o+1) h1
theorem X6W: ∀(hs:List Int) (fs:List Fr),hs.length=fs.length→(Q1t hs fs).length=fs.length*11
 |[],[],_=>rfl
 |h::hs,f::fs,e=>by
  show(Q1P h f++Q1t hs fs).length=(fs.length+1)*11
  rw[List.length_append,X6W hs fs (by simpa using e)]
  simp[Q1P]
  omega
 |[],f::fs,e=>by simp at e
 |h::hs,[],e=>by simp at e
theorem X6X: ∀(hs:List Int) (fs:List Fr) (i j:Nat),hs.length=fs.length→i<fs.length→j<11→(Q1t hs fs)[i*11+j]? =(Q1P (hs.getD i 0) (fs.getD i Fr.zero))[j]?
 |h::hs,f::fs,0,j,e,hi,hj=>by
  show(Q1P h f++Q1t hs fs)[0*11+j]? =(Q1P h f)[j]?
  rw[Nat.zero_mul,Nat.zero_add,List.getElem?_append_left (by simpa[Q1P]using hj)]
 |h::hs,f::fs,i+1,j,e,hi,hj=>by
  show(Q1P h f++Q1t hs fs)[(i+1)*11+j]? =_
  rw[List.getElem?_append_right (by simp[Q1P];omega),show(i+1)*11+j-(Q1P h f).length=i*11+j by simp[Q1P];omega]
  exact X6X hs fs i j (by simpa using e) (by simpa using hi) hj
 |[],[],i,j,e,hi,hj=>by simp at hi
 |[],f::fs,i,j,e,hi,hj=>by simp at e
 |h::hs,[],i,j,e,hi,hj=>by simp at e
theorem X0l: ∀(hs:List Int) (fs:List Fr) (i:Nat) (v:Int),hs.length=fs.length→i<fs.length→(Q1t hs fs).set (i*11) (.int .i64 v)=Q1t (hs.set i v) fs
 |h::hs,f::fs,0,v,e,hi=>rfl
 |h::hs,f::fs,i+1,v,e,hi=>by
  show(Q1P h f++Q1t hs fs).set ((i+1)*11) (.int .i64 v)=Q1P h f++Q1t (hs.set i v) fs
  rw[List.set_append_right _ _ (by simp[Q1P];omega),show(i+1)*11-(Q1P h f).length=i*11 by simp[Q1P];omega,X0l hs fs i v (by simpa using e) (by simpa using hi)]
 |[],[],i,v,e,hi=>by simp at hi
 |[],f::fs,i,v,e,hi=>by simp at e
 |h::hs,[],i,v,e,hi=>by simp at e
theorem Q7T: ∀(hs:List Int) (fs:List Fr) (i:Nat) (f:Fr),hs.length=fs.length→i<fs.length→setMany (Q6x f) (Q1t hs fs) (i*11+1)=Q1t hs (fs.set i f)
 |h::hs,g::fs,0,f,e,hi=>rfl
 |h::hs,g::fs,i+1,f,e,hi=>by
  show setMany (Q6x f) (Q1P h g++Q1t hs fs) ((i+1)*11+1)=Q1P h g++Q1t hs (fs.set i f)
  rw[show(i+1)*11+1=(Q1P h g).length+(i*11+1)by simp[Q1P];omega,Q7F,Q7T hs fs i f (by simpa using e) (by simpa using hi)]
 |[],[],i,f,e,hi=>by simp at hi
 |[],g::fs,i,f,e,hi=>by simp at e
 |h::hs,[],i,f,e,hi=>by simp at e
theorem Q2D{w:World}{b:Nat}{hs:List Int}{fs:List Fr}(h:Blk w b (Q1t hs fs).toArray)(e:hs.length=fs.length){i:Nat}(hi:i<fs.length):
 b<w.heap.size∧w.cell? ⟨b,i*11,none⟩=some (.int .i64 (hs.getD i 0))∧w.cell? ⟨b,i*11+1,none⟩=some (.int .i64 (fs.getD i Fr.zero).op)∧w.rangeAt b (i*11+1) (Q6x (fs.getD i Fr.zero))∧w.there b (i*11+1) 10∧ ∀j,w.frozen? ⟨b,j,none⟩=false:=by
 obtain⟨h0,h1,h2⟩:=h.own
 have hg: ∀j,j<11→w.cell? ⟨b,i*11+j,none⟩=(Q1P (hs.getD i 0) (fs.getD i Fr.zero))[j]? :=fun j hj=>by
  rw[h1,←X6X hs fs i j e hi hj]
  simp
 refine⟨h0,hg 0 (by decide),hg 1 (by decide),fun j v hv=> ?_,fun j hj=>⟨?_,h2 _⟩,h2⟩
 ·have hj:j<10:=(List.getElem?_eq_some_iff.1 hv).1
  rw[Nat.add_assoc,Nat.add_comm 1 j,hg (j+1) (by omega)]
  exact hv
 ·rw[Nat.add_assoc,Nat.add_comm 1 j,hg (j+1) (by omega),List.getElem?_eq_getElem (by simp[Q1P];omega)]
  rfl
structure Ev where
 ran:Bool
 acc:Acc
 notes:List Nt
def Ev.none:Ev:=⟨false,Acc.zero,[]⟩
def Ev.cells(e:Ev)(nv:Value):Array Value:= #[.bool e.ran, .int .i64 e.acc.kind, .int .i64 e.acc.cell, .int .u32 e.acc.x, .int .u32 e.acc.y, .int .u32 e.acc.old,nv]
def Mt.Q4B(g:Rn→Rn)(M:Mt)(i:Nat):Mt×Ev:=
 if(Q0K g (M.run i (M.fs.getD i Fr.zero))).over=true then
  (M.put i Fr.zero (Q0c (Q0K g (M.run i (M.fs.getD i Fr.zero))).f.op (Q0K g (M.run i (M.fs.getD i Fr.zero))).f.ret (M.hold.getD i 0)) (Q0K g (M.run i (M.fs.getD i Fr.zero))).L,
   ⟨true,(Q0K g (M.run i (M.fs.getD i Fr.zero))).acc,(Q0K g (M.run i (M.fs.getD i Fr.zero))).notes++[⟨i,11,(Q0K g (M.run i (M.fs.getD i Fr.zero))).f.op,(Q0K g (M.run i (M.fs.getD i Fr.zero))).f.ret⟩]⟩)
 else(M.put i (Q0K g (M.run i (M.fs.getD i Fr.zero))).f (M.hold.getD i 0) (Q0K g (M.run i (M.fs.getD i Fr.zero))).L,⟨true,(Q0K g (M.run i (M.fs.getD i Fr.zero))).acc,(Q0K g (M.run i (M.fs.getD i Fr.zero))).notes⟩)
def Mt.Q5V(g:Rn→Rn)(M:Mt)(i:Nat)(op:Int):Mt×Ev:=
 if Q6T op (M.hold.getD i 0)=true then
  (((M.put i (Q4h op) (Q0w op (M.hold.getD i 0)) M.L).Q4B g i).1,⟨true,((M.put i (Q4h op) (Q0w op (M.hold.getD i 0)) M.L).Q4B g i).2.acc,⟨i,1,op,0⟩::((M.put i (Q4h op) (Q0w op (M.hold.getD i 0)) M.L).Q4B g i).2.notes⟩)
 else(M,⟨true,Acc.zero,[⟨i,1,op,0⟩,⟨i,11,op,3⟩]⟩)
def Mt.Q3a(M:Mt)(i:Nat):Bool:=(M.fs.getD i Fr.zero).op !=0 &&(!(M.fs.getD i Fr.zero).wk.on &&Q2R M.L M.n M.mode i (M.fs.getD i Fr.zero).st)
def Mt.Q3R(g:Rn→Rn)(M:Mt)(t op:Int):Mt×Ev:=
 if 0≤t∧t<(M.fs.length:Int)then
  if(M.fs.getD t.toNat Fr.zero).op=0 then(if 1≤op∧op≤8 then M.Q5V g t.toNat op else(M,Ev.none))
  else if M.Q3a t.toNat=true then(M,Ev.none)else M.Q4B g t.toNat
 else(M,Ev.none)
structure X3d(M:Mt):Prop where
 hlen:M.hold.length=M.fs.length
 num:M.n=(M.fs.length:Int)
 few:M.fs.length≤64
 some_:1≤M.fs.length
 ok: ∀f,f∈M.fs→Y5N f
 hs: ∀h,h∈M.hold→h=0∨h=1∨h=2
theorem X3d.n64{M:Mt}(F:X3d M):I64 M.n:=by
 have h1:=F.num
 have h2:=F.few
 unfold I64
 omega
theorem X3d.Y2w{M:Mt}(F:X3d M)(i:Nat):Y5N (M.fs.getD i Fr.zero):=by
 rcases Nat.lt_or_ge i M.fs.length with h|h
 ·have e:M.fs.getD i Fr.zero=M.fs[i]:=by simp[List.getD,h]
  rw[e]
  exact F.ok _ (List.getElem_mem h)
 ·have e:M.fs.getD i Fr.zero=Fr.zero:=by simp[List.getD,h]
  rw[e]
  exact⟨by simp[Fr.zero],by simp[Fr.zero]⟩
theorem X3d.put{M:Mt}(F:X3d M)(i:Nat)(f:Fr)(h:Int)(L:List Int)(hf:Y5N f)(hh:h=0∨h=1∨h=2):X3d (M.put i f h L):=by
 refine⟨by simp[Mt.put,F.hlen],by simp[Mt.put,F.num],by simp[Mt.put];exact F.few,by simp[Mt.put];exact F.some_,fun x hx=> ?_,fun x hx=> ?_⟩
 ·rcases List.mem_or_eq_of_mem_set hx with h1|rfl
  ·exact F.ok x h1
  ·exact hf
 ·rcases List.mem_or_eq_of_mem_set hx with h1|rfl
  ·exact F.hs x h1
  ·exact hh
theorem X3d.held{M:Mt}(F:X3d M)(i:Nat):M.hold.getD i 0=0∨M.hold.getD i 0=1∨M.hold.getD i 0=2:=by
 rcases Nat.lt_or_ge i M.hold.length with h|h
 ·have e:M.hold.getD i 0=M.hold[i]:=by simp[List.getD,h]
  rw[e]
  exact F.hs _ (List.getElem_mem h)
 ·have e:M.hold.getD i 0=0:=by simp[List.getD,h]
  exact Or.inl e
structure Wl where
 kind:Int
 fid:FuncId
 m:Nat
 a:Nat
 x:Nat
 tb:Nat
def Q2H(p:Wl)(mode n:Int)(k:Nat):Array Value:= #[.int .i64 p.kind, .int .i64 mode, .pointer (some ⟨p.m,0,none⟩), .int .i64 n, .func (.func p.fid) #[] #[], .slice (some ⟨p.tb,0,none⟩) k k]
def Q2N(S0:List Nat)(w0:World)(p:Wl)(rs:List Res)(M:Mt)(w:World):Prop:=
 X3d M∧Has S0 w0 w (.mem p.m p.a M.L:: .blk p.x (Q2H p M.mode M.n M.fs.length):: .blk p.tb (Q1t M.hold M.fs).toArray::rs)
theorem Q2N.grow{S0:List Nat}{w0 w w':World}{p:Wl}{rs:List Res}{M:Mt}(H:Q2N S0 w0 p rs M w)(t:Touch [] w w'):Q2N S0 w0 p rs M w':=⟨H.1,H.2.grow t⟩
theorem Q2N.drew{S0:List Nat}{w0 w:World}{p:Wl}{rs:List Res}{M:Mt}(H:Q2N S0 w0 p rs M w):Q2N S0 w0 p rs M w.drew:=⟨H.1,H.2.drew⟩
theorem Q2N.touch{S0:List Nat}{w0 w:World}{p:Wl}{rs:List Res}{M:Mt}(H:Q2N S0 w0 p rs M w):Touch S0 w0 w:=H.2.touch
theorem Q2N.words{S0:List Nat}{w0 w:World}{p:Wl}{rs:List Res}{M:Mt}(H:Q2N S0 w0 p rs M w):Words M.L:=H.2.mem.words
theorem Q2N.box{S0:List Nat}{w0 w:World}{p:Wl}{rs:List Res}{M:Mt}(H:Q2N S0 w0 p rs M w){c0:Array Value}{t0:TypeId}:Q2N S0 w0 p (.blk w.heap.size c0::rs) M (w.alloc (.cells c0 t0)):=⟨H.1,H.2.Y5L⟩
theorem Q2N.Q0N{S0:List Nat}{w0 w:World}{p:Wl}{y:Res}{rs:List Res}{M:Mt}(H:Q2N S0 w0 p (y::rs) M w):Q2N S0 w0 p rs M w:=⟨H.1,H.2.Y4r⟩
theorem Q2N.first{S0:List Nat}{w0 w:World}{p:Wl}{b:Nat}{cs:Array Value}{rs:List Res}{M:Mt}(H:Q2N S0 w0 p (.blk b cs::rs) M w):Blk w b cs:=H.2.at_ 3 rfl
theorem Q2N.xs{S0:List Nat}{w0 w:World}{p:Wl}{rs:List Res}{M:Mt}(H:Q2N S0 w0 p rs M w):Blk w p.x (Q2H p M.mode M.n M.fs.length):=H.2.at_ 1 rfl
theorem Q2N.ts{S0:List Nat}{w0 w:World}{p:Wl}{rs:List Res}{M:Mt}(H:Q2N S0 w0 p rs M w):Blk w p.tb (Q1t M.hold M.fs).toArray:=H.2.at_ 2 rfl
theorem Q2N.perm{S0:List Nat}{w0 w:World}{p:Wl}{rs rs':List Res}{M:Mt}(H:Q2N S0 w0 p rs M w)(h:rs.Perm rs'):Q2N S0 w0 p rs' M w:=⟨H.1,H.2.perm (((h.cons _).cons _).cons _)⟩
theorem Q2n{fn:Func}{t:Tmp}{ty:TypeId}(h:fn.results= #[.cell t ty])(tmps:Array Value)(P:Program)(w:World)(b:Nat)(cs:List Value)(d:TypeDesc)(ht:tmps.getD t undef= .pointer (some ⟨b,0,none⟩))(hc:w.rangeAt b 0 cs)
 (hu:P.underlying ty=some d) (hd:d.isRow=true) (hi:(P.info? ty).map (·.size)=some cs.length):(results fn tmps).run P w= .ok (.agg cs.toArray) w:=by
 have ht':tmps[t]?.getD undef= .pointer (some ⟨b,0,none⟩):=by simpa using ht
 simp[results,h,ht',asAddr,run_loadVar_mid w b 0 ty cs d hc hu hd hi]
theorem Q4c{P:Program}{ops:Array Oper}{rest:List Oper}{o:Oper}{a:Act}{w:World}{Q:Exit→Act→World→Prop}(hg:o.guard=none)(v:Value)(hrun:(execOp a.eval o).run P w= .ok (.value v) w)
 (h:wpList P ops Q rest (a.put o.dst v) w):wpList P ops Q (o::rest) a w:=
 wpList_plain hg fun K hK=>by
  unfold Oper.wp
  rw[hrun,Oper.upon_value]
  exact hK _ _ h
theorem Touch.Q5p{S:List Nat}{w:World}{b:Nat}(hb:w.heap.size≤b): ∀(vs:List Value) (o:Nat) {w':World},Touch S w w'→Touch S w (w'.setCells b o vs)
 |[],o,w',t=>t
 |v::r,o,w',t=>by
  rw[World.setCells]
  exact Touch.Q5p hb r (o+1) (t.Q7E (by simpa using hb) v)
theorem Q2m{w:World}{b n:Nat}{cs:Array Value}(h:Blk w b cs)(hn:n≤cs.size):w.there b 0 n:=fun j hj=>by
 obtain⟨h0,h1,h2⟩:=h.own
 rw[Nat.zero_add]
 exact⟨by rw[h1,Array.getElem?_eq_getElem (by omega)];rfl,h2 j⟩
theorem Q4N{w:World}{p:Wl}{mode n:Int}{k:Nat}(hx:Blk w p.x (Q2H p mode n k))(i:Nat)(hi:i<k):
 Calls Tryz.prog 31 #[.pointer (some ⟨p.x,0,none⟩), .int .i64 i] w fun e w'=>e= .returned (.pointer (some ⟨p.tb,i*11,none⟩))∧w=w':=by
 obtain⟨kind,fid,m,a,x,tb⟩:=p
 obtain⟨x0,x1,x2⟩:=hx.own
 simp only[Q2H]at*
 have h1: ¬((i:Int)<0):=by omega
 have h2: ¬((k:Int)≤(i:Int)):=by omega
 have h3:((i:Int)<(k:Int)):=by omega
 have h4:(0≤(i:Int)):=by omega
 go_enter Tryz.func31,Tryz.ntmps31
 go_wp2
 go_ret
 exact⟨rfl,rfl⟩
theorem X5W{w:World}{p:Wl}{mode n:Int}{k:Nat}(hx:Blk w p.x (Q2H p mode n k))(t:Int)(ht: ¬(0≤t∧t<(k:Int))):
 Calls Tryz.prog 31 #[.pointer (some ⟨p.x,0,none⟩), .int .i64 t] w fun e w'=>e= .returned (.pointer none)∧w=w':=by
 obtain⟨kind,fid,m,a,x,tb⟩:=p
 obtain⟨x0,x1,x2⟩:=hx.own
 simp only[Q2H]at*
 by_cases h0:t<0
 ·go_enter Tryz.func31,Tryz.ntmps31
  go_wp2
  go_ret
  exact⟨rfl,rfl⟩
 ·have h2:((k:Int)≤t):=by omega
  go_enter Tryz.func31,Tryz.ntmps31
  go_wp2
  go_ret
  exact⟨rfl,rfl⟩
set_option maxRecDepth 100000 in
theorem X5X{S0:List Nat}{w0 w:World}{p:Wl}{rs:List Res}{M:Mt}(H:Q2N S0 w0 p rs M w)(i:Nat)(hi:i<M.fs.length):
 Calls Tryz.prog 39 #[.pointer (some ⟨p.x,0,none⟩), .int .i64 i] w fun e w'=>e= .returned (.agg (Q0V p.m (M.run i (M.fs.getD i Fr.zero)) (.slice none 0 0)))∧Touch [] w w':=by
 obtain⟨F,H⟩:=H
 obtain⟨kind,fid,m,a,x,tb⟩:=p
 obtain⟨x0,x1,x2⟩:=(H.Y5L (c0:= #[.pointer none, .int .i64 0, .int .i64 0, .int .i64 0, .int .i64 0, .int .i64 0, .int .u32 0, .int .u32 0, .int .i64 0, .bool false, .int .i64 0, .int .i64 0, .bool false, .int .i64 0, .int .i64 0, .int .i64 0, .int .u32 0, .int .u32 0, .int .u32 0, .slice none 0 0]) (t0:=96)).drew.Q7A.own
 have hb:=(H.Y5L (c0:= #[.pointer none, .int .i64 0, .int .i64 0, .int .i64 0, .int .i64 0, .int .i64 0, .int .u32 0, .int .u32 0, .int .i64 0, .bool false, .int .i64 0, .int .i64 0, .bool false, .int .i64 0, .int .i64 0, .int .i64 0, .int .u32 0, .int .u32 0, .int .u32 0, .slice none 0 0]) (t0:=96)).drew.at_ 3 rfl
 obtain⟨t0,t1,t2,t3,t4,t5⟩:=Q2D ((H.Y5L (c0:= #[.pointer none, .int .i64 0, .int .i64 0, .int .i64 0, .int .i64 0, .int .i64 0, .int .u32 0, .int .u32 0, .int .i64 0, .bool false, .int .i64 0, .int .i64 0, .bool false, .int .i64 0, .int .i64 0, .int .i64 0, .int .u32 0, .int .u32 0, .int .u32 0, .slice none 0 0]) (t0:=96)).drew.at_ 2 rfl) F.hlen hi
 simp only[Q2H,Mt.run,Q0V,Acc.zero]at*
 generalize M.fs.getD i Fr.zero=f at t2 t3⊢
 have hth:=Q2m (n:=20) hb (by decide)
 have T0:Touch [] w (w.alloc (.cells #[.pointer none, .int .i64 0, .int .i64 0, .int .i64 0, .int .i64 0, .int .i64 0, .int .u32 0, .int .u32 0, .int .i64 0, .bool false, .int .i64 0, .int .i64 0, .bool false, .int .i64 0, .int .i64 0, .int .i64 0, .int .u32 0, .int .u32 0, .int .u32 0, .slice none 0 0] 96)):=(Touch.refl _ _).alloc _
 have HT3:=Lib.hid t3
 have HTH:=Lib.hid hth
 have HB:=Lib.hid hb
 have h3:((i:Int)<(M.fs.length:Int)):=by omega
 have h4:(0≤(i:Int)):=by omega
 clear H t3 hth hb t1 t2 t4 t5
 go_enter Tryz.func39,Tryz.ntmps39
 go_wp2_with fail
 refine Q1a (by kernel_rfl) (by kernel_rfl) ?_
 simp only[Q0G,probes,List.nil_append]
 go_wp2_with (first
  |(refine wpList_load_mid rfl 76 (.tmp 24) rfl tb (i*11+1) rfl _ _ HT3.out Tryz.underlying76 rfl (by kernel_rfl) ?_;simp only[Q6x])
  |(refine wpList_store_mid rfl 96 (.tmp 4) (.tmp 26) rfl w.heap.size 0 #[.pointer (some ⟨m,0,none⟩), .int .i64 M.n, .int .i64 M.mode, .int .i64 i, .int .i64 f.op, .int .i64 f.line, .int .u32 f.a, .int .u32 f.b, .int .i64 f.st, .bool f.wk.on, .int .i64 f.wk.cell, .int .i64 f.wk.i, .bool f.wk.hit, .int .i64 f.ret, .int .i64 0, .int .i64 0, .int .u32 0, .int .u32 0, .int .u32 0, .slice none 0 0] rfl rfl HTH.out (by kernel_rfl) (by simp[Value.oneCell']) ?_))
 rw[Q0g]
 rename_i hK
 refine hK _ _ ?_
 clear hK
 go_wp2_with fail
 refine bodyPost_ret (Q2n rfl _ _ _ w.heap.size _ _ rfl (World.rangeAt_setCells_same _ _ _ _ HTH.out) Tryz.underlying96 rfl (by kernel_rfl)) rfl ⟨rfl,?_⟩
 exact Touch.Q5p (Nat.le_refl _) _ _ ((Touch.refl [] w).alloc _).drew
def Q4H(op:Int):Int:=if op=1∨op=3∨op=5∨op=6 then 0 else if op=2∨op=7 then 1 else if op=4∨op=8 then 2 else-1
theorem Y6m(op:Int)(w:World):Calls Tryz.prog 77 #[.int .i64 op] w fun e w'=>e= .returned (.int .i64 (Q4H op))∧w=w':=by
 by_cases k1:op=1
 ·subst k1
  rw[show Q4H 1=0 from rfl]
  go_enter Tryz.func77,Tryz.ntmps77
  go_wp2
  go_ret
  exact⟨rfl,rfl⟩
 by_cases k2:op=2
 ·subst k2
  rw[show Q4H 2=1 from rfl]
  go_enter Tryz.func77,Tryz.ntmps77
  go_wp2
  go_ret
  exact⟨rfl,rfl⟩
 by_cases k3:op=3
 ·subst k3
  rw[show Q4H 3=0 from rfl]
  go_enter Tryz.func77,Tryz.ntmps77
  go_wp2
  go_ret
  exact⟨rfl,rfl⟩
 by_cases k4:op=4
 ·subst k4
  rw[show Q4H 4=2 from rfl]
  go_enter Tryz.func77,Tryz.ntmps77
  go_wp2
  go_ret
  exact⟨rfl,rfl⟩
 by_cases k5:op=5
 ·subst k5
  rw[show Q4H 5=0 from rfl]
  go_enter Tryz.func77,Tryz.ntmps77
  go_wp2
  go_ret
  exact⟨rfl,rfl⟩
 by_cases k6:op=6
 ·subst k6
  rw[show Q4H 6=0 from rfl]
  go_enter Tryz.func77,Tryz.ntmps77
  go_wp2
  go_ret
  exact⟨rfl,rfl⟩
 by_cases k7:op=7
 ·subst k7
  rw[show Q4H 7=1 from rfl]
  go_enter Tryz.func77,Tryz.ntmps77
  go_wp2
  go_ret
  exact⟨rfl,rfl⟩
 by_cases k8:op=8
 ·subst k8
  rw[show Q4H 8=2 from rfl]
  go_enter Tryz.func77,Tryz.ntmps77
  go_wp2
  go_ret
  exact⟨rfl,rfl⟩
 have q1:(op==1)=false:=by simpa using k1
 have q2:(op==2)=false:=by simpa using k2
 have q3:(op==3)=false:=by simpa using k3
 have q4:(op==4)=false:=by simpa using k4
 have q5:(op==5)=false:=by simpa using k5
 have q6:(op==6)=false:=by simpa using k6
 have q7:(op==7)=false:=by simpa using k7
 have q8:(op==8)=false:=by simpa using k8
 rw[show Q4H op= -1 from by unfold Q4H;rw[if_neg (by omega),if_neg (by omega),if_neg (by omega)]]
 clear k1 k2 k3 k4 k5 k6 k7 k8
 go_enter Tryz.func77,Tryz.ntmps77
 go_wp2
 go_ret
 exact⟨rfl,rfl⟩
theorem X8D{op h:Int}(hh:h=0∨h=1∨h=2):Q6T op h=(decide (0≤Q4H op) &&(Q4H op==h)):=by
 have e: ∀a b:Bool,(a=true↔b=true)→a=b:=fun a b h=>by cases a<;>cases b<;>simp_all
 apply e
 unfold Q6T Q4H
 rcases hh with rfl|rfl|rfl
 all_goals
  simp
  repeat' split
  all_goals(simp;try omega)
theorem smay(op h:Int)(hh:h=0∨h=1∨h=2)(w:World):Calls Tryz.prog 51 #[.int .i64 op, .int .i64 h] w fun e w'=>e= .returned (.bool (Q6T op h))∧w=w':=by
 rw[X8D hh]
 have hn:=fun w=>Y6m op w
 generalize Q4H op=v at hn⊢
 have HN:=Lib.hid hn
 clear hn hh
 by_cases h0:0≤v
 ·rw[show decide (0≤v)=true from decide_eq_true h0]
  go_enter Tryz.func51,Tryz.ntmps51
  go_wp2_with fail
  refine(HN.out _).mono ?_
  rintro e w1⟨rfl,rfl⟩
  go_wp2_with fail
  refine(HN.out _).mono ?_
  rintro e w1⟨rfl,rfl⟩
  go_wp2_with fail
  go_ret
  exact⟨by simp,rfl⟩
 ·have h1:v<0:=by omega
  rw[show decide (0≤v)=false from decide_eq_false h0]
  go_enter Tryz.func51,Tryz.ntmps51
  go_wp2_with fail
  refine(HN.out _).mono ?_
  rintro e w1⟨rfl,rfl⟩
  go_wp2_with fail
  go_ret
  exact⟨by simp,rfl⟩
theorem sat(op h:Int)(w:World):Calls Tryz.prog 52 #[.int .i64 op, .int .i64 h] w fun e w'=>e= .returned (.int .i64 (Q0w op h))∧w=w':=by
 by_cases k2:op=2
 ·subst k2
  rw[show Q0w 2 h=0 from rfl]
  go_enter Tryz.func52,Tryz.ntmps52
  go_wp2
  go_ret
  exact⟨rfl,rfl⟩
 by_cases k4:op=4
 ·subst k4
  rw[show Q0w 4 h=0 from rfl]
  go_enter Tryz.func52,Tryz.ntmps52
  go_wp2
  go_ret
  exact⟨rfl,rfl⟩
 by_cases k8:op=8
 ·subst k8
  rw[show Q0w 8 h=1 from rfl]
  go_enter Tryz.func52,Tryz.ntmps52
  go_wp2
  go_ret
  exact⟨rfl,rfl⟩
 have q2:(op==2)=false:=by simpa using k2
 have q4:(op==4)=false:=by simpa using k4
 have q8:(op==8)=false:=by simpa using k8
 rw[show Q0w op h=h from by unfold Q0w;rw[if_neg (by omega),if_neg (by omega)]]
 clear k2 k4 k8
 go_enter Tryz.func52,Tryz.ntmps52
 go_wp2
 go_ret
 exact⟨rfl,rfl⟩
theorem Y3p(op ret h:Int)(w:World):Calls Tryz.prog 55 #[.int .i64 op, .int .i64 ret, .int .i64 h] w fun e w'=>e= .returned (.int .i64 (Q0c op ret h))∧w=w':=by
 by_cases hr:ret=2
 ·subst hr
  by_cases k1:op=1
  ·subst k1
   rw[show Q0c 1 2 h=1 from rfl]
   go_enter Tryz.func55,Tryz.ntmps55
   go_wp2
   go_ret
   exact⟨rfl,rfl⟩
  by_cases k5:op=5
  ·subst k5
   rw[show Q0c 5 2 h=1 from rfl]
   go_enter Tryz.func55,Tryz.ntmps55
   go_wp2
   go_ret
   exact⟨rfl,rfl⟩
  by_cases k3:op=3
  ·subst k3
   rw[show Q0c 3 2 h=2 from rfl]
   go_enter Tryz.func55,Tryz.ntmps55
   go_wp2
   go_ret
   exact⟨rfl,rfl⟩
  by_cases k6:op=6
  ·subst k6
   rw[show Q0c 6 2 h=2 from rfl]
   go_enter Tryz.func55,Tryz.ntmps55
   go_wp2
   go_ret
   exact⟨rfl,rfl⟩
  by_cases k7:op=7
  ·subst k7
   rw[show Q0c 7 2 h=2 from rfl]
   go_enter Tryz.func55,Tryz.ntmps55
   go_wp2
   go_ret
   exact⟨rfl,rfl⟩
  have q1:(op==1)=false:=by simpa using k1
  have q5:(op==5)=false:=by simpa using k5
  have q3:(op==3)=false:=by simpa using k3
  have q6:(op==6)=false:=by simpa using k6
  have q7:(op==7)=false:=by simpa using k7
  rw[show Q0c op 2 h=h from by unfold Q0c;rw[if_neg (by omega),if_neg (by omega),if_neg (by omega)]]
  clear k1 k5 k3 k6 k7
  go_enter Tryz.func55,Tryz.ntmps55
  go_wp2
  go_ret
  exact⟨rfl,rfl⟩
 ·have q0:(ret !=2)=true:=by simpa using hr
  rw[show Q0c op ret h=h from by unfold Q0c;rw[if_pos hr]]
  clear hr
  go_enter Tryz.func55,Tryz.ntmps55
  go_wp2
  go_ret
  exact⟨rfl,rfl⟩
theorem Q6X{op h:Int}(hh:h=0∨h=1∨h=2):Q0w op h=0∨Q0w op h=1∨Q0w op h=2:=by
 unfold Q0w
 repeat' split
 all_goals omega
theorem Q8I{op ret h:Int}(hh:h=0∨h=1∨h=2):Q0c op ret h=0∨Q0c op ret h=1∨Q0c op ret h=2:=by
 unfold Q0c
 repeat' split
 all_goals omega
def Y7x(b:Bool)(w:World)(e:Ending)(w':World):Prop:= ∃s:ByteArray,e= .returned (.string s)∧s.toList.isEmpty=b∧Touch [] w w'
def opWords:Array Value:= #[.string {data:= #[]}, .string {data:= #[114,108,111,99,107]}, .string {data:= #[114,117,110,108,111,99,107]}, .string {data:= #[108,111,99,107]}, .string {data:= #[117,110,108,111,99,107]}, .string {data:= #[116,114,121,114,108,111,99,107]}, .string {data:= #[116,114,121,108,111,99,107]}, .string {data:= #[117,112,103,114,97,100,101]}, .string {data:= #[100,111,119,110,103,114,97,100,101]}]
theorem nops(w:World):Calls Tryz.prog 50 #[] w fun e w'=>e= .returned (.slice (some ⟨w.heap.size,0,none⟩) 9 9)∧w'=w.alloc (.cells opWords 9):=by
 go_enter Tryz.func50,Tryz.ntmps50
 go_wp2
 go_ret
 exact⟨rfl,rfl⟩
theorem nat0{w:World}{b:Nat}(h:Blk w b opWords):Calls Tryz.prog 49 #[.slice (some ⟨b,0,none⟩) 9 9, .int .i64 0] w fun e w'=>e= .returned (.string {data:= #[]})∧w=w':=by
 obtain⟨h0,h1,h2⟩:=h.own
 simp only[opWords]at h1
 go_enter Tryz.func49,Tryz.ntmps49
 go_wp2
 go_ret
 exact⟨rfl,rfl⟩
theorem nat1{w:World}{b:Nat}(h:Blk w b opWords):Calls Tryz.prog 49 #[.slice (some ⟨b,0,none⟩) 9 9, .int .i64 1] w fun e w'=>e= .returned (.string {data:= #[114,108,111,99,107]})∧w=w':=by
 obtain⟨h0,h1,h2⟩:=h.own
 simp only[opWords]at h1
 go_enter Tryz.func49,Tryz.ntmps49
 go_wp2
 go_ret
 exact⟨rfl,rfl⟩
theorem nat2{w:World}{b:Nat}(h:Blk w b opWords):Calls Tryz.prog 49 #[.slice (some ⟨b,0,none⟩) 9 9, .int .i64 2] w fun e w'=>e= .returned (.string {data:= #[114,117,110,108,111,99,107]})∧w=w':=by
 obtain⟨h0,h1,h2⟩:=h.own
 simp only[opWords]at h1
 go_enter Tryz.func49,Tryz.ntmps49
 go_wp2
 go_ret
 exact⟨rfl,rfl⟩
theorem nat3{w:World}{b:Nat}(h:Blk w b opWords):Calls Tryz.prog 49 #[.slice (some ⟨b,0,none⟩) 9 9, .int .i64 3] w fun e w'=>e= .returned (.string {data:= #[108,111,99,107]})∧w=w':=by
 obtain⟨h0,h1,h2⟩:=h.own
 simp only[opWords]at h1
 go_enter Tryz.func49,Tryz.ntmps49
 go_wp2
 go_ret
 exact⟨rfl,rfl⟩
theorem nat4{w:World}{b:Nat}(h:Blk w b opWords):Calls Tryz.prog 49 #[.slice (some ⟨b,0,none⟩) 9 9, .int .i64 4] w fun e w'=>e= .returned (.string {data:= #[117,110,108,111,99,107]})∧w=w':=by
 obtain⟨h0,h1,h2⟩:=h.own
 simp only[opWords]at h1
 go_enter Tryz.func49,Tryz.ntmps49
 go_wp2
 go_ret
 exact⟨rfl,rfl⟩
theorem nat5{w:World}{b:Nat}(h:Blk w b opWords):Calls Tryz.prog 49 #[.slice (some ⟨b,0,none⟩) 9 9, .int .i64 5] w fun e w'=>e= .returned (.string {data:= #[116,114,121,114,108,111,99,107]})∧w=w':=by
 obtain⟨h0,h1,h2⟩:=h.own
 simp only[opWords]at h1
 go_enter Tryz.func49,Tryz.ntmps49
 go_wp2
 go_ret
 exact⟨rfl,rfl⟩
theorem nat6{w:World}{b:Nat}(h:Blk w b opWords):Calls Tryz.prog 49 #[.slice (some ⟨b,0,none⟩) 9 9, .int .i64 6] w fun e w'=>e= .returned (.string {data:= #[116,114,121,108,111,99,107]})∧w=w':=by
 obtain⟨h0,h1,h2⟩:=h.own
 simp only[opWords]at h1
 go_enter Tryz.func49,Tryz.ntmps49
 go_wp2
 go_ret
 exact⟨rfl,rfl⟩
theorem nat7{w:World}{b:Nat}(h:Blk w b opWords):Calls Tryz.prog 49 #[.slice (some ⟨b,0,none⟩) 9 9, .int .i64 7] w fun e w'=>e= .returned (.string {data:= #[117,112,103,114,97,100,101]})∧w=w':=by
 obtain⟨h0,h1,h2⟩:=h.own
 simp only[opWords]at h1
 go_enter Tryz.func49,Tryz.ntmps49
 go_wp2
 go_ret
 exact⟨rfl,rfl⟩
theorem nat8{w:World}{b:Nat}(h:Blk w b opWords):Calls Tryz.prog 49 #[.slice (some ⟨b,0,none⟩) 9 9, .int .i64 8] w fun e w'=>e= .returned (.string {data:= #[100,111,119,110,103,114,97,100,101]})∧w=w':=by
 obtain⟨h0,h1,h2⟩:=h.own
 simp only[opWords]at h1
 go_enter Tryz.func49,Tryz.ntmps49
 go_wp2
 go_ret
 exact⟨rfl,rfl⟩
theorem natx{w:World}{b:Nat}{n:Int}(hn:n<0∨9≤n):Calls Tryz.prog 49 #[.slice (some ⟨b,0,none⟩) 9 9, .int .i64 n] w fun e w'=>e= .returned (.string {data:= #[]})∧w=w':=by
 by_cases h0:n<0
 ·clear hn
  go_enter Tryz.func49,Tryz.ntmps49
  go_wp2
  go_ret
  exact⟨rfl,rfl⟩
 ·have h1:9≤n:=by omega
  clear hn
  go_enter Tryz.func49,Tryz.ntmps49
  go_wp2
  go_ret
  exact⟨rfl,rfl⟩
theorem Y3Y{w:World}{b:Nat}(h:Blk w b opWords)(n:Int):Calls Tryz.prog 49 #[.slice (some ⟨b,0,none⟩) 9 9, .int .i64 n] w fun e w'=>(∃s:ByteArray,e= .returned (.string s)∧s.toList.isEmpty= !decide (1≤n∧n≤8))∧w=w':=by
 by_cases hx:n<0∨9≤n
 ·exact(natx hx).mono fun e w' k=>⟨⟨_,k.1,by rw[show decide (1≤n∧n≤8)=false from decide_eq_false (by omega)];decide+kernel⟩,k.2⟩
 ·have hc:n=0∨n=1∨n=2∨n=3∨n=4∨n=5∨n=6∨n=7∨n=8:=by omega
  rcases hc with rfl|rfl|rfl|rfl|rfl|rfl|rfl|rfl|rfl
  ·exact(nat0 h).mono fun e w' k=>⟨⟨_,k.1,by decide+kernel⟩,k.2⟩
  ·exact(nat1 h).mono fun e w' k=>⟨⟨_,k.1,by decide+kernel⟩,k.2⟩
  ·exact(nat2 h).mono fun e w' k=>⟨⟨_,k.1,by decide+kernel⟩,k.2⟩
  ·exact(nat3 h).mono fun e w' k=>⟨⟨_,k.1,by decide+kernel⟩,k.2⟩
  ·exact(nat4 h).mono fun e w' k=>⟨⟨_,k.1,by decide+kernel⟩,k.2⟩
  ·exact(nat5 h).mono fun e w' k=>⟨⟨_,k.1,by decide+kernel⟩,k.2⟩
  ·exact(nat6 h).mono fun e w' k=>⟨⟨_,k.1,by decide+kernel⟩,k.2⟩
  ·exact(nat7 h).mono fun e w' k=>⟨⟨_,k.1,by decide+kernel⟩,k.2⟩
  ·exact(nat8 h).mono fun e w' k=>⟨⟨_,k.1,by decide+kernel⟩,k.2⟩
theorem Y6V(op:Int)(w:World):Calls Tryz.prog 32 #[.int .i64 op] w (Y7x (!decide (1≤op∧op≤8)) w):=by
 have hat:=fun w b (h:Blk w b opWords)=>Y3Y h op
 generalize (!decide (1≤op∧op≤8))=d at hat⊢
 have HAT:=Lib.hid hat
 clear hat
 go_enter Tryz.func32,Tryz.ntmps32
 go_wp2_with fail
 refine(nops w).mono ?_
 rintro e w1⟨rfl,rfl⟩
 go_wp2_with fail
 refine(HAT.out _ _ (Blk.new _ _ _)).mono ?_
 rintro e w2⟨⟨s,rfl,hs⟩,rfl⟩
 go_wp2_with fail
 go_ret
 exact⟨s,rfl,hs,(Touch.refl [] w).alloc _⟩
theorem Q8m: ∀(vs cs:List Value) (a:List Value),vs.length=cs.length→setMany vs (a++cs) a.length=a++vs
 |[],[],a,_=>rfl
 |v::vs,c::cs,a,e=>by
  show setMany vs ((a++c::cs).set a.length v) (a.length+1)=a++v::vs
  rw[List.set_append_right _ _ (by omega),Nat.sub_self]
  have:=Q8m vs cs (a++[v]) (by simpa using e)
  simp only[List.length_append,List.length_cons,List.length_nil,List.append_assoc,List.cons_append,List.nil_append]at this
  exact this
 |[],c::cs,a,e=>by simp at e
 |v::vs,[],a,e=>by simp at e
theorem X1g{vs cs:List Value}(e:vs.length=cs.length):setMany vs cs 0=vs:=Q8m vs cs [] e
structure Q8Y(fid:FuncId)(g:Rn→Rn):Prop where
 step: ∀{S0:List Nat} {w0 w:World} {m a r:Nat} {rs:List Res} {s:Rn},Q0a S0 w0 m a r rs s w→s.ok→
  Calls Tryz.prog 54 #[.pointer (some ⟨r,0,none⟩), .func (.func fid) #[] #[]] w fun e w'=>e= .returned (.bool (Q0K g s).over)∧Q0a S0 w0 m a r rs (Q0K g s) w'
 fine: ∀{s:Rn},Words s.L→s.ok→(Q0K g s).ok∧(Q0K g s).notes.length≤10
def Q3E:Array Value:= #[.bool false, .int .i64 0, .int .i64 0, .int .u32 0, .int .u32 0, .int .u32 0, .slice none 0 0]
def Y2G:List Value:=[.pointer none, .int .i64 0, .int .i64 0, .int .i64 0, .int .i64 0, .int .i64 0, .int .u32 0, .int .u32 0, .int .i64 0, .bool false, .int .i64 0, .int .i64 0, .bool false, .int .i64 0, .int .i64 0, .int .i64 0, .int .u32 0, .int .u32 0, .int .u32 0, .slice none 0 0]
theorem Y0h(g:Rn→Rn)(M:Mt)(i:Nat){s2:Rn}(h:Q0K g (M.run i (M.fs.getD i Fr.zero))=s2):
 M.Q4B g i=if s2.over=true then(M.put i Fr.zero (Q0c s2.f.op s2.f.ret (M.hold.getD i 0)) s2.L,⟨true,s2.acc,s2.notes++[⟨i,11,s2.f.op,s2.f.ret⟩]⟩)else(M.put i s2.f (M.hold.getD i 0) s2.L,⟨true,s2.acc,s2.notes⟩):=by
 subst h
 rfl
theorem Q2N.runs{S0:List Nat}{w0 w:World}{p:Wl}{rs:List Res}{M:Mt}(H:Q2N S0 w0 p rs M w)(i:Nat){t0:TypeId}:
 Q0a S0 w0 p.m p.a w.heap.size (.blk p.x (Q2H p M.mode M.n M.fs.length):: .blk p.tb (Q1t M.hold M.fs).toArray::rs) (M.run i (M.fs.getD i Fr.zero)) ((w.alloc (.cells #[.pointer none, .int .i64 0, .int .i64 0, .int .i64 0, .int .i64 0, .int .i64 0, .int .u32 0, .int .u32 0, .int .i64 0, .bool false, .int .i64 0, .int .i64 0, .bool false, .int .i64 0, .int .i64 0, .int .i64 0, .int .u32 0, .int .u32 0, .int .u32 0, .slice none 0 0] t0)).setCells w.heap.size 0 (Q0V p.m (M.run i (M.fs.getD i Fr.zero)) (.slice none 0 0)).toList):=by
 have h1:=Has.setMany (Q0V p.m (M.run i (M.fs.getD i Fr.zero)) (.slice none 0 0)).toList 0 (H.2.X1F (c0:=Y2G.toArray) (t0:=t0))
 rw[X1g (by rfl)]at h1
 exact⟨.slice none 0 0,(Has.swap h1).Q8z _ _⟩
def WEv(S0:List Nat)(w0:World)(p:Wl)(rs:List Res)(R:Mt×Ev)(e:Ending)(w':World):Prop:=
 ∃nv,e= .returned (.agg (R.2.cells nv))∧Q2N S0 w0 p (.own 40 4 nv R.2.notes.length (nts R.2.notes)::rs) R.1 w'
theorem Q6L{w:World}{b:Nat}(a vs c:List Value){cs:List Value}(h:Blk w b cs.toArray)(e:cs=a++(vs++c)):w.rangeAt b a.length vs:=fun j v hj=>by
 have hl:j<vs.length:=(List.getElem?_eq_some_iff.1 hj).1
 rw[h.own.2.1,e,List.getElem?_toArray,List.getElem?_append_right (by omega),Nat.add_sub_cancel_left,List.getElem?_append_left hl]
 exact hj
theorem wset5{S0:List Nat}{w0 W:World}{tb eb rb r x:Nat}{hs:List Int}{fs:List Fr}{i:Nat}{f:Fr}{ev rc xc z:Array Value}{mm own:Res}{rs:List Res}(e:hs.length=fs.length)(hi:i<fs.length)
 (H:Has S0 w0 W (.blk tb (setMany (Q6x f) (Q1t hs fs) (i*11+1)).toArray:: .blk eb ev::mm:: .blk r rc::own:: .blk x xc:: .blk rb z::rs)):
 Has S0 w0 W (.blk tb (Q1t hs (fs.set i f)).toArray:: .blk eb ev:: .blk rb z:: .blk r rc::mm:: .blk x xc::own::rs):=by
 rw[Q7T hs fs i f e hi]at H
 exact((((((H.front 4 (by simp)).front 5 (by simp)).front 4 (by simp)).front 5 (by simp)).front 6 (by simp)).front 6 (by simp)).front 6 (by simp)
theorem X7e{α:Type}{l:List α}{i:Nat}{d v:α}(h:i<l.length)(e:l.getD i d=v):l.set i v=l:=by
 subst e
 simp[List.getD,h]
theorem wzero{S0:List Nat}{w0 W:World}{tb i:Nat}{hs:List Int}{fs:List Fr}{rs:List Res}(e:hs.length=fs.length)(hi:i<fs.length)(H:Has S0 w0 W (.blk tb (Q1t hs fs).toArray::rs)):
 Has S0 w0 (W.setCells tb (i*11+1) [.int .i64 0, .int .i64 0, .int .u32 0, .int .u32 0, .int .i64 0, .bool false, .int .i64 0, .int .i64 0, .bool false, .int .i64 0]) (.blk tb (Q1t hs (fs.set i Fr.zero)).toArray::rs):=by
 have h:=Has.setMany (Q6x Fr.zero) (i*11+1) H
 rw[Q7T _ _ _ _ e hi]at h
 exact h
theorem Y5T{S0:List Nat}{w0 W:World}{a b c d e f:Res}{rs:List Res}(H:Has S0 w0 W (f::a::b::c::d::e::rs)):Has S0 w0 W (c::d::a::e::rs):=
 (((H.tail.front 1 (by simp)).tail).front 2 (by simp)).front 2 (by simp)
theorem X6w{S0:List Nat}{w0 W w':World}{tb eb rb r x:Res}{mm:Res}{e size n k:Nat}{v v':Value}{xs ys:List Value}{rs:List Res}{c0:Array Value}{t0:TypeId}
 (H:Has S0 w0 W (tb::eb::rb::r::mm::x:: .own e size v n xs::rs)) (hown:w'.ownsRow 0 e size v' k ys) (hg:(W.alloc (.cells c0 t0)).grownBy w' v.ownBlock) (hat:v'.ownBlock=v.ownBlock∨v'.ownBlock=some (W.alloc (.cells c0 t0)).heap.size):
 Has S0 w0 w' (tb::eb::rb::mm::x:: .own e size v' k ys::rs):=by
 have h1:Has S0 w0 (W.alloc (.cells c0 t0)) (.own e size v n xs:: .blk W.heap.size c0::tb::eb::rb::r::mm::x::rs):=(Has.X1F H (c0:=c0) (t0:=t0)).front 7 (by simp)
 have h2:=Has.grown h1 hown hg hat
 have h3:=(h2.drop1.front 4 (by simp)).tail
 exact((((h3.front 5 (by simp)).front 5 (by simp)).front 5 (by simp)).front 5 (by simp)).front 5 (by simp)
theorem wdone{S0:List Nat}{w0 W:World}{p:Wl}{M:Mt}{eb r i:Nat}{f:Fr}{L':List Int}{ev rc:Array Value}{own rb':Res}{rs:List Res}(F:X3d M)(hi:i<M.fs.length)
 (H:Has S0 w0 W (rb':: .blk p.tb (Q1t (M.hold) (M.fs.set i f)).toArray:: .blk eb ev:: .blk r rc:: .mem p.m p.a L':: .blk p.x (Q2H p M.mode M.n M.fs.length)::own::rs)):
 Has S0 w0 W (.mem p.m p.a L':: .blk p.x (Q2H p M.mode M.n (M.fs.set i f).length):: .blk p.tb (Q1t M.hold (M.fs.set i f)).toArray::own::rs):=by
 rw[List.length_set]
 have h1:=((H.tail.front 1 (by simp)).tail.front 1 (by simp)).tail
 exact(h1.front 2 (by simp)).front 2 (by simp)
set_option maxRecDepth 100000 in
theorem X3f{S0:List Nat}{w0 w:World}{p:Wl}{rs:List Res}{M:Mt}{g:Rn→Rn}(K:Q8Y p.fid g)(H:Q2N S0 w0 p rs M w)(i:Nat)(hi:i<M.fs.length):
 Calls Tryz.prog 34 #[.pointer (some ⟨p.x,0,none⟩), .int .i64 i] w (WEv S0 w0 p rs (M.Q4B g i)):=by
 have hrun:=fun(W:World) (rs:List Res) (HX:Q2N S0 w0 p rs M W)=>X5X HX i hi
 have hruns:=fun(W:World) (rs:List Res) (HX:Q2N S0 w0 p rs M W)=>Q2N.runs HX i (t0:=96)
 have hstep:=fun(S0:List Nat) (w0 w:World) (r:Nat) (rs:List Res) (HX:Q0a S0 w0 p.m p.a r rs (M.run i (M.fs.getD i Fr.zero)) w)=>K.step HX ⟨H.1.n64,(H.1.Y2w i).1,(H.1.Y2w i).2⟩
 have hfine:=K.fine (s:=M.run i (M.fs.getD i Fr.zero)) H.words ⟨H.1.n64,(H.1.Y2w i).1,(H.1.Y2w i).2⟩
 have hE:=Y0h g M i (s2:=Q0K g (M.run i (M.fs.getD i Fr.zero))) rfl
 generalize M.Q4B g i=R at hE⊢
 generalize Q0K g (M.run i (M.fs.getD i Fr.zero))=s2 at hstep hfine hE
 generalize M.fs.getD i Fr.zero=f0 at hstep hrun hruns
 have HRN:=Lib.hid hrun
 have HRS:=Lib.hid hruns
 have HST:=Lib.hid hstep
 have HFI:=Lib.hid hfine
 have HRE:=Lib.hid hE
 have HH:=Lib.hid H
 clear hstep hfine hE H hrun hruns
 go_enter Tryz.func34,Tryz.ntmps34
 go_wp2_with fail
 refine Q1e (Facts:=fun W=>Q2N S0 w0 p (.blk w.heap.size Q3E::rs) M W) ?_ HH.out.box
 intro W1 H1
 generalize w.heap.size=rb at H1⊢
 refine(Q4N H1.xs i hi).mono ?_
 rintro e W2⟨rfl,rfl⟩
 go_wp2_with fail
 refine(HRN.out _ _ H1).mono ?_
 rintro e w3⟨rfl,t3⟩
 have H3:=H1.grow t3
 have hb:=(H3.box (c0:= #[.pointer none, .int .i64 0, .int .i64 0, .int .i64 0, .int .i64 0, .int .i64 0, .int .u32 0, .int .u32 0, .int .i64 0, .bool false, .int .i64 0, .int .i64 0, .bool false, .int .i64 0, .int .i64 0, .int .i64 0, .int .u32 0, .int .u32 0, .int .u32 0, .slice none 0 0]) (t0:=96)).first
 have HTH:=Lib.hid (Q2m (n:=20) hb (by decide))
 have HRUN:=Lib.hid (HRS.out _ _ H3)
 clear H1 t3 hb
 go_wp2_with (refine wpList_store_mid rfl 96 (.tmp 6) (.tmp 16) rfl w3.heap.size 0 (Q0V p.m (M.run i f0) (.slice none 0 0)) rfl rfl HTH.out (by kernel_rfl) (by simp[Q0V,Value.oneCell']) ?_;refine Q3B (Facts:=fun W=>Q0a S0 w0 p.m p.a w3.heap.size (.blk p.x (Q2H p M.mode M.n M.fs.length):: .blk p.tb (Q1t M.hold M.fs).toArray:: .blk rb Q3E::rs) (M.run i f0) W) ?_ HRUN.out;clear HRUN HTH H3;intro W4 H4;obtain⟨nv4,H4⟩:=H4;obtain⟨x0,x1,x2⟩:=(Has.at_ H4 3 rfl).own;simp only[Q2H]at x1;have HH4:=Lib.hid H4;clear H4)
 refine(HST.out _ _ _ _ _ ⟨nv4,HH4.out⟩).mono ?_
 rintro e w5⟨rfl,nv5,H5⟩
 clear x0 x1 x2 HH4 HST
 generalize w3.heap.size=r at H5⊢
 obtain⟨n',mode',task',⟨op',line',fa',fb',st',⟨on',wc',wi',hit'⟩,ret'⟩,⟨ak,ac,ax,ay,ao⟩,notes',L'⟩:=s2
 obtain⟨pn,cn,rfl⟩:=Q2p (Has.Q5B H5 2 rfl)
 simp only[Q0V]at H5
 obtain⟨y0,y1,y2⟩:=(Has.at_ H5 1 rfl).own
 obtain⟨hF,hH⟩:=HH.out
 have HTB:=Lib.hid (Q2D (Has.at_ (Has.X1F H5 (c0:= #[.bool true, .int .i64 ak, .int .i64 ac, .int .u32 ax, .int .u32 ay, .int .u32 ao, .slice pn notes'.length cn]) (t0:=35)) 5 rfl) hF.hlen hi).2.2.2.2.1
 have hset:=wset5 (f:=⟨op',line',fa',fb',st',⟨on',wc',wi',hit'⟩,ret'⟩) hF.hlen hi (Has.setMany [.int .i64 op', .int .i64 line', .int .u32 fa', .int .u32 fb', .int .i64 st', .bool on', .int .i64 wc', .int .i64 wi', .bool hit', .int .i64 ret'] (i*11+1) (Has.front (Has.X1F H5 (c0:= #[.bool true, .int .i64 ak, .int .i64 ac, .int .u32 ax, .int .u32 ay, .int .u32 ao, .slice pn notes'.length cn]) (t0:=35)) 5 (by simp)))
 have HSET:=Lib.hid hset
 clear hset
 have HLD:=Lib.hid (Q6L [.pointer (some ⟨p.m,0,none⟩), .int .i64 n', .int .i64 mode', .int .i64 task'] [.int .i64 op', .int .i64 line', .int .u32 fa', .int .u32 fb', .int .i64 st', .bool on', .int .i64 wc', .int .i64 wi', .bool hit', .int .i64 ret'] _ (Has.at_ (Has.X1F H5 (c0:= #[.bool true, .int .i64 ak, .int .i64 ac, .int .u32 ax, .int .u32 ay, .int .u32 ao, .slice pn notes'.length cn]) (t0:=35)) 2 rfl) rfl)
 obtain⟨ob,hob⟩: ∃ob,(⟨n',mode',task',⟨op',line',fa',fb',st',⟨on',wc',wi',hit'⟩,ret'⟩,⟨ak,ac,ax,ay,ao⟩,notes',L'⟩:Rn).over=ob:=⟨_,rfl⟩
 have HRE2:=HRE.out
 rw[hob]at HRE2⊢
 have HR2:=Lib.hid HRE2
 have HFIT:=Lib.hid hF
 clear HRE HRE2 hob H5 hF hH
 cases ob with
 |false=>
  have hR:=HR2.out.trans (if_neg (by decide))
  clear HR2
  subst hR
  go_wp2_with (first
   |(refine wpList_load_mid rfl 76 (.tmp 28) rfl r 4 rfl _ _ HLD.out Tryz.underlying76 rfl (by kernel_rfl) ?_;refine Q4c rfl (.pointer (some ⟨p.tb,i*11,none⟩)) (by kernel_rfl) ?_;refine Q4c rfl (.pointer (some ⟨p.tb,i*11+1,none⟩)) (by kernel_rfl) ?_;refine wpList_store_mid rfl 76 (.tmp 31) (.tmp 29) rfl p.tb (i*11+1) #[.int .i64 op', .int .i64 line', .int .u32 fa', .int .u32 fb', .int .i64 st', .bool on', .int .i64 wc', .int .i64 wi', .bool hit', .int .i64 ret'] (by first|rfl|kernel_rfl) (by first|rfl|kernel_rfl) HTB.out (by kernel_rfl) (by simp[Value.oneCell']) ?_;refine Q3B (Facts:=fun W=>Has S0 w0 W (.blk p.tb (Q1t M.hold (M.fs.set i ⟨op',line',fa',fb',st',⟨on',wc',wi',hit'⟩,ret'⟩)).toArray:: .blk w5.heap.size #[.bool true, .int .i64 ak, .int .i64 ac, .int .u32 ax, .int .u32 ay, .int .u32 ao, .slice pn notes'.length cn]:: .blk rb Q3E:: .blk r #[.pointer (some ⟨p.m,0,none⟩), .int .i64 n', .int .i64 mode', .int .i64 task', .int .i64 op', .int .i64 line', .int .u32 fa', .int .u32 fb', .int .i64 st', .bool on', .int .i64 wc', .int .i64 wi', .bool hit', .int .i64 ret', .int .i64 ak, .int .i64 ac, .int .u32 ax, .int .u32 ay, .int .u32 ao, .slice pn notes'.length cn]:: .mem p.m p.a L':: .blk p.x (Q2H p M.mode M.n M.fs.length):: .own 40 4 (.slice pn notes'.length cn) notes'.length (nts notes')::rs)) ?_ HSET.out;intro W6 H6;have HLE:=Lib.hid (Q6L [] [.bool true, .int .i64 ak, .int .i64 ac, .int .u32 ax, .int .u32 ay, .int .u32 ao, .slice pn notes'.length cn] [] (Has.at_ H6 1 rfl) rfl);have HSR:=Lib.hid (Q2m (n:=7) (Has.at_ H6 2 rfl) (by decide));have HH6:=Lib.hid H6;clear H6)
   |(refine wpList_load_mid rfl 35 (.tmp 8) rfl w5.heap.size 0 rfl _ _ HLE.out Tryz.underlying35 rfl (by kernel_rfl) ?_)
   |(refine wpList_store_mid rfl 35 (.tmp 4) (.tmp 62) rfl rb 0 #[.bool true, .int .i64 ak, .int .i64 ac, .int .u32 ax, .int .u32 ay, .int .u32 ao, .slice pn notes'.length cn] (by first|rfl|kernel_rfl) (by first|rfl|kernel_rfl) HSR.out (by kernel_rfl) (by simp[Value.oneCell']) ?_))
  refine bodyPost_ret (Q2n rfl _ _ _ rb _ _ (by first|rfl|kernel_rfl) (World.rangeAt_setCells_same _ _ _ _ HSR.out) Tryz.underlying35 rfl (by kernel_rfl)) rfl ?_
  refine⟨.slice pn notes'.length cn,rfl,HFIT.out.put i _ _ _ ⟨HFI.out.1.2.1,HFI.out.1.2.2⟩ (HFIT.out.held i),?_⟩
  have h:=wdone HFIT.out hi (Has.setMany #[.bool true, .int .i64 ak, .int .i64 ac, .int .u32 ax, .int .u32 ay, .int .u32 ao, .slice pn notes'.length cn].toList 0 (Has.front HH6.out 2 (by simp)))
  have e:=X7e (l:=M.hold) (i:=i) (d:=(0:Int)) (by rw[HFIT.out.hlen];exact hi) rfl
  show Has S0 w0 _ (.mem p.m p.a L':: .blk p.x (Q2H p M.mode M.n (M.fs.set i _).length):: .blk p.tb (Q1t (M.hold.set i (M.hold.getD i 0)) (M.fs.set i _)).toArray::_)
  rw[e]
  exact h
 |true=>
  have hR:=HR2.out.trans (if_pos rfl)
  clear HR2
  subst hR
  go_wp2_with (refine wpList_load_mid rfl 76 (.tmp 28) rfl r 4 rfl _ _ HLD.out Tryz.underlying76 rfl (by kernel_rfl) ?_;refine Q4c rfl (.pointer (some ⟨p.tb,i*11,none⟩)) (by kernel_rfl) ?_;refine Q4c rfl (.pointer (some ⟨p.tb,i*11+1,none⟩)) (by kernel_rfl) ?_;refine wpList_store_mid rfl 76 (.tmp 31) (.tmp 29) rfl p.tb (i*11+1) #[.int .i64 op', .int .i64 line', .int .u32 fa', .int .u32 fb', .int .i64 st', .bool on', .int .i64 wc', .int .i64 wi', .bool hit', .int .i64 ret'] (by first|rfl|kernel_rfl) (by first|rfl|kernel_rfl) HTB.out (by kernel_rfl) (by simp[Value.oneCell']) ?_;refine Q3B (Facts:=fun W=>Has S0 w0 W (.blk p.tb (Q1t M.hold (M.fs.set i ⟨op',line',fa',fb',st',⟨on',wc',wi',hit'⟩,ret'⟩)).toArray:: .blk w5.heap.size #[.bool true, .int .i64 ak, .int .i64 ac, .int .u32 ax, .int .u32 ay, .int .u32 ao, .slice pn notes'.length cn]:: .blk rb Q3E:: .blk r #[.pointer (some ⟨p.m,0,none⟩), .int .i64 n', .int .i64 mode', .int .i64 task', .int .i64 op', .int .i64 line', .int .u32 fa', .int .u32 fb', .int .i64 st', .bool on', .int .i64 wc', .int .i64 wi', .bool hit', .int .i64 ret', .int .i64 ak, .int .i64 ac, .int .u32 ax, .int .u32 ay, .int .u32 ao, .slice pn notes'.length cn]:: .mem p.m p.a L':: .blk p.x (Q2H p M.mode M.n M.fs.length):: .own 40 4 (.slice pn notes'.length cn) notes'.length (nts notes')::rs)) ?_ HSET.out;intro W6 H6;have HH6:=Lib.hid H6;obtain⟨u0,u1,u2⟩:=(Has.at_ H6 3 rfl).own;clear H6)
  refine Q1a (by kernel_rfl) (by kernel_rfl) ?_
  simp only[Q0G,probes,List.nil_append]
  go_wp2_with fail
  rw[Q0g]
  rename_i hK
  refine hK _ _ ?_
  clear hK u0 u1 u2
  refine Q1q (Facts:=fun W=>Has S0 w0 W (.blk p.tb (Q1t M.hold (M.fs.set i ⟨op',line',fa',fb',st',⟨on',wc',wi',hit'⟩,ret'⟩)).toArray:: .blk w5.heap.size #[.bool true, .int .i64 ak, .int .i64 ac, .int .u32 ax, .int .u32 ay, .int .u32 ao, .slice pn notes'.length cn]:: .blk rb Q3E:: .blk r #[.pointer (some ⟨p.m,0,none⟩), .int .i64 n', .int .i64 mode', .int .i64 task', .int .i64 op', .int .i64 line', .int .u32 fa', .int .u32 fb', .int .i64 st', .bool on', .int .i64 wc', .int .i64 wi', .bool hit', .int .i64 ret', .int .i64 ak, .int .i64 ac, .int .u32 ax, .int .u32 ay, .int .u32 ao, .slice pn notes'.length cn]:: .mem p.m p.a L':: .blk p.x (Q2H p M.mode M.n M.fs.length):: .own 40 4 (.slice pn notes'.length cn) notes'.length (nts notes')::rs)) ?_ (by first|exact HH6.out|exact HH6.out.drew)
  clear HH6
  intro W7 H7
  obtain⟨z0,z1,z2⟩:=(Has.at_ H7 1 rfl).own
  have HH7:=Lib.hid H7
  clear H7
  obtain⟨i0,hi0,hz0,hz1,hz2⟩:=info_parts Q5S
  have HI:=Lib.hid (show _∧_∧_∧_ from⟨hi0,hz0,hz1,hz2⟩)
  clear hi0 hz0 hz1 hz2
  go_wp2_with (at_builtin;refine Q2q (P:=Tryz.prog) _ rfl (.tmp 40) (.tmp 45) _ rfl 0 40 i0 _ 4 32 Tryz.underlying33 HI.out.1 HI.out.2.1 HI.out.2.2.1 HI.out.2.2.2 rfl (by omega) (.slice pn notes'.length cn) notes'.length (nts notes') rfl (Has.Q5B (Has.X1F HH7.out) 7 rfl) (some ⟨W7.heap.size,0,none⟩) 1 1 [.int .i64 i, .int .i64 11, .int .i64 op', .int .i64 ret'] rfl (X0t (Blk.new _ _ _)) (by simp[Value.oneCell']) (by have h10:notes'.length≤10:=HFI.out.2;simp only[maxLen];omega) (by have h10:notes'.length≤10:=HFI.out.2;omega) (by omega) ?_;intro v' w' hown hg hat;have H8:=X6w HH7.out hown hg hat;obtain⟨p',c',rfl⟩:=Q2p hown;clear hown hg hat z0 z1 z2;refine Q3B (Facts:=fun W=>Has S0 w0 W (.blk p.tb (Q1t M.hold (M.fs.set i ⟨op',line',fa',fb',st',⟨on',wc',wi',hit'⟩,ret'⟩)).toArray:: .blk w5.heap.size #[.bool true, .int .i64 ak, .int .i64 ac, .int .u32 ax, .int .u32 ay, .int .u32 ao, .slice pn notes'.length cn]:: .blk rb Q3E:: .mem p.m p.a L':: .blk p.x (Q2H p M.mode M.n M.fs.length):: .own 40 4 (.slice p' (notes'.length+1) c') (notes'.length+1) (nts notes'++[.int .i64 i, .int .i64 11, .int .i64 op', .int .i64 ret'])::rs)) ?_ H8;clear H8;intro W8 H8;obtain⟨z0,z1,z2⟩:=(Has.at_ H8 1 rfl).own;obtain⟨t0,t1,t2,t3,t4,t5⟩:=Q2D (Has.at_ H8 0 rfl) (by rw[List.length_set];exact HFIT.out.hlen) (show i<(M.fs.set i ⟨op',line',fa',fb',st',⟨on',wc',wi',hit'⟩,ret'⟩).length by rw[List.length_set];exact hi);have n1:p.tb≠w5.heap.size:=Has.X0z H8 0 1 rfl rfl (by decide);have n2:=n1.symm;have HH8:=Lib.hid H8;clear H8 t2 t3 t4)
  refine Q1e (Facts:=fun W=>Has S0 w0 W (.blk p.tb (Q1t M.hold (M.fs.set i ⟨op',line',fa',fb',st',⟨on',wc',wi',hit'⟩,ret'⟩)).toArray:: .blk w5.heap.size #[.bool true, .int .i64 ak, .int .i64 ac, .int .u32 ax, .int .u32 ay, .int .u32 ao, .slice p' (notes'.length+1) c']:: .blk rb Q3E:: .mem p.m p.a L':: .blk p.x (Q2H p M.mode M.n M.fs.length):: .own 40 4 (.slice p' (notes'.length+1) c') (notes'.length+1) (nts notes'++[.int .i64 i, .int .i64 11, .int .i64 op', .int .i64 ret'])::rs)) ?_ (by
   have h:=HH8.out.set1 6 (.slice p' (notes'.length+1) c')
   simp only[List.setIfInBounds_toArray,List.set_cons_zero,List.set_cons_succ]at h
   exact h)
  clear HH8 HH7 z0 z1 z2 t0 t1 t5 n1 n2
  intro W9 H9
  refine(Y3p _ _ _ _).mono ?_
  rintro e W10⟨rfl,rfl⟩
  obtain⟨h',hh'⟩: ∃h',Q0c op' ret' (M.hold.getD i 0)=h':=⟨_,rfl⟩
  have hh2:Q0c op' ret' (M.hold[i]?.getD 0)=h':=hh'
  rw[hh2]
  have HHH:=Lib.hid hh'
  have hl1:M.hold.length=(M.fs.set i ⟨op',line',fa',fb',st',⟨on',wc',wi',hit'⟩,ret'⟩).length:=by rw[List.length_set];exact HFIT.out.hlen
  have hi1:i<(M.fs.set i ⟨op',line',fa',fb',st',⟨on',wc',wi',hit'⟩,ret'⟩).length:=by rw[List.length_set];exact hi
  obtain⟨t0,t1,_,_,_,t5⟩:=Q2D (Has.at_ H9 0 rfl) hl1 hi1
  have H10:=H9.set (i*11) (.int .i64 h')
  rw[List.setIfInBounds_toArray,X0l _ _ _ _ hl1 hi1]at H10
  have HT10:=Lib.hid (Q2D (Has.at_ H10 0 rfl) (by rw[List.length_set];exact hl1) hi1).2.2.2.2.1
  have h11:=wzero (by rw[List.length_set];exact hl1) hi1 H10
  rw[List.set_set]at h11
  have HSET:=Lib.hid h11
  have HHB:=Lib.hid (show h'=0∨h'=1∨h'=2 by rw[←hh'];exact Q8I (HFIT.out.held i))
  clear H9 H10 h11 hh' hh2 hl1 hi1
  go_wp2_with (first
   |(refine wpList_store_mid rfl 76 (.tmp 61) (.tmp 59) rfl p.tb (i*11+1) #[.int .i64 0, .int .i64 0, .int .u32 0, .int .u32 0, .int .i64 0, .bool false, .int .i64 0, .int .i64 0, .bool false, .int .i64 0] (by first|rfl|kernel_rfl) (by first|rfl|kernel_rfl) HT10.out (by kernel_rfl) (by simp[Value.oneCell']) ?_;refine Q3B (Facts:=fun W=>Has S0 w0 W (.blk p.tb (Q1t (M.hold.set i h') (M.fs.set i Fr.zero)).toArray:: .blk w5.heap.size #[.bool true, .int .i64 ak, .int .i64 ac, .int .u32 ax, .int .u32 ay, .int .u32 ao, .slice p' (notes'.length+1) c']:: .blk rb Q3E:: .mem p.m p.a L':: .blk p.x (Q2H p M.mode M.n M.fs.length):: .own 40 4 (.slice p' (notes'.length+1) c') (notes'.length+1) (nts notes'++[.int .i64 i, .int .i64 11, .int .i64 op', .int .i64 ret'])::rs)) ?_ HSET.out;intro W12 H12;have HLE:=Lib.hid (Q6L [] [.bool true, .int .i64 ak, .int .i64 ac, .int .u32 ax, .int .u32 ay, .int .u32 ao, .slice p' (notes'.length+1) c'] [] (Has.at_ H12 1 rfl) rfl);have HSR:=Lib.hid (Q2m (n:=7) (Has.at_ H12 2 rfl) (by decide));have HH12:=Lib.hid H12;clear H12)
   |(refine wpList_load_mid rfl 35 (.tmp 8) rfl w5.heap.size 0 rfl _ _ HLE.out Tryz.underlying35 rfl (by kernel_rfl) ?_)
   |(refine wpList_store_mid rfl 35 (.tmp 4) (.tmp 62) rfl rb 0 #[.bool true, .int .i64 ak, .int .i64 ac, .int .u32 ax, .int .u32 ay, .int .u32 ao, .slice p' (notes'.length+1) c'] (by first|rfl|kernel_rfl) (by first|rfl|kernel_rfl) HSR.out (by kernel_rfl) (by simp[Value.oneCell']) ?_))
  refine bodyPost_ret (Q2n rfl _ _ _ rb _ _ (by first|rfl|kernel_rfl) (World.rangeAt_setCells_same _ _ _ _ HSR.out) Tryz.underlying35 rfl (by kernel_rfl)) rfl ?_
  refine⟨.slice p' (notes'.length+1) c',rfl,HFIT.out.put i _ _ _ ⟨by simp[Fr.zero],by simp[Fr.zero]⟩ (Q8I (HFIT.out.held i)),?_⟩
  have h:=Y5T (Has.setMany #[.bool true, .int .i64 ak, .int .i64 ac, .int .u32 ax, .int .u32 ay, .int .u32 ao, .slice p' (notes'.length+1) c'].toList 0 (Has.front HH12.out 2 (by simp)))
  show Has S0 w0 _ (.mem p.m p.a L':: .blk p.x (Q2H p M.mode M.n (M.fs.set i _).length):: .blk p.tb (Q1t (M.hold.set i (Q0c op' ret' (M.hold.getD i 0))) (M.fs.set i _)).toArray:: .own 40 4 _ (notes'++[(⟨i,11,op',ret'⟩:Nt)]).length (nts (notes'++[(⟨i,11,op',ret'⟩:Nt)]))::rs)
  rw[HHH.out,List.length_set,show(notes'++[(⟨i,11,op',ret'⟩:Nt)]).length=notes'.length+1 by simp,show nts (notes'++[(⟨i,11,op',ret'⟩:Nt)])=nts notes'++[.int .i64 i, .int .i64 11, .int .i64 op', .int .i64 ret']by simp[nts,Nt.cells]]
  exact h
section
open Go.RowKit Go.Lib
theorem Q4k{P:Program}(w:World)(dT sT ty elem:TypeId)(size b o dLen dCap:Nat)(a:Addr)(sLen sCap:Nat)(cs:List Value)
 (hu:P.underlying dT=some (.slice elem)) (hs:(P.info? elem).map (·.size)=some size) (hn:cs.length=Nat.min sLen dLen*size)
 (hsrc: ∀j v,cs[j]? =some v→w.cell? (a.add j)=some v) (hc: ∀j,j<cs.length→(w.cell? ⟨b,o+j,none⟩).isSome=true) (hf: ∀j,j<cs.length→w.frozen? ⟨b,o+j,none⟩=false) (h1: ∀v∈cs,v.oneCell'=true):
 (Builtin.copy_ #[dT,sT] ty #[.slice (some ⟨b,o,none⟩) dLen dCap, .slice (some a) sLen sCap]).run P w= .ok (goInt (Nat.min sLen dLen)) (w.setCells b o cs):=by
 have hl:=run_firstCells_some (P:=P) w size (Nat.min sLen dLen) a sLen sCap cs hn hsrc
 have hst:=run_storeCells_cells (P:=P) b o cs 0 w (by simpa using hc) (by simpa using hf) h1
 cases hq:P.info? elem with
 |none=>simp[hq]at hs
 |some i=>
  have hi:i.size=size:=by simpa[hq]using hs
  simp[Builtin.copy_,run_underlying hu,Builtin.lenOf,sizeOf,typeInfo,hq,hi,hl,hst]
theorem Q3j{g:Nat}{e:TypeId}: ∀(vs cs:List Value) (o:Nat) {w:World},w.heap[g]? =some (.cells cs.toArray e (0,0))→(w.setCells g o vs).heap[g]? =some (.cells (setMany vs cs o).toArray e (0,0))
 |[],cs,o,w,h=>h
 |v::r,cs,o,w,h=>by
  rw[World.setCells]
  refine Q3j r (cs.set o v) (o+1) ?_
  rw[←List.setIfInBounds_toArray]
  simp[World.setCell,Array.getElem?_modify,h]
theorem Q3C: ∀(vs cs:List Value) (o:Nat),(setMany vs cs o).length=cs.length
 |[],cs,o=>rfl
 |v::r,cs,o=>by
  show(setMany r (cs.set o v) (o+1)).length=_
  rw[Q3C r]
  simp
theorem Q4C: ∀(vs a b c:List Value),b.length=vs.length→setMany vs (a++(b++c)) a.length=a++(vs++c)
 |[],a,b,c,e=>by
  obtain rfl:=List.length_eq_zero_iff.1 e
  rfl
 |v::vs,a,x::b,c,e=>by
  show setMany vs ((a++(x::(b++c))).set a.length v) (a.length+1)=a++(v::(vs++c))
  rw[List.set_append_right _ _ (by omega),Nat.sub_self]
  have:=Q4C vs (a++[v]) b c (by simpa using e)
  simp only[List.length_append,List.length_cons,List.length_nil,List.append_assoc,List.cons_append,List.nil_append]at this
  exact this
 |v::vs,a,[],c,e=>by simp at e
def X9E(S0:List Nat)(w0:World)(n:Nat)(xs:List Value)(rs:List Res)(e:Ending)(w':World):Prop:= ∃v',e= .returned v'∧Has S0 w0 w' (.own 40 4 v' n xs::rs)
theorem X8P{S0:List Nat}{w0 w:World}{lit:Nat}{c0 c1 c2 c3 nv:Value}{rs:List Res}(H:Has S0 w0 w (.own 40 4 nv 0 []:: .blk lit #[c0,c1,c2,c3]::rs))(h1: ∀u∈[c0,c1,c2,c3],u.oneCell'=true):
 Calls Tryz.prog 53 #[nv, .int .i64 0, .slice (some ⟨lit,0,none⟩) 1 1] w (X9E S0 w0 1 [c0,c1,c2,c3] rs):=by
 obtain⟨i0,hi0,hz0,hz1,hz2⟩:=info_parts Q5S
 have HI:=Lib.hid (show _∧_∧_∧_ from⟨hi0,hz0,hz1,hz2⟩)
 have H1:=Lib.hid h1
 rcases(Has.Q5B H 0 rfl).2 with⟨hv,_⟩|⟨g,cap,cur,hv,_,_,hcap,hmax,_⟩
 ·subst hv
  have HH:=Lib.hid H
  clear hi0 hz0 hz1 hz2 H h1
  go_enter Tryz.func53,Tryz.ntmps53
  go_wp2_with (at_builtin;refine Q2q (P:=Tryz.prog) _ rfl (.tmp 23) (.tmp 24) _ rfl 0 40 i0 _ 4 32 Tryz.underlying33 HI.out.1 HI.out.2.1 HI.out.2.2.1 HI.out.2.2.2 rfl (by omega) _ 0 [] rfl (Has.Q5B HH.out 0 rfl) (some ⟨lit,0,none⟩) 1 1 [c0,c1,c2,c3] rfl (X0t (Has.at_ HH.out 1 rfl)) H1.out (by decide) (by decide) (by omega) ?_;intro v' w' hown hg hat;have H8:=Lib.hid ((Has.grown HH.out hown hg hat).drop1);clear hown hg hat)
  go_ret
  exact⟨_,rfl,H8.out⟩
 ·subst hv
  have HH:=Lib.hid H
  clear hi0 hz0 hz1 hz2 H h1
  go_enter Tryz.func53,Tryz.ntmps53
  go_wp2_with (at_builtin;refine Q2q (P:=Tryz.prog) _ rfl (.tmp 23) (.tmp 24) _ rfl 0 40 i0 _ 4 32 Tryz.underlying33 HI.out.1 HI.out.2.1 HI.out.2.2.1 HI.out.2.2.2 rfl (by omega) _ 0 [] rfl (Has.Q5B HH.out 0 rfl) (some ⟨lit,0,none⟩) 1 1 [c0,c1,c2,c3] rfl (X0t (Has.at_ HH.out 1 rfl)) H1.out (by decide) (by decide) (by omega) ?_;intro v' w' hown hg hat;have H8:=Lib.hid ((Has.grown HH.out hown hg hat).drop1);clear hown hg hat)
  go_ret
  exact⟨_,rfl,H8.out⟩
set_option maxRecDepth 100000 in
theorem X8N{w:World}{g n cap lit:Nat}{cur xs:List Value}{c0 c1 c2 c3:Value}(hn:0<n)(hroom:n+1≤cap)(hc63:cap≤9223372036854775807)(hg:w.heap[g]? =some (.cells cur.toArray 40 (0,0)))(hcs:cur.length=cap*4)(htk:cur.take (n*4)=xs)(hlit:Blk w lit #[c0,c1,c2,c3])(hne:lit≠g)
 (h1c: ∀v∈xs,v.oneCell'=true) (h1v: ∀u∈[c0,c1,c2,c3],u.oneCell'=true):
 Calls Tryz.prog 53 #[.slice (some ⟨g,0,none⟩) n cap, .int .i64 0, .slice (some ⟨lit,0,none⟩) 1 1] w fun e w'=>
  e= .returned (.slice (some ⟨g,0,none⟩) (n+1) cap)∧w'=(w.drew.setCells g 4 xs).setCells g 0 [c0,c1,c2,c3]:=by
 have hxl:xs.length=n*4:=by rw[←htk,List.length_take];omega
 have hcell: ∀j,w.cell? ⟨g,j,none⟩=cur[j]? :=fun j=>by rw[(show Blk w g cur.toArray from⟨_,hg⟩).cell];simp
 have hcs2: ∀j v,xs[j]? =some v→w.cell? ⟨g,j,none⟩=some v:=fun j v hj=>by
  rw[hcell,←hj,←htk,List.getElem?_take_of_lt (by have:=(List.getElem?_eq_some_iff.1 hj).1;omega)]
 have hsp: ∀j,j<(n+1)*4→(w.cell? ⟨g,j,none⟩).isSome=true:=fun j hj=>by rw[hcell,List.getElem?_eq_getElem (by omega)];rfl
 have hfz: ∀j,w.frozen? ⟨g,j,none⟩=false:=(show Blk w g cur.toArray from⟨_,hg⟩).own.2.2
 have hvs: ∀j v,[c0,c1,c2,c3][j]? =some v→w.cell? ⟨lit,j,none⟩=some v:=fun j v hj=>by rw[hlit.cell,←hj];simp
 have hov: ∀lb cb,(callFunc 78 #[.slice (some ⟨lit,0,none⟩) 1 1, .slice (some ⟨g,4,none⟩) lb cb]).run Tryz.prog w= .ok (.value (.bool false)) w:=fun lb cb=>by
  obtain⟨T,hT⟩:=hlit
  rw[run_callFunc_extern Tryz.func78 (by kernel_rfl) (by kernel_rfl) (by kernel_rfl) (e:=Extern.SlicesOverlaps.overlaps #[33,33] #[4]) (by kernel_rfl),
   Lib.run_overlaps_apart w 33 4 40 Tryz.underlying33 4 (fun w=>by kernel_rfl) ⟨lit,0,none⟩ ⟨g,4,none⟩ 1 1 lb cb hne T 40 4 (cap*4) (by simp[World.shape?,hT]) (by simp[World.shape?,hg,hcs]) (by omega) ((show Blk w lit _ from⟨T,hT⟩).own.2.2 _) ((show Blk w lit _ from⟨T,hT⟩).own.2.2 _)]
  rfl
 have hsz:((Tryz.prog).info? 40).map (·.size)=some 4:=by kernel_rfl
 have hcp1: ∀ty dc sc,(Builtin.copy_ #[33,33] ty #[.slice (some ⟨g,4,none⟩) n dc, .slice (some ⟨g,0,none⟩) (n+1) sc]).run Tryz.prog w.drew= .ok (goInt (Nat.min (n+1) n)) (w.drew.setCells g 4 xs):=fun ty dc sc=>
  Q4k w.drew _ _ ty 40 4 g 4 n dc ⟨g,0,none⟩ (n+1) sc xs Tryz.underlying33 hsz (by rw[hxl,show Nat.min (n+1) n=n from Nat.min_eq_right (by omega)]) (fun j v hj=>by rw[Addr.add_lit,Nat.zero_add];exact hcs2 j v hj) (fun j hj=>hsp _ (by omega)) (fun j hj=>hfz _) h1c
 have hW1:=Q3j (g:=g) (e:=40) xs cur 4 (w:=w.drew) hg
 have hW1b:Blk (w.drew.setCells g 4 xs) g (setMany xs cur 4).toArray:=⟨_,hW1⟩
 have hlit1: ∀j v,[c0,c1,c2,c3][j]? =some v→(w.drew.setCells g 4 xs).cell? ⟨lit,j,none⟩=some v:=fun j v hj=>by
  rw[World.cell?_setCells_out g xs 4 w.drew ⟨lit,j,none⟩ (fun h _=>absurd h hne)]
  exact hvs j v hj
 have hcp2: ∀(W:World),(∀x,W.cell? x=(w.drew.setCells g 4 xs).cell? x)→(∀x,W.frozen? x=(w.drew.setCells g 4 xs).frozen? x)→ ∀ty dc,(Builtin.copy_ #[33,33] ty #[.slice (some ⟨g,0,none⟩) (n+1) dc, .slice (some ⟨lit,0,none⟩) 1 1]).run Tryz.prog W= .ok (goInt (Nat.min 1 (n+1))) (W.setCells g 0 [c0,c1,c2,c3]):=fun W hWc hWf ty dc=>
  Q4k W _ _ ty 40 4 g 0 (n+1) dc ⟨lit,0,none⟩ 1 1 [c0,c1,c2,c3] Tryz.underlying33 hsz (by rw[show Nat.min 1 (n+1)=1 from Nat.min_eq_left (by omega)];rfl) (fun j v hj=>by rw[Addr.add_lit,Nat.zero_add,hWc];exact hlit1 j v hj)
   (fun j hj=>by rw[hWc,Nat.zero_add,hW1b.cell,List.getElem?_toArray,List.getElem?_eq_getElem (by rw[Q3C];simp at hj;omega)];rfl) (fun j hj=>by rw[hWf];exact hW1b.own.2.2 _) h1v
 have HOV:=Lib.hid hov
 have HC1:=Lib.hid hcp1
 have HC2:=Lib.hid hcp2
 have hz2: ¬((0:Int)=(n:Int)):=by omega
 have hz3: ¬((n:Int)=0):=by omega
 have hw1:IntKind.i64.wrap ((n:Int)+1)=(n:Int)+1:=by rw[IntKind.wrap_i64];omega
 have htn:((n:Int)+1).toNat=n+1:=by omega
 have hb1: ¬((cap:Int)<(n:Int)+1):=by omega
 have hb2:(n:Int)+1≤(cap:Int):=by omega
 have hb3:(0:Int)≤(n:Int)+1:=by omega
 have hb4:(1:Int)≤(n:Int)+1:=by omega
 have hb5: ¬(cap=1):=by omega
 have hb6: ¬(cap=0):=by omega
 have hwr1:IntKind.i64.wrap 1=1:=by rw[IntKind.wrap_i64];omega
 have mixed:(Tryz.prog).follows Departure.mixedOrders=true:=by kernel_rfl
 have late:(Tryz.prog).follows Departure.lateStores=true:=by kernel_rfl
 clear hov hcp1 hcp2 hsz hW1 hW1b hlit1 hvs hfz hsp hcs2 hcell hxl h1v h1c htk hcs hg hlit
 go_enter Tryz.func53,Tryz.ntmps53
 go_wp2_with (simp only[HOV.out])
 go_region_law_o (refine step_copy_runI rfl (.tmp 73) (.tmp 76) 33 33 rfl (.slice (some ⟨g,4,none⟩) n (cap-1)) (.slice (some ⟨g,0,none⟩) (n+1) cap) (by simp[Act.eval,Act.put]) (by simp[Act.eval,Act.put]) (HC1.out _ _ _) ?_)
 go_wp2_with fail
 rw[HC2.out _ (fun _=>rfl) (fun _=>rfl)]
 go_wp2_with fail
 go_ret
 exact⟨rfl,rfl⟩
end
end Go.Proofs.YthnimpkoidablaaGreat.Z
