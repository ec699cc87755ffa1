import Derived.Test.YthnimpkoidablaaGreatZA23
import Derived.Test.YthnimpkoidablaaGreatZX03
import Derived.Test.YthnimpkoidablaaGreatZX04
import Derived.Test.YthnimpkoidablaaGreatZX05
import Derived.Test.YthnimpkoidablaaGreatZX06
import Derived.Test.YthnimpkoidablaaGreatZX07
import Derived.Test.YthnimpkoidablaaGreatZX08
import Derived.Test.YthnimpkoidablaaGreatZB09
set_option linter.unusedVariables false
set_option linter.unusedSimpArgs false
set_option maxHeartbeats 6400000
namespace Go.Proofs.YthnimpkoidablaaGreat.Z
open Go.RowKit
theorem X9Z(k:Nat)(d base:Int)(h1:1≤k)(h2:k≤64)(hd:d=1∨d=2)(hb:0≤base∧base<4294967296)(B:Nat)(hB:B≤100000): ∃ps,MI tfK (tfI base k) k B (Mt.start k d (Q5P base++List.replicate ((8+4*(k:Int)).toNat-3) 0)) ps:=
 ⟨_,Q3x (X3q base k d) _ (by simp[Q5P];omega) (Y3b k base h1 h2 hb B hB)⟩
theorem X6B(k:Nat)(d base:Int)(h1:1≤k)(h2:k≤64)(hd:d=1∨d=2)(hb:0≤base∧base<4294967296):Q7e tfA (X0N Q5P 3 k base) k d:=
 ⟨_,tfK,(tfI base k),_,_,_,_,_,_,rfl,X3q base k d,fun h8=>by
  rcases(show k=1∨k=2∨k=3∨k=4∨k=5∨k=6∨k=7∨k=8 by omega)with rfl|rfl|rfl|rfl|rfl|rfl|rfl|rfl<;>decide,fun B hB=>X9Z k d base h1 h2 hd hb B hB⟩
theorem Y0U(k:Nat)(d base:Int)(h1:1≤k)(h2:k≤64)(hd:d=1∨d=2)(hb:0≤base∧base<4294967296)(B:Nat)(hB:B≤100000): ∃ps,MI pfK (pfI base k) k B (Mt.start k d (Q3U base++List.replicate ((8+4*(k:Int)).toNat-5) 0)) ps:=
 ⟨_,Q3x (X3M base k d) _ (by simp[Q3U];omega) (Y3S k base h1 h2 hb B hB)⟩
theorem X8h(k:Nat)(d base:Int)(h1:1≤k)(h2:k≤64)(hd:d=1∨d=2)(hb:0≤base∧base<4294967296):Q7e pfA (X0N Q3U 5 k base) k d:=
 ⟨_,pfK,(pfI base k),_,_,_,_,_,_,rfl,X3M base k d,fun h8=>by
  rcases(show k=1∨k=2∨k=3∨k=4∨k=5∨k=6∨k=7∨k=8 by omega)with rfl|rfl|rfl|rfl|rfl|rfl|rfl|rfl<;>decide,fun B hB=>Y0U k d base h1 h2 hd hb B hB⟩
theorem Y0E(k:Nat)(d base:Int)(h1:1≤k)(h2:k≤64)(hd:d=1∨d=2)(hb:0≤base∧base<4294967296)(B:Nat)(hB:B≤100000): ∃ps,MI (pqK k) (pqI k) k B (Mt.start k d (Q4F base++List.replicate ((8+4*(k:Int)).toNat-4) 0)) ps:=
 ⟨_,Q3x (X3I k d h1 h2) _ (by simp[Q4F];omega) (Y3N k base h1 h2 hb B hB)⟩
theorem X7N(k:Nat)(d base:Int)(h1:1≤k)(h2:k≤64)(hd:d=1∨d=2)(hb:0≤base∧base<4294967296):Q7e pqA (X0N Q4F 4 k base) k d:=
 ⟨_,(pqK k),(pqI k),_,_,_,_,_,_,rfl,X3I k d h1 h2,fun h8=>by
  rcases(show k=1∨k=2∨k=3∨k=4∨k=5∨k=6∨k=7∨k=8 by omega)with rfl|rfl|rfl|rfl|rfl|rfl|rfl|rfl<;>decide,fun B hB=>Y0E k d base h1 h2 hd hb B hB⟩
theorem Y1A(k:Nat)(d base:Int)(h1:1≤k)(h2:k≤64)(hd:d=1∨d=2)(hb:0≤base∧base<4294967296)(B:Nat)(hB:B≤100000): ∃ps,MI (fqK k) (fqI k) k B (Mt.start k d (own4 base++List.replicate ((8+4*(k:Int)).toNat-2) 0)) ps:=
 ⟨_,Q3x (X4e k d h1 h2) _ (by simp[own4];omega) (Y4f k base h1 h2 hb B hB)⟩
theorem X8Y(k:Nat)(d base:Int)(h1:1≤k)(h2:k≤64)(hd:d=1∨d=2)(hb:0≤base∧base<4294967296):Q7e fqA (X0N own4 2 k base) k d:=
 ⟨_,(fqK k),(fqI k),_,_,_,_,_,_,rfl,X4e k d h1 h2,fun h8=>by
  rcases(show k=1∨k=2∨k=3∨k=4∨k=5∨k=6∨k=7∨k=8 by omega)with rfl|rfl|rfl|rfl|rfl|rfl|rfl|rfl<;>decide,fun B hB=>Y1A k d base h1 h2 hd hb B hB⟩
theorem Y0t(k:Nat)(d base:Int)(h1:1≤k)(h2:k≤64)(hd:d=1∨d=2)(hb:0≤base∧base<4294967296)(B:Nat)(hB:B≤100000): ∃ps,MI rfK (rfI k) k B (Mt.start k d (Q9j base++List.replicate ((8+4*(k:Int)).toNat-1) 0)) ps:=
 ⟨_,Q3x (X3A k d) _ (by simp[Q9j];omega) (Y3x k base h1 h2 hb B hB)⟩
theorem X7i(k:Nat)(d base:Int)(h1:1≤k)(h2:k≤64)(hd:d=1∨d=2)(hb:0≤base∧base<4294967296):Q7e rfA (X0N Q9j 1 k base) k d:=
 ⟨_,rfK,(rfI k),_,_,_,_,_,_,rfl,X3A k d,fun h8=>by
  rcases(show k=1∨k=2∨k=3∨k=4∨k=5∨k=6∨k=7∨k=8 by omega)with rfl|rfl|rfl|rfl|rfl|rfl|rfl|rfl<;>decide,fun B hB=>Y0t k d base h1 h2 hd hb B hB⟩
theorem X9N(k:Nat)(d base:Int)(h1:1≤k)(h2:k≤64)(hd:d=1∨d=2)(hb:0≤base∧base<4294967296)(B:Nat)(hB:B≤100000): ∃ps,MI wfK (wfI k) k B (Mt.start k d (Q8A base++List.replicate ((8+4*(k:Int)).toNat-1) 0)) ps:=
 ⟨_,Q3x (X3k k d) _ (by simp[Q8A];omega) (Y2R k base h1 h2 hb B hB)⟩
theorem X6c(k:Nat)(d base:Int)(h1:1≤k)(h2:k≤64)(hd:d=1∨d=2)(hb:0≤base∧base<4294967296):Q7e wfA (X0N Q8A 1 k base) k d:=
 ⟨_,wfK,(wfI k),_,_,_,_,_,_,rfl,X3k k d,fun h8=>by
  rcases(show k=1∨k=2∨k=3∨k=4∨k=5∨k=6∨k=7∨k=8 by omega)with rfl|rfl|rfl|rfl|rfl|rfl|rfl|rfl<;>decide,fun B hB=>X9N k d base h1 h2 hd hb B hB⟩
theorem count_set(p:Int→Bool): ∀(l:List Int) (i:Nat) (v:Int),i<l.length→(l.set i v).countP p+(if p (l.getD i 0)=true then 1 else 0)=l.countP p+(if p v=true then 1 else 0)
 |[],i,v,h=>by simp at h
 |x::l,0,v,h=>by
  show(v::l).countP p+(if p x=true then 1 else 0)=(x::l).countP p+_
  rw[List.countP_cons,List.countP_cons]
  omega
 |x::l,i+1,v,h=>by
  have:=count_set p l i v (by simpa using h)
  show(x::l.set i v).countP p+(if p (l.getD i 0)=true then 1 else 0)=(x::l).countP p+_
  rw[List.countP_cons,List.countP_cons]
  omega
theorem ok_less{hs:List Int}{i:Nat}{v:Int}(hi:i<hs.length)(h:HsOk hs)(hv:v=hs.getD i 0∨(hs.getD i 0=1∨hs.getD i 0=2)∧(v=0∨v=1)):HsOk (hs.set i v):=by
 unfold HsOk at*
 have c2:=count_set (· ==2) hs i v hi
 have c1:=count_set (· ==1) hs i v hi
 generalize hs.getD i 0=u at*
 generalize List.countP (fun x=>x==2) (hs.set i v)=a2 at*
 generalize List.countP (fun x=>x==1) (hs.set i v)=a1 at*
 generalize List.countP (fun x=>x==2) hs=b2 at*
 generalize List.countP (fun x=>x==1) hs=b1 at*
 rcases hv with rfl|⟨rfl|rfl,rfl|rfl⟩<;>simp at c1 c2<;>omega
theorem from_less{op h:Int}(hm:Q6T op h=true)(hh:h=0∨h=1∨h=2):Q0w op h=h∨(h=1∨h=2)∧(Q0w op h=0∨Q0w op h=1):=by
 rcases Q2L hm with⟨rfl,rfl|rfl|rfl|rfl⟩|⟨rfl,rfl|rfl⟩|⟨_,_,rfl|rfl⟩<;>simp[Q0w]<;>omega
theorem hold_lines{i:Int}: ∀(l:List Nt),(∀x,x∈l→x.what≠1∧x.what≠11)→ ∀hs,l.foldl holdStep hs=hs
 |[],_,hs=>rfl
 |x::l,h,hs=>by
  obtain⟨h1,h2⟩:=h x (by simp)
  show l.foldl holdStep (holdStep hs x)=hs
  have:holdStep hs x=hs:=by unfold holdStep;rw[if_neg (fun h=>h1 h.1),if_neg h2]
  rw[this]
  exact hold_lines (i:=i) l (fun y hy=>h y (List.mem_cons_of_mem _ hy)) hs
theorem step_nc{g:Rn→Rn}(hg: ∀i s,NC i s→NC i (g s))(s:Rn):NC s.task (Q0K g s):=by
 unfold Q0K
 split
 ·exact⟨rfl,by intro x hx;cases hx⟩
 ·exact hg _ _ ⟨rfl,by intro x hx;cases hx⟩
theorem step_holds{g:Rn→Rn}(hg: ∀i s,NC i s→NC i (g s)){M:Mt}{i:Nat}(hh:M.hold.length=M.fs.length)(hi:i<M.fs.length)(h0:HsOk M.hold)(h1:HsOk (M.Q4B g i).1.hold):
 ((M.Q4B g i).2.notes.foldl holdStep M.hold=(M.Q4B g i).1.hold)∧(∀x,x∈(M.Q4B g i).2.notes→x.task=i)∧ ∀j,HsOk (((M.Q4B g i).2.notes.take j).foldl holdStep M.hold):=by
 obtain⟨e1,e2⟩:=step_nc hg (M.run i (M.fs.getD i Fr.zero))
 unfold Mt.Q4B at h1⊢
 generalize Q0K g (M.run i (M.fs.getD i Fr.zero))=R at*
 have e3:(M.run i (M.fs.getD i Fr.zero)).task=i:=rfl
 rw[e3]at e1 e2
 have hl:=hold_lines (i:=i) R.notes (fun x hx=>(e2 x hx).2)
 have hlt: ∀j,(R.notes.take j).foldl holdStep M.hold=M.hold:=fun j=>hold_lines (i:=i) _ (fun x hx=>(e2 x (List.mem_of_mem_take hx)).2) _
 by_cases ho:R.over=true
 ·rw[if_pos ho]at h1⊢
  have hend:holdStep M.hold ⟨i,11,R.f.op,R.f.ret⟩=M.hold.set i (Q0c R.f.op R.f.ret (M.hold.getD i 0)):=by
   unfold holdStep
   simp
  have hall:(R.notes++[(⟨i,11,R.f.op,R.f.ret⟩:Nt)]).foldl holdStep M.hold=M.hold.set i (Q0c R.f.op R.f.ret (M.hold.getD i 0)):=by
   rw[List.foldl_append,hl]
   exact hend
  refine⟨hall,fun x hx=> ?_,fun j=> ?_⟩
  ·rcases List.mem_append.1 hx with h|h
   ·exact(e2 x h).1
   ·rw[List.mem_singleton.1 h]
  ·show HsOk (((R.notes++[(⟨i,11,R.f.op,R.f.ret⟩:Nt)]).take j).foldl holdStep M.hold)
   rcases Nat.lt_or_ge R.notes.length j with h|h
   ·rw[List.take_of_length_le (by simp;omega),hall]
    exact h1
   ·rw[List.take_append_of_le_length h,hlt]
    exact h0
 ·rw[if_neg ho]at h1⊢
  have hs:M.hold.set i (M.hold.getD i 0)=M.hold:=by simp[List.getD,hh,hi]
  refine⟨?_,fun x hx=>(e2 x hx).1,fun j=> ?_⟩
  ·show R.notes.foldl holdStep M.hold=M.hold.set i (M.hold.getD i 0)
   rw[hl,hs]
  ·show HsOk ((R.notes.take j).foldl holdStep M.hold)
   rw[hlt]
   exact h0
theorem pick_holds{g:Rn→Rn}(hg: ∀i s,NC i s→NC i (g s)){M:Mt}(hh:M.hold.length=M.fs.length)(hf: ∀h,h∈M.hold→h=0∨h=1∨h=2)(t op:Int)(h0:HsOk M.hold)(h1:HsOk (M.Q3R g t op).1.hold):
 ((M.Q3R g t op).2.notes.foldl holdStep M.hold=(M.Q3R g t op).1.hold)∧(∀x,x∈(M.Q3R g t op).2.notes→0≤x.task∧x.task<M.fs.length)∧ ∀j,HsOk (((M.Q3R g t op).2.notes.take j).foldl holdStep M.hold):=by
 have hnone:(∀{P:Prop},(([]:List Nt).foldl holdStep M.hold=M.hold))∧(∀x:Nt,x∈([]:List Nt)→0≤x.task∧x.task<M.fs.length)∧ ∀j,HsOk ((([]:List Nt).take j).foldl holdStep M.hold):=
  ⟨rfl,fun x hx=>(by cases hx),fun j=>by rw[List.take_nil];exact h0⟩
 unfold Mt.Q3R at h1⊢
 by_cases hin:0≤t∧t<(M.fs.length:Int)
 ·rw[if_pos hin]at h1⊢
  obtain⟨i,rfl⟩: ∃i:Nat,t=i:=⟨t.toNat,by omega⟩
  simp only[Int.toNat_natCast]at h1⊢
  have hi:i<M.fs.length:=by omega
  by_cases hop:(M.fs.getD i Fr.zero).op=0
  ·rw[if_pos hop]at h1⊢
   by_cases hop8:1≤op∧op≤8
   ·rw[if_pos hop8]at h1⊢
    unfold Mt.Q5V at h1⊢
    by_cases hm:Q6T op (M.hold.getD i 0)=true
    ·rw[if_pos hm]at h1⊢
     have hhd:M.hold.getD i 0=0∨M.hold.getD i 0=1∨M.hold.getD i 0=2:=by
      have e:M.hold.getD i 0=M.hold[i]:=by simp[List.getD,hh,hi]
      rw[e];exact hf _ (List.getElem_mem _)
     have hok:HsOk (M.hold.set i (Q0w op (M.hold.getD i 0))):=ok_less (by omega) h0 (from_less hm hhd)
     have hcall:holdStep M.hold ⟨i,1,op,0⟩=M.hold.set i (Q0w op (M.hold.getD i 0)):=by
      unfold holdStep
      simp only[Int.toNat_natCast]
      rw[if_pos ⟨trivial,hm⟩]
     obtain⟨s1,s2,s3⟩:=step_holds hg (M:=M.put i (Q4h op) (Q0w op (M.hold.getD i 0)) M.L) (i:=i) (by simp[Mt.put,hh]) (by simp[Mt.put];exact hi) hok h1
     refine⟨?_,fun x hx=> ?_,fun j=> ?_⟩
     ·show List.foldl holdStep (holdStep M.hold ⟨i,1,op,0⟩) _=_
      rw[hcall]
      exact s1
     ·rcases List.mem_cons.1 hx with rfl|h
      ·exact⟨Int.natCast_nonneg _,by show(i:Int)<_;omega⟩
      ·rw[s2 x h];omega
     ·cases j with
      |zero=>exact h0
      |succ j=>
       show HsOk (List.foldl holdStep (holdStep M.hold ⟨i,1,op,0⟩) (List.take j _))
       rw[hcall]
       exact s3 j
    ·rw[if_neg hm]at h1⊢
     have hmf:Q6T op (M.hold.getD i 0)=false:=by simpa using hm
     have hcall:holdStep M.hold ⟨i,1,op,0⟩=M.hold:=by
      unfold holdStep
      simp only[Int.toNat_natCast]
      rw[if_neg (fun h=>hm h.2),if_neg (by decide)]
     have hret:holdStep M.hold ⟨i,11,op,3⟩=M.hold:=by
      unfold holdStep
      simp[Q0c,List.getD,hh,hi]
     refine⟨?_,fun x hx=> ?_,fun j=> ?_⟩
     ·show holdStep (holdStep M.hold ⟨i,1,op,0⟩) ⟨i,11,op,3⟩=M.hold
      rw[hcall,hret]
     ·simp only[List.mem_cons,List.not_mem_nil,or_false]at hx
      rcases hx with rfl|rfl<;>exact⟨Int.natCast_nonneg _,by show(i:Int)<_;omega⟩
     ·rcases j with _|_|j
      ·exact h0
      ·show HsOk (holdStep M.hold ⟨i,1,op,0⟩)
       rw[hcall];exact h0
      ·show HsOk (List.foldl holdStep (holdStep (holdStep M.hold ⟨i,1,op,0⟩) ⟨i,11,op,3⟩) (List.take j []))
       rw[hcall,hret,List.take_nil];exact h0
   ·rw[if_neg hop8]at h1⊢
    exact⟨rfl,hnone.2⟩
  ·rw[if_neg hop]at h1⊢
   by_cases hs:M.Q3a i=true
   ·rw[if_pos hs]at h1⊢
    exact⟨rfl,hnone.2⟩
   ·rw[if_neg hs]at h1⊢
    obtain⟨s1,s2,s3⟩:=step_holds hg hh hi h0 h1
    exact⟨s1,fun x hx=>by rw[s2 x hx];omega,s3⟩
 ·rw[if_neg hin]at h1⊢
  exact⟨rfl,hnone.2⟩
structure XInv(M0:Mt)(R:Mt×List Nt):Prop where
 all:R.2.foldl holdStep M0.hold=R.1.hold
 tasks: ∀x,x∈R.2→0≤x.task∧x.task<M0.fs.length
 each: ∀j,HsOk ((R.2.take j).foldl holdStep M0.hold)
 len:R.1.fs.length=M0.fs.length
theorem XInv.zero{M:Mt}(h:HsOk M.hold):XInv M (M,[]):=⟨rfl,fun x hx=>(by cases hx),fun j=>(by show HsOk ((([]:List Nt).take j).foldl holdStep M.hold);rw[List.take_nil];exact h),rfl⟩
theorem XInv.snoc{g:Rn→Rn}(hg: ∀i s,NC i s→NC i (g s)){M0:Mt}{R:Mt×List Nt}(H:XInv M0 R)(F:X3d R.1)(t op:Int)(h0:HsOk R.1.hold)(h1:HsOk (R.1.Q3R g t op).1.hold):XInv M0 ((R.1.Q3R g t op).1,R.2++(R.1.Q3R g t op).2.notes):=by
 obtain⟨p1,p2,p3⟩:=pick_holds hg F.hlen F.hs t op h0 h1
 refine⟨?_,fun x hx=> ?_,fun j=> ?_,(X8a g R.1 t op).trans H.len⟩
 ·rw[List.foldl_append,H.all]
  exact p1
 ·rcases List.mem_append.1 hx with h|h
  ·exact H.tasks x h
  ·rw[←H.len];exact p2 x h
 ·rcases Nat.lt_or_ge R.2.length j with h|h
  ·rw[List.take_append,List.take_of_length_le (by omega),List.foldl_append,H.all]
   exact p3 _
  ·rw[List.take_append_of_le_length h]
   exact H.each j
theorem count_held: ∀(l:List Int),(∀h,h∈l→h=0∨h=1∨h=2)→l.countP (· !=0)=l.countP (· ==1)+l.countP (· ==2)
 |[],_=>rfl
 |x::l,h=>by
  have:=count_held l (fun y hy=>h y (List.mem_cons_of_mem _ hy))
  rw[List.countP_cons,List.countP_cons,List.countP_cons,this]
  rcases h x (by simp)with rfl|rfl|rfl<;>simp<;>omega
theorem held_ok{hs:List Int}(h:HsOk hs)(hf: ∀h,h∈hs→h=0∨h=1∨h=2): ¬(0<hs.countP (· ==2)∧hs.countP (· !=0)>1):=by
 have:=count_held hs hf
 unfold HsOk at h
 omega
theorem countP_more(p:Int→Bool)(l:List Int)(j:Nat)(h:j<l.length):(l.take (j+1)).countP p=(l.take j).countP p+if p (l.getD j 0)=true then 1 else 0:=by
 rw[List.take_succ_eq_append_getElem h,List.countP_append,List.countP_singleton]
 simp[List.getD,h]
theorem kind_excl(kind:Int)(h:1≤kind∧kind≤6): ∃fid g Z,Q4W kind fid g Z∧(∀i s,NC i s→NC i (g s))∧ ∀(k:Nat) (d base:Int),1≤k→k≤64→d=1∨d=2→0≤base∧base<4294967296→Q7e g (Z k base) k d:=by
 have:kind=1∨kind=2∨kind=3∨kind=4∨kind=5∨kind=6:=by omega
 rcases this with rfl|rfl|rfl|rfl|rfl|rfl
 ·exact⟨_,_,_,X8I,fun i s h=>tf_nc h,X6B⟩
 ·exact⟨_,_,_,X8L,fun i s h=>pf_nc h,X8h⟩
 ·exact⟨_,_,_,X8K,fun i s h=>pq_nc h,X7N⟩
 ·exact⟨_,_,_,X0D,fun i s h=>fq_nc h,X8Y⟩
 ·exact⟨_,_,_,X8J,fun i s h=>rf_nc h,X7i⟩
 ·exact⟨_,_,_,X8H,fun i s h=>wf_nc h,X6c⟩
section
variable {P:Type}{K:Q3D P}{I:Nat→List P→(Nat→Int)→Prop}{n b:Nat}{mode:Int}{M:Mt}{ps:List P}{N V C:Nat}{nw nv:P→Nat}{cp:(Nat→Int)→Nat→P→Nat}{i:Nat}{f:Fr}{h:Int}{p:P}
theorem xc_one: ∀(l:List Int) (i:Nat),(∀j,j<l.length→j≠i→l.getD j 0=0)→l.countP (· ==2)≤1∧(l.getD i 0=2→l.countP (· ==1)=0)
 |[],i,_=>by simp
 |x::l,0,h=>by
  have hz: ∀y,y∈l→y=0:=fun y hy=>by
   obtain⟨j,hj,rfl⟩:=List.getElem_of_mem hy
   have:=h (j+1) (by simpa using hj) (by omega)
   simpa[List.getD,hj]using this
  have c2:l.countP (· ==2)=0:=by rw[List.countP_eq_zero];intro y hy;rw[hz y hy];decide
  have c1:l.countP (· ==1)=0:=by rw[List.countP_eq_zero];intro y hy;rw[hz y hy];decide
  refine⟨?_,fun hx=> ?_⟩
  ·rw[List.countP_cons,c2];split<;>omega
  ·have hx:x=2:=hx
   rw[List.countP_cons,c1,hx]
   decide
 |x::l,i+1,h=>by
  have hx:x=0:=h 0 (by simp) (by omega)
  obtain⟨c2,c1⟩:=xc_one l i (fun j hj hji=>by
   have:=h (j+1) (by simpa using hj) (by omega)
   simpa using this)
  subst hx
  refine⟨?_,fun hx=> ?_⟩
  ·rw[List.countP_cons];simpa using c2
  ·rw[List.countP_cons];simpa using c1 (by simpa using hx)
theorem xc_many(A:K.All n mode I N V C nw nv cp)(hM:M.mode=mode)(H:MI K I n b M ps):HsOk M.hold:=by
 have G:=A.good
 rw[←hM]at G
 unfold HsOk
 intro hc
 have hpos:0<M.hold.countP (· ==2):=by omega
 rw[List.countP_pos_iff]at hpos
 obtain⟨y,hy,he⟩:=hpos
 obtain⟨i,hi,rfl⟩:=List.getElem_of_mem hy
 have hin:i<n:=by have:=H.hol;omega
 have h2:M.hold.getD i 0=2:=by have:M.hold[i]=2:=by simpa using he
                               simpa[List.getD,hi]using this
 have hp:=((H.abs i hin).holds G).2 h2
 obtain⟨c2,c1⟩:=xc_one M.hold i (fun j hj hji=>by
  have hjn:j<n:=by have:=H.hol;omega
  have h0:=A.excl _ ps _ i j H.inv H.psl hin hjn hji hp
  have h3:=((H.abs j hjn).holds G).1
  rcases Decidable.em (M.hold.getD j 0=0)with h4|h4
  ·exact h4
  ·exact absurd h0 (h3 h4))
 have:=c1 h2
 omega
end
theorem xc_run{g:Rn→Rn}{L:List Int}{n:Nat}{mode:Int}(h:Q7e g L n mode)(h1:1≤n)(h2:n≤64)(hm:mode=1∨mode=2)(l:List (Int×Int))(hl:l.length≤1500)(j:Nat)(hj:j≤l.length):
 HsOk (Q5b g (l.take j) (Mt.start n mode L)).1.hold:=by
 obtain⟨P,K,I,N,V,C,nw,nv,cp,rfl,A,hfit,hst⟩:=h
 have e:(l.take j).length=j:=by rw[List.length_take];omega
 obtain⟨ps,H⟩:=hst (0+2*(l.take j).length) (by omega)
 obtain⟨q,h3,h4⟩:=Q6I A h1 h2 hm (l.take j) 0 _ ps rfl H
 exact xc_many A h4 h3
attribute [local go_sem↓] Go.wp_at_zero Go.wp_at_succ
theorem xmore{S0:List Nat}{w0 w w':World}{a b c n:Res}{v v':Value}{l1 l2:List Nt}{rs:List Res}(H:Has S0 w0 w (a::b::c::n:: .own 40 4 v l1.length (nts l1)::rs))
 (hown:w'.ownsRow 0 40 4 v' (l1.length+l2.length) (nts l1++nts l2)) (hg:w.grownBy w' v.ownBlock) (hat:v'.ownBlock=v.ownBlock∨v'.ownBlock=some w.heap.size):
 Has S0 w0 w' (a::b::c:: .own 40 4 v' (l1++l2).length (nts (l1++l2))::rs):=by
 rw[List.length_append,show nts (l1++l2)=nts l1++nts l2 by simp[nts]]
 have h1:Has S0 w0 w (.own 40 4 v l1.length (nts l1)::a::b::c::n::rs):=H.front 4 (by simp)
 have h2:=Has.grown h1 hown hg hat
 have h3:=(h2.front 4 (by simp)).tail
 exact((h3.front 3 (by simp)).front 3 (by simp)).front 3 (by simp)
set_option maxRecDepth 100000 in
theorem wholeExcludes_any{A:Option Addr}{n c:Nat}{l:List (Int×Int)}(W:World)(x:Lk)(hx:X5V x)(hr:Rd W 2 A n (l.flatMap Q2W)):
 Calls Tryz.prog 9 #[.agg x.cells.toArray, .slice A n c] W fun e w'=>e= .returned (.bool true)∧Touch [] W w':=by
 obtain⟨fid,g,Z,K,hnc,hlive⟩:=kind_excl (1+x.kind%6) (by omega)
 have hmade: ∀b w',Has [] W w' [.blk b x.cells.toArray]→Calls Tryz.prog 10 #[.agg x.cells.toArray] w' (Y1M [] W (1+x.kind%6) fid [.blk b x.cells.toArray] (x.st Z)):=fun b w' h=>X0C hx K h
 have hn: ∀w',Calls Tryz.prog 16 #[.agg x.cells.toArray] w' fun e w''=>e= .returned (.int .i64 x.k)∧Touch [] w' w'':=fun w'=>Y4a x hx w'
 have hst:x.st Z=Mt.start x.k (1+x.mode%2) (Z x.k x.base):=rfl
 have hk1:1≤x.k∧x.k≤64:=by have:=hx.2.1;unfold Lk.k;omega
 have hlv:=hlive x.k (1+x.mode%2) x.base hk1.1 hk1.2 (by omega) hx.2.2
 have hlenl:l.length=n:=by have:=hr.1;rw[Q3v (dec:=Q2W) (size:=2) (fun _=>rfl)]at this;omega
 have hex:n≤1500→ ∀j,j≤n→HsOk (Q5b g (l.take j) (x.st Z)).1.hold:=fun h j hj=>xc_run hlv hk1.1 hk1.2 (by omega) l (by omega) j (by omega)
 have hlen:(x.st Z).fs.length=x.k:=by simp[Lk.st,Mt.start]
 have hhold:(x.st Z).hold=List.replicate x.k 0:=rfl
 have HK:=Lib.hid K.ok
 generalize x.st Z=M0 at hmade hlen hex hhold
 generalize x.k=k at hn hlen hk1 hhold
 obtain⟨kk,mm,nn,bb⟩:=x
 simp only[Lk.cells]at hmade hn⊢
 generalize 1+kk%6=kd at hmade
 clear K hx hlive hst hlv
 have HMADE:=Lib.hid hmade
 have HN:=Lib.hid hn
 have HLEN:=Lib.hid hlen
 have HK1:=Lib.hid hk1
 have HEX:=Lib.hid hex
 have HNC:=Lib.hid hnc
 have HHO:=Lib.hid hhold
 have HLL:=Lib.hid hlenl
 have HR:=Lib.hid hr
 have HST:=Lib.hid (show Has [] W (W.alloc (.cells #[.int .u8 kk, .int .u8 mm, .int .u8 nn, .int .u32 bb] 24)) [.blk W.heap.size #[.int .u8 kk, .int .u8 mm, .int .u8 nn, .int .u32 bb]]from(Has.start [] W).X1F)
 obtain⟨i0,hi0,hz0,hz1,hz2⟩:=info_parts Q5S
 have HI:=Lib.hid (show _∧_∧_∧_ from⟨hi0,hz0,hz1,hz2⟩)
 have hk2:(k:Int)≤64:=by omega
 have hk3:(1:Int)≤(k:Int):=by omega
 clear hmade hn hlen hk1 hex hnc hhold hlenl hr hi0 hz0 hz1 hz2
 go_enter Tryz.func9,Tryz.ntmps9
 go_wp2_with fail
 refine(HMADE.out _ _ HST.out).mono ?_
 clear HMADE HST
 rintro e w1⟨m,a,x,tb,rfl,H1⟩
 generalize W.heap.size=b0 at*
 have HW:=Lib.hid H1
 clear H1
 by_cases h15:(n:Int)≤1500
 ·have hex:=HEX.out (by omega)
  have HEX2:=Lib.hid hex
  clear hex HEX
  have H0:Y5M [] W ⟨kd,fid,m,a,x,tb⟩ (.blk b0 #[.int .u8 kk, .int .u8 mm, .int .u8 nn, .int .u32 bb]::[]) (.slice none 0 0) (Q5b g (l.take 0) M0) w1:=⟨HW.out.1,(HW.out.2.Q9M 40 4).perm (List.perm_middle (l₁:=[_,_,_])).symm⟩
  have HS:=Lib.hid H0
  have HX0:=Lib.hid (show XInv M0 (Q5b g (l.take 0) M0)from XInv.zero (HEX2.out 0 (Nat.zero_le _)))
  clear H0 HW
  go_wp2_with fail
  go_loopw [6,7] (fun v i wr=> ∃j:Nat,j≤n∧i= .int .i64 j∧(Q5b g (l.take j) M0).2.length≤13*j∧XInv M0 (Q5b g (l.take j) M0)∧ ∃v',v'=v∧Y5M [] W ⟨kd,fid,m,a,x,tb⟩ (.blk b0 #[.int .u8 kk, .int .u8 mm, .int .u8 nn, .int .u32 bb]::[]) v' (Q5b g (l.take j) M0) wr) (fun _ i _=>n-(intOf i).toNat)
  case atStart=>exact⟨0,Nat.zero_le _,rfl,by simp[Q5b],HX0.out,_,rfl,HS.out⟩
  case round=>
   obtain⟨j,hj,rfl,hfew,hxi,v,rfl,hR⟩:=hrel
   clear HS HX0
   have hi1:(0:Int)≤(j:Int):=Int.natCast_nonneg _
   by_cases hjk:j<n
   ·have hi2:(j:Int)<(n:Int):=by omega
    have hBr:=HR.out.touch (Q2N.touch hR) (by simp)
    obtain⟨b,off,o,rfl,hbb,ho,hol⟩:=Q5j (dec:=Q2W) (size:=2) (by decide) (fun _=>rfl) hBr hjk
    obtain⟨c0,c1⟩:=Q4w (dec:=Q2W) (size:=2) (by decide) (fun _=>rfl) hBr hjk ho
    obtain⟨hjl,hjo⟩:=List.getElem?_eq_some_iff.1 ho
    have htk:=X1i g l M0 j hjl
    rw[hjo]at htk
    obtain⟨t,op⟩:=o
    have f0:=c1 0 _ rfl
    have f1:=c1 1 _ rfl
    simp only[Nat.add_zero]at f0 f1
    have hpf:=X8b HK.out hR.1 hR.words t op
    have hh0:=HEX2.out j (by omega)
    have hh1:=HEX2.out (j+1) (by omega)
    rw[htk]at hh1
    have hxn:=XInv.snoc HNC.out hxi hR.1 t op hh0 hh1
    have HTK:=Lib.hid htk
    have HRW:=Lib.hid hR
    have HFW:=Lib.hid hfew
    have HPF:=Lib.hid hpf
    have HXN:=Lib.hid hxn
    have HOK:=Lib.hid hh1
    clear c1 hBr ho hol hjo htk hR hfew hpf hxi hxn hh0 hh1
    generalize hRR:Q5b g (l.take j) M0=R at*
    clear hRR
    obtain⟨M1,nt1⟩:=R
    obtain⟨y0,y1,y2⟩:=(Has.at_ HRW.out.2 4 rfl).own
    go_wp2_with fail
    refine(Q7P HK.out HRW.out t op).mono ?_
    rintro e w3⟨nv,rfl,F3,H3⟩
    generalize hR2:M1.Q3R g t op=R2 at HTK HPF HXN HOK F3 H3⊢
    clear hR2 y0 y1 y2
    obtain⟨M2,ran2,⟨ak,ac,ax,ay,ao⟩,nt2⟩:=R2
    simp only[Ev.cells]
    simp only at F3 H3
    obtain⟨pn,cn,rfl⟩:=Q2p (Has.Q5B H3 3 rfl)
    have HH3:=Lib.hid H3
    have HF3:=Lib.hid F3
    clear H3 F3
    have hn15:=HLL.out
    go_wp2_with (first|(refine X0T rfl 35 (.tmp 33) 2 rfl (.slice pn nt2.length cn) (by kernel_rfl) ?_)|(at_builtin;refine Q2q (P:=Tryz.prog) _ rfl (.tmp 27) (.tmp 34) _ rfl 0 40 i0 _ 4 32 Tryz.underlying33 HI.out.1 HI.out.2.1 HI.out.2.2.1 HI.out.2.2.2 rfl (by omega) v nt1.length (nts nt1) rfl (Has.Q5B HH3.out 4 rfl) pn nt2.length cn (nts nt2) rfl (Rd.own (Has.Q5B HH3.out 3 rfl)) (X1E _) (by have h1:nt1.length≤13*j:=HFW.out;have h2:nt2.length≤13:=HPF.out;simp only[maxLen];omega) (by have h1:nt1.length≤13*j:=HFW.out;have h2:nt2.length≤13:=HPF.out;omega) (by omega) ?_;intro v' w' hown hg hat;have HF:=Lib.hid (xmore HH3.out hown hg hat);clear hown hg hat))
    have HS2:=Lib.hid (show Y5M [] W ⟨kd,fid,m,a,x,tb⟩ (.blk b0 #[.int .u8 kk, .int .u8 mm, .int .u8 nn, .int .u32 bb]::[]) v' (M2,nt1++nt2) w' from⟨HF3.out,HF.out⟩)
    have hl2:M2.hold.length=k:=by have:=HF3.out.hlen;have:=HXN.out.len;have:=HLEN.out;simp only at*;omega
    have hf2:M2.fs.length=k:=by have:=HXN.out.len;have:=HLEN.out;simp only at*;omega
    have hok2:=held_ok HOK.out HF3.out.hs
    have hfit: ∀i,i<k→M2.hold.getD i 0=0∨M2.hold.getD i 0=1∨M2.hold.getD i 0=2:=fun i _=>HF3.out.held i
    have HL2:=Lib.hid hl2
    have HF2:=Lib.hid hf2
    have HOK2:=Lib.hid hok2
    have HFIT:=Lib.hid hfit
    clear HF HH3 hl2 hf2 hok2 hfit f0 f1 HRW
    go_loopw [8,9,10] (fun u h c wr=> ∃t:Nat,t≤k∧(c= .int .i64 t∧u= .bool (decide (0<(M2.hold.take t).countP (· ==2)))∧h= .int .i64 ((M2.hold.take t).countP (· !=0):Nat))∧Y5M [] W ⟨kd,fid,m,a,x,tb⟩ (.blk b0 #[.int .u8 kk, .int .u8 mm, .int .u8 nn, .int .u32 bb]::[]) v' (M2,nt1++nt2) wr) (fun _ _ c _=>k-(intOf c).toNat)
    case atStart=>exact⟨0,Nat.zero_le _,⟨rfl,by simp,by simp⟩,HS2.out⟩
    case round=>
     obtain⟨t,ht,⟨rfl,rfl,rfl⟩,hR⟩:=hrel
     clear HS2
     have HS:=Lib.hid hR
     obtain⟨z0,z1,z2⟩:=(Has.at_ hR.2 4 rfl).own
     clear hR
     have hj1:(0:Int)≤(t:Int):=Int.natCast_nonneg _
     go_wp2_with fail
     refine(HN.out _).mono ?_
     rintro e w4⟨rfl,t4⟩
     have HS4:=Lib.hid (show Y5M [] W ⟨kd,fid,m,a,x,tb⟩ (.blk b0 #[.int .u8 kk, .int .u8 mm, .int .u8 nn, .int .u32 bb]::[]) v' (M2,nt1++nt2) w4 from Q2N.grow HS.out t4)
     clear HS t4 z0 z1 z2
     by_cases htk:t<k
     ·have hj2:(t:Int)<(k:Int):=by omega
      have hhold:=Q6E HS4.out t (by have:=HF2.out;show t<M2.fs.length;omega)
      have hhd:=HFIT.out t htk
      have q2:=countP_more (· ==2) M2.hold t (by have:=HL2.out;omega)
      have q3:=countP_more (· !=0) M2.hold t (by have:=HL2.out;omega)
      have hc3:(M2.hold.take t).countP (· !=0)≤t:=Nat.le_trans List.countP_le_length (by rw[List.length_take];omega)
      simp only at hhold
      generalize M2.hold.getD t 0=hv at hhold hhd q2 q3
      generalize (M2.hold.take t).countP (· ==2)=ca at q2⊢
      generalize (M2.hold.take t).countP (· !=0)=cb at q3 hc3⊢
      have HHOLD:=Lib.hid hhold
      have Q2:=Lib.hid q2
      have Q3:=Lib.hid q3
      clear hhold q2 q3
      generalize hdb:decide (0<ca)=db
      have HDB:=Lib.hid hdb
      clear hdb
      cases db with
      |true=>
       have hca:0<ca:=of_decide_eq_true HDB.out
       rcases hhd with rfl|rfl|rfl
       ·go_wp2_with fail
        refine HHOLD.out.mono ?_
        rintro e w5⟨rfl,rfl⟩
        go_wp2_with fail
        exact⟨⟨t+1,by omega,⟨by go_num,by rw[Q2.out];simp<;>omega,by rw[Q3.out];simp<;>go_num⟩,HS4.out⟩,by simp[intOf];omega⟩
       ·go_wp2_with fail
        refine HHOLD.out.mono ?_
        rintro e w5⟨rfl,rfl⟩
        go_wp2_with fail
        exact⟨⟨t+1,by omega,⟨by go_num,by rw[Q2.out];simp<;>omega,by rw[Q3.out];simp<;>go_num⟩,HS4.out⟩,by simp[intOf];omega⟩
       ·go_wp2_with fail
        refine HHOLD.out.mono ?_
        rintro e w5⟨rfl,rfl⟩
        go_wp2_with fail
        exact⟨⟨t+1,by omega,⟨by go_num,by rw[Q2.out];simp<;>omega,by rw[Q3.out];simp<;>go_num⟩,HS4.out⟩,by simp[intOf];omega⟩
      |false=>
       have hca:ca=0:=by have:=of_decide_eq_false HDB.out;omega
       subst hca
       rcases hhd with rfl|rfl|rfl
       ·go_wp2_with fail
        refine HHOLD.out.mono ?_
        rintro e w5⟨rfl,rfl⟩
        go_wp2_with fail
        refine HHOLD.out.mono ?_
        rintro e w5⟨rfl,rfl⟩
        go_wp2_with fail
        exact⟨⟨t+1,by omega,⟨by go_num,by rw[Q2.out];simp<;>omega,by rw[Q3.out];simp<;>go_num⟩,HS4.out⟩,by simp[intOf];omega⟩
       ·go_wp2_with fail
        refine HHOLD.out.mono ?_
        rintro e w5⟨rfl,rfl⟩
        go_wp2_with fail
        refine HHOLD.out.mono ?_
        rintro e w5⟨rfl,rfl⟩
        go_wp2_with fail
        exact⟨⟨t+1,by omega,⟨by go_num,by rw[Q2.out];simp<;>omega,by rw[Q3.out];simp<;>go_num⟩,HS4.out⟩,by simp[intOf];omega⟩
       ·go_wp2_with fail
        refine HHOLD.out.mono ?_
        rintro e w5⟨rfl,rfl⟩
        go_wp2_with fail
        refine HHOLD.out.mono ?_
        rintro e w5⟨rfl,rfl⟩
        go_wp2_with fail
        exact⟨⟨t+1,by omega,⟨by go_num,by rw[Q2.out];simp<;>omega,by rw[Q3.out];simp<;>go_num⟩,HS4.out⟩,by simp[intOf];omega⟩
     ·have htk2:t=k:=by omega
      have hj2:(k:Int)≤(t:Int):=by omega
      subst htk2
      have e2:(M2.hold.take t).countP (· ==2)=M2.hold.countP (· ==2):=by rw[←HL2.out,List.take_length]
      have e3:(M2.hold.take t).countP (· !=0)=M2.hold.countP (· !=0):=by rw[←HL2.out,List.take_length]
      have hno: ¬(0<M2.hold.countP (· ==2)∧M2.hold.countP (· !=0)>1):=HOK2.out
      rw[e2,e3]
      clear e2 e3
      generalize List.countP (fun x=>x==2) M2.hold=ca at hno⊢
      generalize List.countP (fun x=>x !=0) M2.hold=cb at hno⊢
      by_cases hca:0<ca
      ·have hcb:((cb:Int)>1)=False:=by simp;omega
       have hcb2:(cb:Int)≤1:=by omega
       have hdb:decide (0<ca)=true:=decide_eq_true hca
       rw[hdb]
       clear hno hcb
       go_wp2_with fail
       exact⟨⟨j+1,by omega,by go_num,by rw[HTK.out];have h1:nt1.length≤13*j:=HFW.out;have h2:nt2.length≤13:=HPF.out;simp;omega,by rw[HTK.out];exact HXN.out,_,rfl,by rw[HTK.out];exact HS4.out⟩,by simp[intOf];omega⟩
      ·have hdb:decide (0<ca)=false:=decide_eq_false hca
       rw[hdb]
       clear hno
       go_wp2_with fail
       exact⟨⟨j+1,by omega,by go_num,by rw[HTK.out];have h1:nt1.length≤13*j:=HFW.out;have h2:nt2.length≤13:=HPF.out;simp;omega,by rw[HTK.out];exact HXN.out,_,rfl,by rw[HTK.out];exact HS4.out⟩,by simp[intOf];omega⟩
   ·have hjk2:j=n:=by omega
    have hi2:(n:Int)≤(j:Int):=by omega
    obtain⟨pn,cn,rfl⟩:=Q2p (Has.Q5B hR.2 3 rfl)
    generalize Q5b g (l.take j) M0=R at*
    have hck: ∀W',Y5M [] W ⟨kd,fid,m,a,x,tb⟩ (.blk b0 #[.int .u8 kk, .int .u8 mm, .int .u8 nn, .int .u32 bb]::[]) (.slice pn R.2.length cn) R W'→Calls Tryz.prog 28 #[.int .i64 k, .slice pn R.2.length cn] W' fun e w''=>e= .returned (.tuple #[.int .i64 0, .int .i64 0])∧Touch [] W' w'':=fun W' HX=>
     xcheck_ok (Rd.own (Has.Q5B HX.2 3 rfl)) HK1.out.1 HK1.out.2 (by omega) (fun y hy=>by have:=hxi.tasks y hy;rw[HLEN.out]at this;exact this) (fun q _=>by have:=hxi.each q;rw[HHO.out]at this;exact this)
    have HCK:=Lib.hid hck
    have HRW:=Lib.hid hR
    obtain⟨z0,z1,z2⟩:=(Has.at_ hR.2 4 rfl).own
    clear hjk2 hR hxi hck
    go_wp2_with fail
    refine(HN.out _).mono ?_
    rintro e w4⟨rfl,t4⟩
    have HS4:=Lib.hid (show Y5M [] W ⟨kd,fid,m,a,x,tb⟩ (.blk b0 #[.int .u8 kk, .int .u8 mm, .int .u8 nn, .int .u32 bb]::[]) (.slice pn R.2.length cn) R w4 from Q2N.grow HRW.out t4)
    clear HRW t4 z0 z1 z2
    go_wp2_with fail
    refine(HCK.out _ HS4.out).mono ?_
    rintro e w5⟨rfl,t5⟩
    have HS5:=Lib.hid ((Q2N.touch HS4.out).trans t5)
    clear t5 HS4 HCK
    go_wp2_with fail
    refine(X9A _).mono ?_
    rintro e w' ⟨rfl,t⟩
    have HT:=Lib.hid t
    clear t
    go_wp2_with fail
    go_ret
    exact⟨by simp,HS5.out.trans HT.out⟩
 ·have h1501:(1500:Int)<(n:Int):=by omega
  clear h15
  go_wp2_with fail
  refine(X9A _).mono ?_
  rintro e w' ⟨rfl,t⟩
  have HT:=Lib.hid t
  clear t
  go_wp2_with fail
  go_ret
  exact⟨by simp,HW.out.touch.trans HT.out⟩
end Go.Proofs.YthnimpkoidablaaGreat.Z
