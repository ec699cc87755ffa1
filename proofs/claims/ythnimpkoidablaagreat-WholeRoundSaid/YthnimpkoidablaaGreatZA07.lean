import Derived.Test.YthnimpkoidablaaGreatZA05
set_option linter.unusedVariables false
set_option linter.unusedSimpArgs false
namespace Go.Proofs.YthnimpkoidablaaGreat.Z
open Go.RowKit
section
open Go
section
variable {P:Program}{ops:Array Oper}{Q:Exit→Act→World→Prop}{c:Nat}
def X0g(P:Program)(ops:Array Oper)(o:Oper)(v:Value)(a:Act)(w:World):Prop:=
 (Region.wanted o (yielded ops a.tmps)=true∧(∀W,Touch [] w W→ ∃f args,(execOp a.eval o).run P W= .ok (.enter f args) W∧Calls P f args W fun e w'=>e= .returned v∧W=w'))∨(Region.wanted o (yielded ops a.tmps)=false∧v=undef)
theorem X0g.wpOp{i:Nat}{o:Oper}{v:Value}{a:Act}{w:World}(hi:ops[i]? =some o)(hy:X0g P ops o v a w){K:Act→World→Prop}(h:K (a.put o.dst v) w):wpOp P ops Q i K a w:=by
 unfold Go.wpOp
 simp only[hi]
 rcases hy with⟨hw,hf⟩|⟨hw,rfl⟩
 ·obtain⟨f,args,hv,hc⟩:=hf w (Touch.refl _ _)
  simp only[hw,if_true,Oper.wp,hv,Oper.upon]
  refine .inl (Calls.mono hc ?_)
  rintro e w' ⟨rfl,rfl⟩
  exact h
 ·simp only[hw,Bool.false_eq_true,if_false];exact h
def Q3f(P:Program)(ops:Array Oper)(c i:Nat)(o:Oper)(v:Value)(a:Act)(w:World):Prop:=if i=c then X0g P ops o v a w else Q3p P ops o v a w
theorem Q3f.of_same{i:Nat}{o:Oper}{v:Value}{a a':Act}{w:World}(hy:Q3f P ops c i o v a w)(he:execOp a'.eval o=execOp a.eval o)(hw:Region.wanted o (yielded ops a'.tmps)=Region.wanted o (yielded ops a.tmps)):Q3f P ops c i o v a' w:=by
 unfold Q3f at*
 split
 ·rename_i h
  rw[if_pos h]at hy
  unfold X0g at*
  rw[he,hw]
  exact hy
 ·rename_i h
  rw[if_neg h]at hy
  exact hy.of_same he hw
def Q2h(P:Program)(ops:Array Oper)(c:Nat)(Q:Exit→Act→World→Prop)(i:Nat)(K:Act→World→Prop)(a:Act)(w:World):Prop:=
 if i=c then∃o v,ops[i]? =some o∧X0g P ops o v a w∧K (a.put o.dst v) w else Q3q P ops Q i K a w
def Q6h(P:Program)(ops:Array Oper)(c:Nat)(Q:Exit→Act→World→Prop):List Nat→Act→World→Prop
 |[],a,w=>Q .normal a w
 |i::rest,a,w=>Q2h P ops c Q i (Q6h P ops c Q rest) a w
theorem X4r{i:Nat}{a:Act}{w:World}{K K':Act→World→Prop}(h: ∀a w,K a w→K' a w)(hh:Q2h P ops c Q i K a w):Q2h P ops c Q i K' a w:=by
 unfold Q2h at*
 split
 ·rename_i hc
  rw[if_pos hc]at hh
  obtain⟨o,v,h1,h2,h3⟩:=hh
  exact⟨o,v,h1,h2,h _ _ h3⟩
 ·rename_i hc
  rw[if_neg hc]at hh
  exact Q9q h hh
theorem X4q{i:Nat}{a:Act}{w:World}{K:Act→World→Prop}(hh:Q2h P ops c Q i K a w):wpOp P ops Q i K a w:=by
 unfold Q2h at hh
 split at hh
 ·obtain⟨o,v,h1,h2,h3⟩:=hh
  exact h2.wpOp h1 h3
 ·exact hh.2
theorem Q8F{i:Nat}{oi:Oper}{a:Act}{w:World}{K:Act→World→Prop}(hQ:Calm Q)(hi:ops[i]? =some oi)(hb:(i==c||Q2x oi)=true)(h:Q2h P ops c Q i K a w): ∃v,Q3f P ops c i oi v a w∧K (a.put oi.dst v) w:=by
 unfold Q2h at h
 unfold Q3f
 split at h
 ·rename_i hc
  obtain⟨o,v,h1,h2,h3⟩:=h
  rw[hi]at h1
  cases h1
  exact⟨v,by rw[if_pos hc];exact h2,h3⟩
 ·rename_i hc
  have hb':Q2x oi=true:=by simpa[hc]using hb
  obtain⟨v,h1,h2⟩:=Q8G hQ hi hb' h.2
  exact⟨v,by rw[if_neg hc];exact h1,h2⟩
theorem Q3f.Q2h{i:Nat}{oi:Oper}{v:Value}{a:Act}{w:World}{K:Act→World→Prop}(hi:ops[i]? =some oi)(hb:(i==c||Q2x oi)=true)(h:Q3f P ops c i oi v a w)(hk:K (a.put oi.dst v) w):Q2h P ops c Q i K a w:=by
 unfold Z.Q2h
 unfold Q3f at h
 split
 ·rename_i hc
  rw[if_pos hc]at h
  exact⟨oi,v,hi,h,hk⟩
 ·rename_i hc
  rw[if_neg hc]at h
  have hb':Q2x oi=true:=by simpa[hc]using hb
  exact⟨fun o ho _=>by rw[hi]at ho;cases ho;exact Q4G hb',h.wpOp hi hk⟩
theorem Y1W{i j:Nat}{oi oj:Oper}{K:Act→World→Prop}{a:Act}{w:World}(hQ:Calm Q)(hi:ops[i]? =some oi)(hj:ops[j]? =some oj)
 (hsi: ∀cs b,oi.op≠ .select cs b) (hsj: ∀cs b,oj.op≠ .select cs b) (hli:(i==c||Q2x oi)=true) (hlj:(j==c||Q2x oj)=true) (hap:oi.apart ops oj=true)
 (h:Q2h P ops c Q j (Q2h P ops c Q i K) a w):Q2h P ops c Q i (Q2h P ops c Q j K) a w:=by
 obtain⟨a1,a2,a3⟩:=Oper.apart_spec hap
 obtain⟨u,hu,hk⟩:=Q8F hQ hj hlj h
 obtain⟨v,hv,hk⟩:=Q8F hQ hi hli hk
 have hv':Q3f P ops c i oi v a w:=hv.of_same (execOp_put oi hsi a oj.dst u a3).symm (wanted_put oi a oj.dst u a3).symm
 have hu':Q3f P ops c j oj u (a.put oi.dst v) w:=hu.of_same (execOp_put oj hsj a oi.dst v a1) (wanted_put oj a oi.dst v a1)
 refine hv'.Q2h hi hli (hu'.Q2h hj hlj ?_)
 rw[Act.put_comm a v u a2]
 exact hk
theorem Y6j{i:Nat}{oi oj:Oper}{K:Act→World→Prop}{a:Act}{w:World}(hQ:Calm Q)(hi:ops[i]? =some oi)(hj:ops[c]? =some oj)(hic:i≠c)
 (hsi: ∀cs b,oi.op≠ .select cs b) (hsj: ∀cs b,oj.op≠ .select cs b) (hb:Q3X P oi=true) (hap:oi.apart ops oj=true)
 (h:Q2h P ops c Q i (Q2h P ops c Q c K) a w):Q2h P ops c Q c (Q2h P ops c Q i K) a w:=by
 have hcc:(c==c||Q2x oj)=true:=by simp
 have h':Q3q P ops Q i (Q2h P ops c Q c K) a w:=by unfold Q2h at h;rw[if_neg hic]at h;exact h
 obtain⟨v,hy,hk⟩:=Q3J hQ hi hb h'
 obtain⟨a1,a2,a3⟩:=Oper.apart_spec hap
 obtain⟨u,hu,hk⟩:=Q8F hQ hj hcc hk
 have hu':Q3f P ops c c oj u a w:=hu.of_same (execOp_put oj hsj a oi.dst v a1).symm (wanted_put oj a oi.dst v a1).symm
 refine hu'.Q2h hj hcc ?_
 unfold Q2h
 rw[if_neg hic]
 have hy2:Yields P ops oi v (a.put oj.dst u):=hy.of_same (execOp_put oi hsi a oj.dst u a3) (wanted_put oi a oj.dst u a3)
 refine⟨fun o ho hw=> ?_,Yields.wpOp hi hy2 ?_⟩
 ·rw[hi]at ho
  cases ho
  exact(Q6R (ops:=ops) a3).2 (h'.1 _ hi (by rw[←wanted_put oi a oj.dst u a3];exact hw))
 ·rw[←Act.put_comm a v u a2]
  exact hk
theorem Y6h{i:Nat}{oi oj:Oper}{K:Act→World→Prop}{a:Act}{w:World}(hQ:Calm Q)(hi:ops[i]? =some oi)(hj:ops[c]? =some oj)(hic:i≠c)
 (hsi: ∀cs b,oi.op≠ .select cs b) (hsj: ∀cs b,oj.op≠ .select cs b) (hb:Q3X P oi=true) (hap:oi.apart ops oj=true)
 (h:Q2h P ops c Q c (Q2h P ops c Q i K) a w):Q2h P ops c Q i (Q2h P ops c Q c K) a w:=by
 have hcc:(c==c||Q2x oj)=true:=by simp
 obtain⟨u,hu,hk⟩:=Q8F hQ hj hcc h
 unfold Q2h at hk
 rw[if_neg hic]at hk
 obtain⟨v,hy,hk2⟩:=Q3J hQ hi hb hk
 obtain⟨a1,a2,a3⟩:=Oper.apart_spec hap
 have hy2:Yields P ops oi v a:=hy.of_same (execOp_put oi hsi a oj.dst u a3).symm (wanted_put oi a oj.dst u a3).symm
 have hu':Q3f P ops c c oj u (a.put oi.dst v) w:=hu.of_same (execOp_put oj hsj a oi.dst v a1) (wanted_put oj a oi.dst v a1)
 unfold Q2h
 rw[if_neg hic]
 refine⟨fun o ho hw=> ?_,Yields.wpOp hi hy2 ?_⟩
 ·rw[hi]at ho
  cases ho
  exact(Q6R (ops:=ops) a3).1 (hk.1 _ hi (by rw[wanted_put oi a oj.dst u a3];exact hw))
 ·refine hu'.Q2h hj hcc ?_
  rw[Act.put_comm a v u a2]
  exact hk2
theorem Q3f.grow{i:Nat}{o:Oper}{v:Value}{a:Act}{w w':World}(hl:(i==c||Q2x o)=true)(hy:Q3f P ops c i o v a w)(t:Touch [] w w'):Q3f P ops c i o v a w':=by
 unfold Q3f at*
 split
 ·rename_i h
  rw[if_pos h]at hy
  rcases hy with⟨hw,hf⟩|hy
  ·exact .inl ⟨hw,fun W t2=>hf W (t.trans t2)⟩
  ·exact .inr hy
 ·rename_i h
  rw[if_neg h]at hy
  exact Q3p.grow (by simpa[h]using hl) hy t
theorem X9J{i:Nat}(h:i≠c)(K:Act→World→Prop):Q2h P ops c Q i K=Q3q P ops Q i K:=by
 funext a w
 unfold Q2h
 rw[if_neg h]
theorem Y6c{i:Nat}{oi ok:Oper}{K:Act→World→Prop}{a:Act}{w:World}(hQ:Calm Q)(hi:ops[i]? =some oi)(hk:ops[c]? =some ok)(hic:i≠c)
 (hsi: ∀cs b,oi.op≠ .select cs b) (hsk: ∀cs b,ok.op≠ .select cs b) (hni:Q9k oi=true) (hap:oi.apart ops ok=true)
 (h:Q2h P ops c Q c (Q2h P ops c Q i K) a w):Q2h P ops c Q i (Q2h P ops c Q c K) a w:=by
 have hcc:(c==c||Q2x ok)=true:=by simp
 obtain⟨a1,a2,a3⟩:=Oper.apart_spec hap
 obtain⟨u,hu,hh⟩:=Q8F hQ hk hcc h
 unfold Q2h at hh
 rw[if_neg hic]at hh
 have h2:=hh.2
 have keep: ∀(v:Value) (w':World),Touch [] w w'→K ((a.put ok.dst u).put oi.dst v) w'→Q2h P ops c Q c K (a.put oi.dst v) w':=fun v w' t hK=>
  ((hu.grow hcc t).of_same (execOp_put ok hsk a oi.dst v a1) (wanted_put ok a oi.dst v a1)).Q2h hk hcc (by rw[Act.put_comm a v u a2];exact hK)
 rw[X9J hic]
 refine⟨fun o ho _=>by rw[hi]at ho;cases ho;exact X0y hni,?_⟩
 unfold wpOp at h2⊢
 simp only[hi]at h2⊢
 rw[wanted_put oi a ok.dst u a3]at h2
 split
 ·rename_i hw
  simp only[hw,if_true]at h2
  rcases h2 with h2|⟨_,h2⟩
  case inr=>exact absurd h2 hQ.out
  refine .inl ?_
  unfold Oper.wp at h2⊢
  rw[execOp_put oi hsi a ok.dst u a3]at h2
  obtain⟨s,hs,hg⟩:=Q9N (P:=P) (a:=a) hni
  rw[hs]at h2⊢
  rw[Sem.run_bind]at h2⊢
  cases hr:s.run P w with
  |ok v w'=>
   rw[hr]at h2
   have:=keep v w' (hg _ _ _ hr) h2
   exact this
  |halt h' w'=>
   rw[hr]at h2
   obtain⟨n,w2,e2⟩:=Q7d hQ h2
   cases e2
 ·rename_i hw
  simp only[hw]at h2
  have:=keep undef w (Touch.refl _ _) h2
  exact this
def Q8S(P:Program)(ops:Array Oper)(c k i:Nat):Bool:=
 match ops[k]?,ops[i]? with
 |some x,some y=>x.apart ops y &&y.apart ops x &&k !=i &&(if k=c then Q3X P y||(Q2x y||Q9k y)else if i=c then Q3X P x||Q2x x else Q9Z P ops k i)
 |_,_=>false
theorem Y0e(hQ:Calm Q)(hs:Region.noSelect ops=true){k i:Nat}(h:Q8S P ops c k i=true){K:Act→World→Prop}{a:Act}{w:World}
 (hh:Q2h P ops c Q k (Q2h P ops c Q i K) a w):Q2h P ops c Q i (Q2h P ops c Q k K) a w:=by
 unfold Q8S at h
 split at h
 ·rename_i x y hx hy
  simp only[Bool.and_eq_true,bne_iff_ne,ne_eq]at h
  obtain⟨⟨⟨h1,h2⟩,hne⟩,h3⟩:=h
  have sx:=Region.noSelect_spec hs k x
  have sy:=Region.noSelect_spec hs i y
  split at h3
  ·rename_i hk
   subst hk
   simp only[Bool.or_eq_true]at h3
   rcases h3 with h3|h3|h3
   ·exact Y6h hQ hy hx (fun e=>hne e.symm) (fun cs b=>sy cs b hy) (fun cs b=>sx cs b hx) h3 h2 hh
   ·exact Y1W hQ hy hx (fun cs b=>sy cs b hy) (fun cs b=>sx cs b hx) (by simp[h3]) (by simp) h2 hh
   ·exact Y6c hQ hy hx (fun e=>hne e.symm) (fun cs b=>sy cs b hy) (fun cs b=>sx cs b hx) h3 h2 hh
  ·rename_i hk
   split at h3
   ·rename_i hi
    subst hi
    simp only[Bool.or_eq_true]at h3
    rcases h3 with h3|h3
    ·exact Y6j hQ hx hy hne (fun cs b=>sx cs b hx) (fun cs b=>sy cs b hy) h3 h1 hh
    ·exact Y1W hQ hy hx (fun cs b=>sy cs b hy) (fun cs b=>sx cs b hx) (by simp) (by simp[h3]) h2 hh
   ·rename_i hi
    have e1: ∀K,Q2h P ops c Q k K=Q3q P ops Q k K:=fun K=>by funext a w;unfold Q2h;rw[if_neg hk]
    have e2: ∀K,Q2h P ops c Q i K=Q3q P ops Q i K:=fun K=>by funext a w;unfold Q2h;rw[if_neg hi]
    rw[e1,e2]at hh
    rw[e2,e1]
    exact X6Z hQ hs h3 hh
 ·cases h
theorem Q9R(hQ:Calm Q)(hs:Region.noSelect ops=true){i:Nat}{t2:List Nat}: ∀(t1:List Nat),(∀k,k∈t1→Q8S P ops c k i=true)→ ∀(a:Act) (w:World),
 Q6h P ops c Q (t1++i::t2) a w→Q6h P ops c Q (i::(t1++t2)) a w
 |[],_,a,w,h=>h
 |k::t1,hc,a,w,h=>by
  have h1:Q2h P ops c Q k (Q2h P ops c Q i (Q6h P ops c Q (t1++t2))) a w:=
   X4r (fun a' w' h'=>Q9R hQ hs t1 (fun k hk=>hc k (List.mem_cons_of_mem _ hk)) a' w' h') h
  exact Y0e hQ hs (hc k (by simp)) h1
def X0G(P:Program)(ops:Array Oper)(c:Nat)(M:Array Nat)(i:Nat):Bool:=
 (match ops[i]? with
  |some o=>o.after.all fun e=> !Region.binds .any e||decide (e.on<i)
  |none=>true) &&((List.range i).all fun k=>(M.getD i 0).testBit k||Q8S P ops c k i) &&Q7J ops M i
def Q4g(P:Program)(ops:Array Oper)(c:Nat)(M:Array Nat):Bool:=Region.noSelect ops &&(List.range ops.size).all (X0G P ops c M)
def Y4j(P:Program)(ops:Array Oper)(c:Nat):Bool:=Q4g P ops c (Region.before ops)
theorem Q9V{M:Array Nat}(h:Q4g P ops c M=true){i:Nat}{o:Oper}(ho:ops[i]? =some o){e:Edge}(he:e∈o.after)(hb:Region.binds .any e=true):e.on<i:=by
 unfold Q4g at h
 simp only[Bool.and_eq_true,List.all_eq_true,List.mem_range]at h
 have h1:=h.2 i (Array.getElem?_eq_some_iff.1 ho).1
 unfold X0G at h1
 simp only[Bool.and_eq_true,ho]at h1
 have h2:=Array.all_eq_true_iff_forall_mem.1 h1.1.1 e he
 simpa[hb]using h2
theorem X1J{M:Array Nat}(h:Q4g P ops c M=true){listed:Array Bool}(hc:Closed ops listed): ∀(i:Nat) (o:Oper),ops[i]? =some o→(∀e∈o.after,Region.binds .any e=true→listed.getD e.on false=true)→
 ∀k,k<i→(M.getD i 0).testBit k=true→listed.getD k false=true:=by
 intro i
 induction i using Nat.strongRecOn with
 |ind i ih=>
  intro o ho hd k hk hb
  have h':=h
  unfold Q4g at h'
  simp only[Bool.and_eq_true,List.all_eq_true,List.mem_range]at h'
  have h1:=h'.2 i (Array.getElem?_eq_some_iff.1 ho).1
  unfold X0G at h1
  simp only[Bool.and_eq_true]at h1
  have h2:=h1.2
  unfold Q7J at h2
  simp only[List.all_eq_true,List.mem_range,ho]at h2
  have h3:=h2 k hk
  simp only[hb,Bool.not_true,Bool.false_or]at h3
  obtain⟨e,he,h4⟩:=Array.any_eq_true'.1 h3
  simp only[Bool.and_eq_true,Bool.or_eq_true,beq_iff_eq,decide_eq_true_eq]at h4
  have hlt:=Q9V h ho he h4.1
  have hl:=hd e he h4.1
  rcases h4.2 with h5|⟨hke,h5⟩
  ·rw[←h5];exact hl
  ·have hn:e.on<ops.size:=Nat.lt_trans hlt (Array.getElem?_eq_some_iff.1 ho).1
   exact ih e.on hlt ops[e.on] (Array.getElem?_eq_getElem hn) (hc e.on _ hl (Array.getElem?_eq_getElem hn)) k hke h5
theorem X2a{M:Array Nat}(hQ:Calm Q)(h:Q4g P ops c M=true): ∀(fuel:Nat) (listed:Array Bool) (a:Act) (w:World),listed.size=ops.size→Closed ops listed→(Q2C ops.size listed).length≤fuel→
 Q6h P ops c Q (Q2C ops.size listed) a w→wpAny P .any ops Q fuel listed a w:=by
 have hs:Region.noSelect ops=true:=by
  unfold Q4g at h
  simp only[Bool.and_eq_true]at h
  exact h.1
 have hat: ∀i,i<ops.size→ ∀k,k<i→(M.getD i 0).testBit k=true∨Q8S P ops c k i=true:=by
  intro i hi k hk
  unfold Q4g at h
  simp only[Bool.and_eq_true,List.all_eq_true,List.mem_range]at h
  have h1:=h.2 i hi
  unfold X0G at h1
  simp only[Bool.and_eq_true,List.all_eq_true,List.mem_range,Bool.or_eq_true]at h1
  exact h1.1.2 k hk
 have hready: ∀(listed:Array Bool),Region.ready .any ops listed=[]→Closed ops listed→Q2C ops.size listed=[]:=by
  intro listed hr hc
  cases ht:Q2C ops.size listed with
  |nil=>rfl
  |cons j t=>
   exfalso
   have hj:j∈Q2C ops.size listed:=by rw[ht];simp
   obtain⟨hjn,hj0⟩:=Q6a.1 hj
   have hle: ∀k,k∈Q2C ops.size listed→j≤k:=by
    have hp:(Q2C ops.size listed).Pairwise (· < ·):=by
     unfold Q2C
     exact List.Pairwise.filter _ List.pairwise_lt_range
    rw[ht]at hp
    intro k hk
    rw[ht]at hk
    rcases List.mem_cons.1 hk with rfl|hk
    ·exact Nat.le_refl _
    ·exact Nat.le_of_lt ((List.pairwise_cons.1 hp).1 k hk)
   have:j∈Region.ready .any ops listed:=by
    rw[mem_ready]
    refine⟨hj0,ops[j],Array.getElem?_eq_getElem hjn,fun e he hb=> ?_⟩
    have hlt:=Q9V h (Array.getElem?_eq_getElem hjn) he hb
    cases hl:listed.getD e.on true with
    |true=>
     by_cases hin:e.on<listed.size
     ·simpa[hin]using hl
     ·simp[Array.getElem?_eq_none (Nat.le_of_not_lt hin)]at hl
      have h2:=hle e.on
      by_cases hin2:listed.size≤e.on
      ·exfalso
       have h3:e.on<ops.size:=Nat.lt_trans hlt hjn
       have h4: ¬(j<listed.size):=fun hh=>by
        exact absurd (Nat.lt_trans hlt hh) (Nat.not_lt.2 hin2)
       simp[Array.getElem?_eq_none (Nat.le_of_not_lt h4)]at hj0
      ·omega
    |false=>
     have:=hle e.on (Q6a.2 ⟨Nat.lt_trans hlt hjn,hl⟩)
     omega
   rw[hr]at this
   cases this
 intro fuel
 induction fuel with
 |zero=>
  intro listed a w hsz hc hl hh
  have hnil:Q2C ops.size listed=[]:=List.eq_nil_of_length_eq_zero (by omega)
  rw[hnil]at hh
  refine⟨?_,hh⟩
  cases hr:Region.ready .any ops listed with
  |nil=>rfl
  |cons j t=>
   exfalso
   have hj:j∈Region.ready .any ops listed:=by rw[hr];simp
   obtain⟨h0,o,ho,_⟩:=mem_ready.1 hj
   have:j∈Q2C ops.size listed:=Q6a.2 ⟨(Array.getElem?_eq_some_iff.1 ho).1,h0⟩
   rw[hnil]at this
   cases this
 |succ fuel ih=>
  intro listed a w hsz hc hl hh
  refine⟨fun hr=> ?_,fun i hi=> ?_⟩
  ·rw[hready listed hr hc]at hh
   exact hh
  ·obtain⟨h0,o,ho,hd⟩:=mem_ready.1 hi
   have hin:=(Array.getElem?_eq_some_iff.1 ho).1
   obtain⟨t1,t2,e1,e2,ht⟩:=Q9G hin hsz h0
   rw[e1]at hh hl
   have hmv:=Q9R hQ hs t1 (fun k hk=>by
    obtain⟨hki,hk0⟩:=ht k hk
    rcases hat i hin k hki with hb|hb
    ·have:=X1J h hc i o ho hd k hki hb
     exfalso
     have hks:k<listed.size:=by omega
     simp[hks]at this hk0
     rw[hk0]at this
     cases this
    ·exact hb) a w hh
   refine wpOp_mono (fun a' w' h3=>ih _ a' w' (by simpa using hsz) ?_ ?_ ?_) (X4q hmv)
   ·intro x ox hx hox e he hb
    by_cases hxi:i=x
    ·subst hxi
     rw[ho]at hox
     cases hox
     exact getD_set_true (hd e he hb)
    ·rw[getD_set_ne false hxi]at hx
     exact getD_set_true (hc x ox hx hox e he hb)
   ·rw[e2]
    simp only[List.length_append,List.length_cons]at hl⊢
    omega
   ·rw[e2]
    exact h3
theorem X0S{R:Exit→Act→World→Prop}{i:Nat}{K:Act→World→Prop}{a:Act}{w:World}(h:wpOp P ops (Only R) i K a w):wpOp P ops (Only Q) i K a w:=by
 unfold wpOp at*
 split at h
 ·exact h
 ·rename_i o ho
  split at h
  ·rename_i hw
   rw[if_pos hw]
   rcases h with h|⟨_,h⟩
   case inr=>exact absurd h Q3P.out
   refine .inl ?_
   unfold Oper.wp at*
   generalize (execOp a.eval o).run P w=r at*
   cases r with
   |ok n w'=>
    cases n<;>simp only[Oper.upon]at h⊢
    case value u=>exact h
    case skip=>exact h
    case defer d=>exact h
    case enter f args=>
     refine Calls.mono h fun e w'' he=> ?_
     cases e with
     |returned u=>exact he
     |panicked c=>exact absurd he (Q3P.panic _ _ _)
     |outgrown=>exact absurd he Q3P.out
    case row row args=>exact h
   |halt x w'=>
    cases x<;>simp only[Oper.upon]at h⊢
    case panic u=>exact absurd h (Q3P.panic _ _ _)
  ·rename_i hw
   rw[if_neg hw]
   exact h
theorem Q4Q{R:Exit→Act→World→Prop}{t:List Nat}(hR: ∀a w,R .normal a w→Q6h P ops c (Only Q) t a w): ∀(l:List Oper) (k:Nat),(∀j,j<l.length→l[j]? =ops[k+j]?)→(c<k∨k+l.length≤c)→ ∀(a:Act) (w:World),wpList P ops (Only R) (Q0G l) a w→Q6h P ops c (Only Q) (List.range' k l.length++t) a w
 |[],k,_,_,a,w,h=>hR a w h
 |o::l,k,hk,hck,a,w,h=>by
  have hQ:Calm (Only R):=Q3P
  have ho:ops[k]? =some o:=by simpa using(hk 0 (by simp)).symm
  have hl: ∀j,j<l.length→l[j]? =ops[k+1+j]? :=fun j hj=>by have:=hk (j+1) (by simpa using hj);simpa[Nat.add_assoc,Nat.add_comm 1 j]using this
  have hne:k≠c:=by rcases hck with h|h<;>simp only[List.length_cons]at* <;>omega
  have hck2:c<k+1∨k+1+l.length≤c:=by simp only[List.length_cons]at hck;omega
  rw[List.length_cons,List.range'_succ,List.cons_append]
  unfold Q0G at h
  have hn:(Region.wanted o (yielded ops a.tmps)=true→Nums o a)∧wpList P ops (Only R) (o::Q0G l) a w:=by
   unfold probes at h
   unfold Nums
   split at h
   ·rename_i op t x y u hop
    rw[List.append_assoc]at h
    obtain⟨h1,h⟩:=Q4t hQ h
    obtain⟨h2,h⟩:=Q4t hQ h
    rw[hop]
    exact⟨fun hw=>⟨h1 hw,h2 hw⟩,h⟩
   ·rename_i s d x hop
    obtain⟨h1,h⟩:=Q4t hQ h
    rw[hop]
    exact⟨h1,h⟩
   ·rename_i h1 h2
    refine⟨fun _=> ?_,h⟩
    split
    ·rename_i op t x y u hop
     exact absurd hop (h1 _ _ _ _ _)
    ·rename_i s d x hop
     exact absurd hop (h2 _ _ _)
    ·trivial
  show Q2h P ops c (Only Q) k (Q6h P ops c (Only Q) (List.range' (k+1) l.length++t)) a w
  unfold Q2h
  rw[if_neg hne]
  refine⟨fun o' ho' hw=> ?_,?_⟩
  ·rw[ho]at ho'
   cases ho'
   exact hn.1 hw
  ·have h2:=hn.2
   refine X0S (R:=R) ?_
   unfold wpList at h2
   unfold wpOp
   simp only[ho]
   split
   ·rename_i hw
    simp only[hw,if_true]at h2
    exact h2.imp (fun h=>Oper.wp_mono (fun a' w' h'=>Q4Q hR l (k+1) hl hck2 a' w' h') h) id
   ·rename_i hw
    simp only[hw]at h2
    exact Q4Q hR l (k+1) hl hck2 _ _ h2
def Half(P:Program)(ops:Array Oper)(Q:Exit→Act→World→Prop)(o:Oper)(l:List Oper):Exit→Act→World→Prop:=fun _ a w=> ∃v,X0g P ops o v a w∧wpList P ops (Only Q) (Q0G l) (a.put o.dst v) w
theorem Q0u{id:Nat}{l:List Oper}{o:Oper}{a:Act}{w:World}(c:Nat)(hc:l[c]? =some o)(hm:P.follows .mixedOrders=true)(hok:Y4j P l.toArray c=true)
 (h:wpList P l.toArray (Only (Half P l.toArray Q o (l.drop (c+1)))) (Q0G (l.take c)) a w.drew):(Code.region id l.toArray true).wp P Q a w:=by
 have hcl:c<l.length:=(List.getElem?_eq_some_iff.1 hc).1
 have hr:Q2C l.toArray.size (Array.replicate l.toArray.size false)=List.range' 0 (l.take c).length++(c::List.range' (c+1) (l.drop (c+1)).length):=by
  have e1:Q2C l.toArray.size (Array.replicate l.toArray.size false)=List.range' 0 l.length:=by
   unfold Q2C
   rw[←List.range_eq_range']
   simp only[List.size_toArray]
   refine List.filter_eq_self.2 fun j hj=> ?_
   have:=List.mem_range.1 hj
   simp[this]
  rw[e1]
  have e2:l.length=c+((l.length-c-1)+1):=by omega
  rw[show(l.take c).length=c from by rw[List.length_take];omega,show(l.drop (c+1)).length=l.length-c-1 from by rw[List.length_drop];omega]
  conv=>lhs;rw[e2]
  rw[←List.range'_append_1,Nat.zero_add,List.range'_succ]
 have h0: ∀a w,Half P l.toArray Q o (l.drop (c+1)) .normal a w→Q6h P l.toArray c (Only Q) (c::List.range' (c+1) (l.drop (c+1)).length) a w:=by
  rintro a w⟨v,h1,h2⟩
  show Q2h P l.toArray c (Only Q) c (Q6h P l.toArray c (Only Q) (List.range' (c+1) (l.drop (c+1)).length)) a w
  unfold Q2h
  rw[if_pos rfl]
  refine⟨o,v,by simpa using hc,h1,?_⟩
  have:=Q4Q (P:=P) (ops:=l.toArray) (c:=c) (Q:=Q) (R:=Q) (t:=[]) (fun a w h=>h) (l.drop (c+1)) (c+1) (fun j hj=>by simp) (Or.inl (Nat.lt_succ_self c)) _ _ h2
  rw[List.append_nil]at this
  exact this
 have h1:=Q4Q (P:=P) (ops:=l.toArray) (c:=c) (Q:=Q) (R:=Half P l.toArray Q o (l.drop (c+1))) h0 (l.take c) 0 (fun j hj=>by
  rw[List.length_take]at hj
  rw[List.getElem?_take_of_lt (by omega)]
  simp) (Or.inr (by rw[List.length_take];omega)) a w.drew h
 have h2:wpAny P .any l.toArray (Only Q) l.toArray.size (Array.replicate l.toArray.size false) a w.drew:=
  X2a Q3P hok _ _ _ _ (by simp) (by
   intro x o hx
   exfalso
   by_cases hx':x<l.toArray.size
   ·simp at hx' hx
    simp[hx']at hx
   ·simp at hx' hx
    simp[Nat.not_lt.2 hx']at hx) (by rw[hr];simp;omega) (by rw[hr];exact h1)
 refine Go.Code.wp_mono (Q:=Only Q) ?_ (wp_region_any hm h2)
 intro e a' w' he
 cases e with
 |normal=>exact he
 |_=>exact absurd he (by intro h;exact h)
theorem Q9D{o:Oper}{a:Act}{w:World}{f:FuncId}{args:Array Operand}{ts:Array TypeId}(ho:o.op= .call {callee:= .value (.func f),args:=args,argTypes:=ts})
 (eg: ∀args w,(callFunc f args).run P w= .ok (.enter f args) w):(execOp a.eval o).run P w= .ok (.enter f (args.map a.eval)) w:=by
 unfold execOp
 simp[ho,resolve,Deferred.ofValue,Act.eval,invoke,eg]
theorem Q0W{o:Oper}{l:List Oper}{a:Act}{w:World}{f:FuncId}{args:Array Operand}{ts:Array TypeId}{vs:Array Value}(v:Value)(hg:o.guard=none)(ho:o.op= .call {callee:= .value (.func f),args:=args,argTypes:=ts})
 (eg: ∀args w,(callFunc f args).run P w= .ok (.enter f args) w) (hv:args.map a.eval=vs) (hc: ∀W,Touch [] w W→Calls P f vs W fun e w'=>e= .returned v∧W=w')
 (h:wpList P ops (Only Q) (Q0G l) (a.put o.dst v) w):Half P ops Q o l .normal a w:=
 ⟨v, .inl ⟨by unfold Region.wanted;rw[hg],fun W t=>⟨f,vs,by rw[←hv];exact Q9D ho eg,hc W t⟩⟩,h⟩
end
end
end Go.Proofs.YthnimpkoidablaaGreat.Z
