import Derived.Test.YthnimpkoidablaaGreatZA01
set_option linter.unusedVariables false
set_option linter.unusedSimpArgs false
namespace Go.Proofs.YthnimpkoidablaaGreat.Z
open Go.RowKit
section
open Go
section
variable {P:Program}{ops:Array Oper}{Q:Exit→Act→World→Prop}
def Shape(o:Oper)(a a':Act):Prop:= ∃(u:Value) (ds:_),a'=({a with defers:=ds}:Act).put o.dst u
theorem Q7f{j:Nat}{oj:Oper}{a:Act}{w:World}{K:Act→World→Prop}(hj:ops[j]? =some oj)(h:wpOp P ops Q j K a w):wpOp P ops Q j (fun a' w'=>Shape oj a a'∧K a' w') a w:=by
 have sh: ∀u,Shape oj a (a.put oj.dst u):=fun u=>⟨u,a.defers,rfl⟩
 unfold wpOp at*
 simp only[hj]at*
 split
 ·rename_i hw
  simp only[hw,if_true]at h
  rcases h with h|h
  case inr=>exact .inr h
  refine .inl ?_
  unfold Oper.wp at*
  generalize (execOp a.eval oj).run P w=r at*
  cases r with
  |ok n w'=>
   cases n<;>simp only[Oper.upon]at h⊢
   case value u=>exact⟨sh u,h⟩
   case skip=>exact⟨sh _,h⟩
   case defer d=>exact⟨⟨undef,d::a.defers,rfl⟩,h⟩
   case enter f args=>
    refine Calls.mono h fun e w'' he=> ?_
    cases e with
    |returned u=>exact⟨sh u,he⟩
    |panicked c=>exact he
    |outgrown=>exact he
   case row row args=>exact Rows.mono h fun u w'' he=>⟨sh u,he⟩
  |halt x w'=>
   cases x<;>simp only[Oper.upon]at h⊢
   case panic u=>exact h
 ·rename_i hw
  simp only[hw]at h
  exact⟨sh _,h⟩
theorem Q9p{j:Nat}{a:Act}{w:World}{K:Act→World→Prop}(hQ:Calm Q)(h:wpOp P ops Q j K a w): ∃a' w',K a' w':=by
 unfold wpOp at h
 split at h
 ·exact⟨_,_,h⟩
 ·split at h
  ·rcases h with h|⟨_,h⟩
   ·unfold Oper.wp at h
    generalize (execOp a.eval _).run P w=r at h
    cases r with
    |ok n w'=>
     cases n<;>simp only[Oper.upon]at h
     case value u=>exact⟨_,_,h⟩
     case skip=>exact⟨_,_,h⟩
     case defer d=>exact⟨_,_,h⟩
     case enter f args=>
      obtain⟨e,w'',fr,hR,_⟩:=h []
      cases e with
      |returned u=>exact⟨_,_,hR⟩
      |panicked c=>exact absurd hR (hQ.panic _ _ _)
      |outgrown=>exact absurd hR hQ.out
     case row row args=>
      obtain⟨v,w'',hR,_⟩:=h default []
      exact⟨_,_,hR⟩
    |halt x w'=>
     cases x<;>simp only[Oper.upon]at h
     case panic u=>exact absurd h (hQ.panic _ _ _)
   ·exact absurd h hQ.out
  ·exact⟨_,_,h⟩
theorem Q3F{oi oj:Oper}{a a':Act}(h: ∀d,oj.dst=some d→d∉oi.looksAt ops)(hs:Shape oj a a'):Region.wanted oi (yielded ops a'.tmps)=Region.wanted oi (yielded ops a.tmps):=by
 obtain⟨u,ds,rfl⟩:=hs
 exact wanted_put oi ({a with defers:=ds}:Act) oj.dst u h
theorem Q5Y{oi oj:Oper}{a a':Act}(hsel: ∀cs b,oi.op≠ .select cs b)(h: ∀d,oj.dst=some d→d∉oi.looksAt ops)(hs:Shape oj a a'):execOp a'.eval oi=execOp a.eval oi:=by
 obtain⟨u,ds,rfl⟩:=hs
 exact execOp_put oi hsel ({a with defers:=ds}:Act) oj.dst u h
theorem Q9B{oi oj:Oper}{a a':Act}(h: ∀d,oj.dst=some d→d∉oi.looksAt ops)(hs:Shape oj a a'):Nums oi a'↔Nums oi a:=by
 obtain⟨u,ds,rfl⟩:=hs
 exact Q6R (ops:=ops) (a:=({a with defers:=ds}:Act)) h
theorem Q8a{oi:Oper}{a:Act}{u v:Value}(h:Yields P ops oi u a)(k:Yields P ops oi v a):u=v:=by
 rcases h with⟨h1,h2⟩|⟨h1,rfl⟩
 ·rcases k with⟨k1,k2⟩|⟨k1,_⟩
  ·have:=(h2 default).symm.trans (k2 default)
   cases this;rfl
  ·rw[h1]at k1;cases k1
 ·rcases k with⟨k1,k2⟩|⟨k1,rfl⟩
  ·rw[h1]at k1;cases k1
  ·rfl
theorem swap1{i j:Nat}{oi oj:Oper}{K:Act→World→Prop}{a:Act}{w:World}(hQ:Calm Q)(hi:ops[i]? =some oi)(hj:ops[j]? =some oj)
 (hsi: ∀cs b,oi.op≠ .select cs b) (hsj: ∀cs b,oj.op≠ .select cs b) (hb:Q3X P oi=true) (hap:oi.apart ops oj=true)
 (h:Q3q P ops Q i (Q3q P ops Q j K) a w):Q3q P ops Q j (Q3q P ops Q i K) a w:=by
 obtain⟨v,hy,hk⟩:=Q3J hQ hi hb h
 obtain⟨a1,a2,a3⟩:=Oper.apart_spec hap
 refine⟨fun o ho hw=> ?_,?_⟩
 ·rw[hj]at ho
  cases ho
  exact(Q6R (ops:=ops) a1).1 (hk.1 _ hj (by rw[wanted_put oj a oi.dst v a1];exact hw))
 ·have h2:=wpOp_put hj hap hsi hsj (fun c a w h=>absurd h (hQ.panic _ _ _)) hy hk.2
  refine wpOp_mono (fun a' w' h3=>⟨fun o ho hw=> ?_,Yields.wpOp hi h3.2.1 h3.2.2⟩) (Q7f hj h2)
  rw[hi]at ho
  cases ho
  exact(Q9B (ops:=ops) a3 h3.1).2 (h.1 _ hi (by rw[←Q3F (ops:=ops) a3 h3.1];exact hw))
theorem Q9o{i j:Nat}{oi oj:Oper}{v:Value}{K1 K:Act→World→Prop}{a:Act}{w:World}(hQ:Calm Q)(hj:ops[j]? =some oj)(hap:oi.apart ops oj=true)(hsj: ∀cs b,oj.op≠ .select cs b)
 (h:wpOp P ops Q j K1 a w) (hk: ∀a' w',Shape oj a a'→K1 a' w'→K (a'.put oi.dst v) w'):wpOp P ops Q j K (a.put oi.dst v) w:=by
 obtain⟨h1,h2,h3⟩:=Oper.apart_spec hap
 have sh: ∀u,Shape oj a (a.put oj.dst u):=fun u=>⟨u,a.defers,rfl⟩
 unfold wpOp at*
 simp only[hj]at*
 rw[wanted_put oj a oi.dst v h1]
 split
 ·rename_i hw
  simp only[hw,if_true]at h
  rcases h with h|⟨_,h⟩
  case inr=>exact absurd h hQ.out
  refine .inl ?_
  unfold Oper.wp at*
  rw[execOp_put oj hsj a oi.dst v h1]
  generalize (execOp a.eval oj).run P w=r at*
  cases r with
  |ok n w'=>
   cases n<;>simp only[Oper.upon]at h⊢
   case value u=>rw[Act.put_comm a v u h2];exact hk _ _ (sh u) h
   case skip=>rw[Act.put_comm a v undef h2];exact hk _ _ (sh _) h
   case defer d=>
    rw[Act.put_defers,Act.put_comm _ v undef h2]
    exact hk _ _ ⟨undef,d::a.defers,rfl⟩ h
   case enter f args=>
    refine Calls.mono h fun e w'' he=> ?_
    cases e with
    |returned u=>show K ((a.put oi.dst v).put oj.dst u) w'';rw[Act.put_comm a v u h2];exact hk _ _ (sh u) he
    |panicked c=>exact absurd he (hQ.panic _ _ _)
    |outgrown=>exact he
   case row row args=>exact Rows.mono h fun u w'' he=>(by show K ((a.put oi.dst v).put oj.dst u) w'';rw[Act.put_comm a v u h2];exact hk _ _ (sh u) he)
  |halt x w'=>
   cases x<;>simp only[Oper.upon]at h⊢
   case panic u=>exact absurd h (hQ.panic _ _ _)
 ·rename_i hw
  simp only[hw]at h
  rw[Act.put_comm a v undef h2]
  exact hk _ _ (sh _) h
theorem swap2{i j:Nat}{oi oj:Oper}{K:Act→World→Prop}{a:Act}{w:World}(hQ:Calm Q)(hi:ops[i]? =some oi)(hj:ops[j]? =some oj)
 (hsi: ∀cs b,oi.op≠ .select cs b) (hsj: ∀cs b,oj.op≠ .select cs b) (hb:Q3X P oi=true) (hap:oi.apart ops oj=true)
 (h:Q3q P ops Q j (Q3q P ops Q i K) a w):Q3q P ops Q i (Q3q P ops Q j K) a w:=by
 obtain⟨a1,a2,a3⟩:=Oper.apart_spec hap
 have hs:=Q7f hj h.2
 obtain⟨b,wb,hsb,hib⟩:=Q9p hQ hs
 obtain⟨v,hyb,_⟩:=Q3J hQ hi hb hib
 have hy:Yields P ops oi v a:=hyb.of_same (Q5Y (ops:=ops) hsi a3 hsb).symm (Q3F (ops:=ops) a3 hsb).symm
 refine⟨fun o ho hw=> ?_,Yields.wpOp hi hy ⟨fun o ho hw=> ?_,?_⟩⟩
 ·rw[hi]at ho
  cases ho
  exact(Q9B (ops:=ops) a3 hsb).1 (hib.1 _ hi (by rw[Q3F (ops:=ops) a3 hsb];exact hw))
 ·rw[hj]at ho
  cases ho
  exact(Q6R (ops:=ops) a1).2 (h.1 _ hj (by rw[←wanted_put oj a oi.dst v a1];exact hw))
 ·refine Q9o (i:=i) hQ hj hap hsj hs fun a' w' hsh hk=> ?_
  obtain⟨v',hy',hk'⟩:=Q3J hQ hi hb hk.2
  have hy2:Yields P ops oi v a':=hy.of_same (Q5Y (ops:=ops) hsi a3 hsh) (Q3F (ops:=ops) a3 hsh)
  rw[Q8a hy2 hy']
  exact hk'
def Q3p(P:Program)(ops:Array Oper)(o:Oper)(v:Value)(a:Act)(w:World):Prop:=
 (Region.wanted o (yielded ops a.tmps)=true∧(execOp a.eval o).run P w= .ok (.value v) w)∨(Region.wanted o (yielded ops a.tmps)=false∧v=undef)
theorem Q3p.wpOp{i:Nat}{o:Oper}{v:Value}{a:Act}{w:World}(hi:ops[i]? =some o)(hy:Q3p P ops o v a w){K:Act→World→Prop}(h:K (a.put o.dst v) w):wpOp P ops Q i K a w:=by
 unfold Go.wpOp
 simp only[hi]
 rcases hy with⟨hw,hv⟩|⟨hw,rfl⟩
 ·simp only[hw,if_true,Oper.wp,hv,Oper.upon];exact .inl h
 ·simp only[hw,Bool.false_eq_true,if_false];exact h
theorem Q8G{i:Nat}{oi:Oper}{a:Act}{w:World}{K:Act→World→Prop}(hQ:Calm Q)(hi:ops[i]? =some oi)(hb:Q2x oi=true)(h:wpOp P ops Q i K a w): ∃v,Q3p P ops oi v a w∧K (a.put oi.dst v) w:=by
 unfold wpOp at h
 simp only[hi]at h
 cases hw:Region.wanted oi (yielded ops a.tmps)with
 |true=>
  simp only[hw,if_true]at h
  rcases h with h|⟨_,h⟩
  ·unfold Oper.wp at h
   rcases X2D (P:=P) (a:=a) (w:=w) hb with⟨v,hv⟩|⟨h',w',e⟩
   ·rw[hv]at h
    exact⟨v, .inl ⟨hw,hv⟩,h⟩
   ·rw[e]at h
    obtain⟨n,w2,e2⟩:=Q7d hQ h
    cases e2
  ·exact absurd h hQ.out
 |false=>
  simp only[hw,Bool.false_eq_true,if_false]at h
  exact⟨undef, .inr ⟨hw,rfl⟩,h⟩
theorem Q4G{o:Oper}{a:Act}(h:Q2x o=true):Nums o a:=by
 obtain⟨dst,op,type,pos,after,guard⟩:=o
 cases op<;>simp only[Q2x,Bool.false_eq_true]at h
 exact trivial
theorem Q3p.of_same{o:Oper}{v:Value}{a a':Act}{w:World}(hy:Q3p P ops o v a w)(he:execOp a'.eval o=execOp a.eval o)(hw:Region.wanted o (yielded ops a'.tmps)=Region.wanted o (yielded ops a.tmps)):Q3p P ops o v a' w:=by
 unfold Q3p at*
 rw[he,hw]
 exact hy
theorem Y6f{i j:Nat}{oi oj:Oper}{K:Act→World→Prop}{a:Act}{w:World}(hQ:Calm Q)(hi:ops[i]? =some oi)(hj:ops[j]? =some oj)
 (hsi: ∀cs b,oi.op≠ .select cs b) (hsj: ∀cs b,oj.op≠ .select cs b) (hli:Q2x oi=true) (hlj:Q2x oj=true) (hap:oi.apart ops oj=true)
 (h:Q3q P ops Q j (Q3q P ops Q i K) a w):Q3q P ops Q i (Q3q P ops Q j K) a w:=by
 obtain⟨a1,a2,a3⟩:=Oper.apart_spec hap
 obtain⟨u,hu,hk⟩:=Q8G hQ hj hlj h.2
 obtain⟨v,hv,hk⟩:=Q8G hQ hi hli hk.2
 have hv':Q3p P ops oi v a w:=hv.of_same (execOp_put oi hsi a oj.dst u a3).symm (wanted_put oi a oj.dst u a3).symm
 have hu':Q3p P ops oj u (a.put oi.dst v) w:=hu.of_same (execOp_put oj hsj a oi.dst v a1) (wanted_put oj a oi.dst v a1)
 refine⟨fun o ho _=>by rw[hi]at ho;cases ho;exact Q4G hli,hv'.wpOp hi ⟨fun o ho _=>by rw[hj]at ho;cases ho;exact Q4G hlj,hu'.wpOp hj ?_⟩⟩
 rw[Act.put_comm a v u a2]
 exact hk
end
end
end Go.Proofs.YthnimpkoidablaaGreat.Z
