import Derived.Test.YthnimpkoidablaaGreatZA04
set_option linter.unusedVariables false
set_option linter.unusedSimpArgs false
namespace Go.Proofs.YthnimpkoidablaaGreat.Z
open Go.RowKit
section
open Go
section
variable {P:Program}{ops:Array Oper}{Q:Exit→Act→World→Prop}
def Q9Z(P:Program)(ops:Array Oper)(k i:Nat):Bool:=
 match ops[k]?,ops[i]? with
 |some x,some y=>x.apart ops y &&y.apart ops x &&(Q3X P x||Q3X P y||(Q2x x &&(Q2x y||Q9k y)))
 |_,_=>false
theorem X6Z(hQ:Calm Q)(hs:Region.noSelect ops=true){k i:Nat}(h:Q9Z P ops k i=true){K:Act→World→Prop}{a:Act}{w:World}
 (hh:Q3q P ops Q k (Q3q P ops Q i K) a w):Q3q P ops Q i (Q3q P ops Q k K) a w:=by
 unfold Q9Z at h
 split at h
 ·rename_i x y hx hy
  simp only[Bool.and_eq_true,Bool.or_eq_true]at h
  obtain⟨⟨h1,h2⟩,h3⟩:=h
  have sx:=Region.noSelect_spec hs k x
  have sy:=Region.noSelect_spec hs i y
  rcases h3 with(h3|h3)|⟨h3,h4|h4⟩
  ·exact swap1 hQ hx hy (fun cs b=>sx cs b hx) (fun cs b=>sy cs b hy) h3 h1 hh
  ·exact swap2 hQ hy hx (fun cs b=>sy cs b hy) (fun cs b=>sx cs b hx) h3 h2 hh
  ·exact Y6f hQ hy hx (fun cs b=>sy cs b hy) (fun cs b=>sx cs b hx) h4 h3 h2 hh
  ·exact Y6d hQ hy hx (fun cs b=>sy cs b hy) (fun cs b=>sx cs b hx) h4 h3 h2 hh
 ·cases h
theorem X1H(hQ:Calm Q)(hs:Region.noSelect ops=true){i:Nat}{t2:List Nat}: ∀(t1:List Nat),(∀k,k∈t1→Q9Z P ops k i=true)→ ∀(a:Act) (w:World),
 Q8c P ops Q (t1++i::t2) a w→Q8c P ops Q (i::(t1++t2)) a w
 |[],_,a,w,h=>h
 |k::t1,hc,a,w,h=>by
  have h1:Q3q P ops Q k (Q3q P ops Q i (Q8c P ops Q (t1++t2))) a w:=
   Q9q (fun a' w' h'=>X1H hQ hs t1 (fun k hk=>hc k (List.mem_cons_of_mem _ hk)) a' w' h') h
  exact X6Z hQ hs (hc k (by simp)) h1
def Q7J(ops:Array Oper)(M:Array Nat)(i:Nat):Bool:=
 (List.range i).all fun k=> !((M.getD i 0).testBit k)||match ops[i]? with
  |some o=>o.after.any fun e=>Region.binds .any e &&(e.on==k||(decide (k<e.on) &&(M.getD e.on 0).testBit k))
  |none=>false
def X4f(P:Program)(ops:Array Oper)(M:Array Nat)(i:Nat):Bool:=
 (match ops[i]? with
  |some o=>o.after.all fun e=> !Region.binds .any e||decide (e.on<i)
  |none=>true) &&((List.range i).all fun k=>(M.getD i 0).testBit k||Q9Z P ops k i) &&Q7J ops M i
def Q4R(P:Program)(ops:Array Oper)(M:Array Nat):Bool:=Region.noSelect ops &&(List.range ops.size).all (X4f P ops M)
def Y7h(P:Program)(ops:Array Oper):Bool:=Q4R P ops (Region.before ops)
def Q2C(n:Nat)(listed:Array Bool):List Nat:=(List.range n).filter fun j=> !listed.getD j true
theorem Q6a{n:Nat}{listed:Array Bool}{j:Nat}:j∈Q2C n listed↔j<n∧listed.getD j true=false:=by
 unfold Q2C
 rw[List.mem_filter,List.mem_range]
 simp
theorem Q9G{n i:Nat}{listed:Array Bool}(hi:i<n)(hl:listed.size=n)(h0:listed.getD i true=false):
 ∃t1 t2,Q2C n listed=t1++i::t2∧Q2C n (listed.setIfInBounds i true)=t1++t2∧(∀k,k∈t1→k<i∧listed.getD k true=false):=by
 have hr:List.range n=List.range i++i::List.range' (i+1) (n-i-1):=by
  rw[List.range_eq_range',List.range_eq_range']
  have e:n=i+((n-i-1)+1):=by omega
  conv=>lhs;rw[e]
  rw[←List.range'_append_1]
  simp[List.range'_succ]
 refine⟨(List.range i).filter fun j=> !listed.getD j true,(List.range' (i+1) (n-i-1)).filter fun j=> !listed.getD j true,?_,?_,?_⟩
 ·unfold Q2C
  rw[hr,List.filter_append,List.filter_cons]
  simp only[h0,Bool.not_false,if_true]
 ·unfold Q2C
  rw[hr,List.filter_append,List.filter_cons]
  have e1:(listed.setIfInBounds i true).getD i true=true:=by simp[Array.getElem?_setIfInBounds];split<;>simp_all
  simp only[e1,Bool.not_true,Bool.false_eq_true,if_false]
  congr 1
  ·refine List.filter_congr fun j hj=> ?_
   have:=List.mem_range.1 hj
   rw[getD_set_ne true (by omega)]
  ·refine List.filter_congr fun j hj=> ?_
   have:=List.mem_range'_1.1 hj
   rw[getD_set_ne true (by omega)]
 ·intro k hk
  simp only[List.mem_filter,List.mem_range]at hk
  exact⟨hk.1,by simpa using hk.2⟩
def Closed(ops:Array Oper)(listed:Array Bool):Prop:= ∀(x:Nat) (o:Oper),listed.getD x false=true→ops[x]? =some o→ ∀e∈o.after,Region.binds .any e=true→listed.getD e.on false=true
theorem X1S{M:Array Nat}(h:Q4R P ops M=true){i:Nat}{o:Oper}(ho:ops[i]? =some o){e:Edge}(he:e∈o.after)(hb:Region.binds .any e=true):e.on<i:=by
 unfold Q4R at h
 simp only[Bool.and_eq_true,List.all_eq_true,List.mem_range]at h
 have h1:=h.2 i (Array.getElem?_eq_some_iff.1 ho).1
 unfold X4f at h1
 simp only[Bool.and_eq_true,ho]at h1
 have h2:=Array.all_eq_true_iff_forall_mem.1 h1.1.1 e he
 simpa[hb]using h2
theorem X2C{M:Array Nat}(h:Q4R P ops M=true){listed:Array Bool}(hc:Closed ops listed): ∀(i:Nat) (o:Oper),ops[i]? =some o→(∀e∈o.after,Region.binds .any e=true→listed.getD e.on false=true)→
 ∀k,k<i→(M.getD i 0).testBit k=true→listed.getD k false=true:=by
 intro i
 induction i using Nat.strongRecOn with
 |ind i ih=>
  intro o ho hd k hk hb
  have h':=h
  unfold Q4R at h'
  simp only[Bool.and_eq_true,List.all_eq_true,List.mem_range]at h'
  have h1:=h'.2 i (Array.getElem?_eq_some_iff.1 ho).1
  unfold X4f at h1
  simp only[Bool.and_eq_true]at h1
  have h2:=h1.2
  unfold Q7J at h2
  simp only[List.all_eq_true,List.mem_range,ho]at h2
  have h3:=h2 k hk
  simp only[hb,Bool.not_true,Bool.false_or]at h3
  obtain⟨e,he,h4⟩:=Array.any_eq_true'.1 h3
  simp only[Bool.and_eq_true,Bool.or_eq_true,beq_iff_eq,decide_eq_true_eq]at h4
  have hlt:=X1S h ho he h4.1
  have hl:=hd e he h4.1
  rcases h4.2 with h5|⟨hke,h5⟩
  ·rw[←h5];exact hl
  ·have hn:e.on<ops.size:=Nat.lt_trans hlt (Array.getElem?_eq_some_iff.1 ho).1
   exact ih e.on hlt ops[e.on] (Array.getElem?_eq_getElem hn) (hc e.on _ hl (Array.getElem?_eq_getElem hn)) k hke h5
theorem X3c{M:Array Nat}(hQ:Calm Q)(h:Q4R P ops M=true): ∀(fuel:Nat) (listed:Array Bool) (a:Act) (w:World),listed.size=ops.size→Closed ops listed→(Q2C ops.size listed).length≤fuel→
 Q8c P ops Q (Q2C ops.size listed) a w→wpAny P .any ops Q fuel listed a w:=by
 have hs:Region.noSelect ops=true:=by
  unfold Q4R at h
  simp only[Bool.and_eq_true]at h
  exact h.1
 have hat: ∀i,i<ops.size→ ∀k,k<i→(M.getD i 0).testBit k=true∨Q9Z P ops k i=true:=by
  intro i hi k hk
  unfold Q4R at h
  simp only[Bool.and_eq_true,List.all_eq_true,List.mem_range]at h
  have h1:=h.2 i hi
  unfold X4f at h1
  simp only[Bool.and_eq_true,List.all_eq_true,List.mem_range,Bool.or_eq_true]at h1
  exact h1.1.2 k hk
 have hready: ∀(listed:Array Bool),Region.ready .any ops listed=[]→Closed ops listed→Q2C ops.size listed=[]:=by
  intro listed hr hc
  cases ht:Q2C ops.size listed with
  |nil=>rfl
  |cons j t=>
   exfalso
   have hj:j∈Q2C ops.size listed:=by rw[ht];simp
   obtain⟨hjn,hj0⟩:=Q6a.1 hj
   have hle: ∀k,k∈Q2C ops.size listed→j≤k:=by
    have hp:(Q2C ops.size listed).Pairwise (· < ·):=by
     unfold Q2C
     exact List.Pairwise.filter _ List.pairwise_lt_range
    rw[ht]at hp
    intro k hk
    rw[ht]at hk
    rcases List.mem_cons.1 hk with rfl|hk
    ·exact Nat.le_refl _
    ·exact Nat.le_of_lt ((List.pairwise_cons.1 hp).1 k hk)
   have:j∈Region.ready .any ops listed:=by
    rw[mem_ready]
    refine⟨hj0,ops[j],Array.getElem?_eq_getElem hjn,fun e he hb=> ?_⟩
    have hlt:=X1S h (Array.getElem?_eq_getElem hjn) he hb
    cases hl:listed.getD e.on true with
    |true=>
     by_cases hin:e.on<listed.size
     ·simpa[hin]using hl
     ·simp[Array.getElem?_eq_none (Nat.le_of_not_lt hin)]at hl
      have h2:=hle e.on
      by_cases hin2:listed.size≤e.on
      ·exfalso
       have h3:e.on<ops.size:=Nat.lt_trans hlt hjn
       have h4: ¬(j<listed.size):=fun hh=>by
        exact absurd (Nat.lt_trans hlt hh) (Nat.not_lt.2 hin2)
       simp[Array.getElem?_eq_none (Nat.le_of_not_lt h4)]at hj0
      ·omega
    |false=>
     have:=hle e.on (Q6a.2 ⟨Nat.lt_trans hlt hjn,hl⟩)
     omega
   rw[hr]at this
   cases this
 intro fuel
 induction fuel with
 |zero=>
  intro listed a w hsz hc hl hh
  have hnil:Q2C ops.size listed=[]:=List.eq_nil_of_length_eq_zero (by omega)
  rw[hnil]at hh
  refine⟨?_,hh⟩
  cases hr:Region.ready .any ops listed with
  |nil=>rfl
  |cons j t=>
   exfalso
   have hj:j∈Region.ready .any ops listed:=by rw[hr];simp
   obtain⟨h0,o,ho,_⟩:=mem_ready.1 hj
   have:j∈Q2C ops.size listed:=Q6a.2 ⟨(Array.getElem?_eq_some_iff.1 ho).1,h0⟩
   rw[hnil]at this
   cases this
 |succ fuel ih=>
  intro listed a w hsz hc hl hh
  refine⟨fun hr=> ?_,fun i hi=> ?_⟩
  ·rw[hready listed hr hc]at hh
   exact hh
  ·obtain⟨h0,o,ho,hd⟩:=mem_ready.1 hi
   have hin:=(Array.getElem?_eq_some_iff.1 ho).1
   obtain⟨t1,t2,e1,e2,ht⟩:=Q9G hin hsz h0
   rw[e1]at hh hl
   have hmv:=X1H hQ hs t1 (fun k hk=>by
    obtain⟨hki,hk0⟩:=ht k hk
    rcases hat i hin k hki with hb|hb
    ·have:=X2C h hc i o ho hd k hki hb
     exfalso
     have hks:k<listed.size:=by omega
     simp[hks]at this hk0
     rw[hk0]at this
     cases this
    ·exact hb) a w hh
   refine wpOp_mono (fun a' w' h3=>ih _ a' w' (by simpa using hsz) ?_ ?_ ?_) hmv.2
   ·intro x ox hx hox e he hb
    by_cases hxi:i=x
    ·subst hxi
     rw[ho]at hox
     cases hox
     exact getD_set_true (hd e he hb)
    ·rw[getD_set_ne false hxi]at hx
     exact getD_set_true (hc x ox hx hox e he hb)
   ·rw[e2]
    simp only[List.length_append,List.length_cons]at hl⊢
    omega
   ·rw[e2]
    exact h3
def Only(Q:Exit→Act→World→Prop):Exit→Act→World→Prop
 |.normal,a,w=>Q .normal a w
 |_,_,_=>False
theorem Q0g{a:Act}{w:World}:Only Q .normal a w=Q .normal a w:=rfl
theorem Q3P:Calm (Only Q):=⟨fun c a w h=>h,fun⟨a,w,h⟩=>h⟩
def probe(o:Oper):Operand→List Oper
 |.const (.int _ _)=>[]
 |x=>[{o with dst:=none,op:= .binOp .shl 0 x (.const (.int .u64 0)) 0}]
def probes(o:Oper):List Oper:=
 match o.op with
 |.binOp _ _ x y _=>probe o x++probe o y
 |.convert _ _ x=>probe o x
 |_=>[]
def Q0G:List Oper→List Oper
 |[]=>[]
 |o::l=>probes o++o::Q0G l
theorem Q4t{o:Oper}{x:Operand}{rest:List Oper}{a:Act}{w:World}(hQ:Calm Q)(h:wpList P ops Q (probe o x++rest) a w):
 (Region.wanted o (yielded ops a.tmps)=true→Y2v (a.eval x)=true)∧wpList P ops Q rest a w:=by
 by_cases hx: ∃k n,x= .const (.int k n)
 ·obtain⟨k,n,rfl⟩:=hx
  exact⟨fun _=>rfl,h⟩
 ·have e:probe o x=[{o with dst:=none,op:= .binOp .shl 0 x (.const (.int .u64 0)) 0}]:=by
   unfold probe
   split
   ·rename_i k n
    exact absurd ⟨k,n,rfl⟩ hx
   ·rfl
  rw[e]at h
  simp only[List.singleton_append]at h
  unfold wpList at h
  have hw:Region.wanted {o with dst:=none,op:= .binOp .shl 0 x (.const (.int .u64 0)) 0} (yielded ops a.tmps)=Region.wanted o (yielded ops a.tmps):=rfl
  rw[hw]at h
  cases hwo:Region.wanted o (yielded ops a.tmps)with
  |false=>
   simp only[hwo,Bool.false_eq_true,if_false]at h
   exact⟨(fun h=>by cases h),h⟩
  |true=>
   simp only[hwo,if_true]at h
   rcases h with h|⟨_,h⟩
   ·unfold Oper.wp at h
    have hr:(execOp a.eval {o with dst:=none,op:= .binOp .shl 0 x (.const (.int .u64 0)) 0}).run P w=Result.andThen ((binOp .shl 0 (a.eval x) (.int .u64 0)).run P w) (fun v w=>Result.ok (Next.value v) w):=by
     show(do Pure.pure (Next.value (←(do eqGuard .shl 0 x (.const (.int .u64 0)) (a.eval x) (.int .u64 0);binOp .shl 0 (a.eval x) (.int .u64 0)))):Sem Next).run P w=_
     have he:eqGuard .shl 0 x (.const (.int .u64 0)) (a.eval x) (.int .u64 0)=Pure.pure ():=rfl
     rw[he,pure_bind,Sem.run_bind]
     rfl
    rw[hr]at h
    cases hv:a.eval x with
    |int k n=>
     rw[hv]at h
     exact⟨fun _=>rfl,h⟩
    |_=>
     exfalso
     rw[hv]at h
     exact h
   ·exact absurd h hQ.out
theorem Q5Q(hQ:Calm Q): ∀(l:List Oper) (k:Nat),(∀j,l[j]? =ops[k+j]?)→ ∀(a:Act) (w:World),wpList P ops Q (Q0G l) a w→Q8c P ops Q (List.range' k l.length) a w
 |[],k,_,a,w,h=>h
 |o::l,k,hk,a,w,h=>by
  have ho:ops[k]? =some o:=by simpa using(hk 0).symm
  have hl: ∀j,l[j]? =ops[k+1+j]? :=fun j=>by have:=hk (j+1);simpa[Nat.add_assoc,Nat.add_comm 1 j]using this
  rw[List.length_cons,List.range'_succ]
  unfold Q0G at h
  have hn:(Region.wanted o (yielded ops a.tmps)=true→Nums o a)∧wpList P ops Q (o::Q0G l) a w:=by
   unfold probes at h
   unfold Nums
   split at h
   ·rename_i op t x y u hop
    rw[List.append_assoc]at h
    obtain⟨h1,h⟩:=Q4t hQ h
    obtain⟨h2,h⟩:=Q4t hQ h
    rw[hop]
    exact⟨fun hw=>⟨h1 hw,h2 hw⟩,h⟩
   ·rename_i s d x hop
    obtain⟨h1,h⟩:=Q4t hQ h
    rw[hop]
    exact⟨h1,h⟩
   ·rename_i h1 h2
    refine⟨fun _=> ?_,h⟩
    split
    ·rename_i op t x y u hop
     exact absurd hop (h1 _ _ _ _ _)
    ·rename_i s d x hop
     exact absurd hop (h2 _ _ _)
    ·trivial
  refine⟨fun o' ho' hw=> ?_,?_⟩
  ·rw[ho]at ho'
   cases ho'
   exact hn.1 hw
  ·have h2:=hn.2
   unfold wpList at h2
   unfold wpOp
   simp only[ho]
   split
   ·rename_i hw
    simp only[hw,if_true]at h2
    exact h2.imp (fun h=>Oper.wp_mono (fun a' w' h'=>Q5Q hQ l (k+1) hl a' w' h') h) id
   ·rename_i hw
    simp only[hw]at h2
    exact Q5Q hQ l (k+1) hl _ _ h2
theorem Q1a{id:Nat}{l:List Oper}{a:Act}{w:World}(hm:P.follows .mixedOrders=true)(hok:Y7h P l.toArray=true)
 (h:wpList P l.toArray (Only Q) (Q0G l) a w.drew):(Code.region id l.toArray true).wp P Q a w:=by
 have hr:Q2C l.toArray.size (Array.replicate l.toArray.size false)=List.range' 0 l.length:=by
  unfold Q2C
  rw[←List.range_eq_range']
  simp only[List.size_toArray]
  refine List.filter_eq_self.2 fun j hj=> ?_
  have:=List.mem_range.1 hj
  simp[this]
 have h1:Q8c P l.toArray (Only Q) (List.range' 0 l.length) a w.drew:=Q5Q Q3P l 0 (by simp) a w.drew h
 have h2:wpAny P .any l.toArray (Only Q) l.toArray.size (Array.replicate l.toArray.size false) a w.drew:=
  X3c Q3P hok _ _ _ _ (by simp) (by
   intro x o hx
   exfalso
   by_cases hx':x<l.toArray.size
   ·simp at hx' hx
    simp[hx']at hx
   ·simp at hx' hx
    simp[Nat.not_lt.2 hx']at hx) (by rw[hr];simp) (by rw[hr];exact h1)
 refine Go.Code.wp_mono (Q:=Only Q) ?_ (wp_region_any hm h2)
 intro e a' w' he
 cases e with
 |normal=>exact he
 |_=>exact absurd he (by intro h;exact h)
end
end
end Go.Proofs.YthnimpkoidablaaGreat.Z
