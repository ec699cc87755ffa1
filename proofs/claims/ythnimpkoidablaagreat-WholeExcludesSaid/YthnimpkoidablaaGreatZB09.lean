import Derived.Test.YthnimpkoidablaaGreatZB02
import Derived.Test.YthnimpkoidablaaGreatZB06
import Derived.Test.YthnimpkoidablaaGreatZB07
import Derived.Test.YthnimpkoidablaaGreatZB08
import Derived.Test.YthnimpkoidablaaGreatZB04
import Derived.Test.YthnimpkoidablaaGreatZB05
set_option linter.unusedVariables false
set_option linter.unusedSimpArgs false
namespace Go.Proofs.YthnimpkoidablaaGreat.Z
open Go.RowKit
theorem Y3b(k:Nat)(base:Int)(h1:1≤k)(h2:k≤64)(hb:0≤base∧base<4294967296)(B:Nat)(hB:B≤100000):tfI base k B (List.replicate k (tfK.idle 0)) (Q0j k (Q5P base++List.replicate ((8+4*(k:Int)).toNat-3) 0)):=by
 have hr: ∀i,(List.replicate k (tfK.idle 0)).getD i (tfK.idle 0)=tfK.idle 0:=fun i=>by
  rw[List.getD_eq_getElem?_getD,List.getElem?_replicate];split<;>rfl
 refine⟨by omega,by simp,base,base,base,fun _=>0,?_,?_,?_,by omega,by omega,by omega,by omega,?_,?_,fun i _ h=> ?_,fun i j _ _ _ h=> ?_,fun t g1 g2=>by omega,fun i _=> ?_⟩
 ·simp[Q0j,Q5P];omega
 ·simp[Q0j,Q5P];omega
 ·simp[Q0j,Q5P];omega
 ·rw[Q0R (f:=tfT) rfl];omega
 ·rw[Q0R (f:=tfD) rfl];omega
 ·rw[hr,show tfT (tfK.idle 0)=0 from rfl]at h;exact absurd h (by decide)
 ·rw[hr,show tfT (tfK.idle 0)=0 from rfl]at h;exact absurd h (by decide)
 ·rw[hr];exact Or.inl rfl
theorem Y3S(k:Nat)(base:Int)(h1:1≤k)(h2:k≤64)(hb:0≤base∧base<4294967296)(B:Nat)(hB:B≤100000):pfI base k B (List.replicate k (pfK.idle 0)) (Q0j k (Q3U base++List.replicate ((8+4*(k:Int)).toNat-5) 0)):=by
 have hr: ∀i,(List.replicate k (pfK.idle 0)).getD i (pfK.idle 0)=pfK.idle 0:=fun i=>by
  rw[List.getD_eq_getElem?_getD,List.getElem?_replicate];split<;>rfl
 have hx:Q0j k (Q3U base++List.replicate ((8+4*(k:Int)).toNat-5) 0) 0=base*256%4294967296∧Q0j k (Q3U base++List.replicate ((8+4*(k:Int)).toNat-5) 0) 1=base*256%4294967296∧Q0j k (Q3U base++List.replicate ((8+4*(k:Int)).toNat-5) 0) 2=base∧Q0j k (Q3U base++List.replicate ((8+4*(k:Int)).toNat-5) 0) 3=base∧Q0j k (Q3U base++List.replicate ((8+4*(k:Int)).toNat-5) 0) 4=base:=by
  simp[Q0j,Q3U];omega
 obtain⟨x0,x1,x2,x3,x4⟩:=hx
 have hmr:(List.replicate k (pfK.idle 0)).map Q1C=List.replicate k Ph.none:=by rw[List.map_replicate];rfl
 have z:=fun(f:Ph→Int) (h:f Ph.none=0)=>Q0R (f:=f) (n:=k) h
 refine⟨by omega,by simp,⟨base,base,?_⟩,⟨base,base,fun _=>0,?_⟩,fun p hp=> ?_⟩
 ·rw[hmr,x0,x1,x4]
  refine⟨by simp;omega,hb,by omega,?_,?_,?_,?_,?_,?_,?_,?_,fun q hq=> ?_,fun q hq v hv=> ?_,fun q hq a ha=> ?_⟩
  ·rw[z wRd rfl,z (Q2Z base) rfl,z (Q3g base) rfl];omega
  ·rw[z wIn rfl,z wUp rfl,z wPd rfl];intro h;omega
  ·intro _;omega
  ·rw[z wHd rfl];decide
  ·rw[z wIn rfl];intro h;omega
  ·rw[z wUp rfl];intro h;omega
  ·rw[z wA2 rfl];intro h;omega
  ·intro _ _;exact z (Q3g base) rfl
  ·rw[(List.mem_replicate.1 hq).2];exact⟨by decide,(fun w h=>by cases h),(fun w h=>by cases h),(fun w h=>by cases h),by decide⟩
  ·rw[(List.mem_replicate.1 hq).2]at hv;cases hv
  ·rw[(List.mem_replicate.1 hq).2]at ha;cases ha
 ·refine⟨by rw[x2];omega,by rw[x3];omega,by omega,by omega,by omega,?_,fun i _ h=> ?_,fun i j _ _ _ h=> ?_,fun t g1 g2=> ?_,fun i _=> ?_⟩
  ·rw[Q0R (f:=pfH) rfl,Q0R (f:=pfW) rfl];omega
  ·rw[hr]at h;exact absurd (show(0:Int)=1 from h) (by decide)
  ·rw[hr]at h;exact absurd (show(0:Int)=1 from h) (by decide)
  ·rw[Q0R (f:=pfH) rfl]at g1;omega
  ·rw[hr];trivial
 ·rw[(List.mem_replicate.1 hp).2];exact Or.inl rfl
theorem Y3N(k:Nat)(base:Int)(h1:1≤k)(h2:k≤64)(hb:0≤base∧base<4294967296)(B:Nat)(hB:B≤100000):pqI k B (List.replicate k ((pqK k).idle 0)) (Q0j k (Q4F base++List.replicate ((8+4*(k:Int)).toNat-4) 0)):=by
 have hr: ∀i,(List.replicate k (PqP.idle 0)).getD i (PqP.idle 0)=PqP.idle 0:=fun i=>by
  rw[List.getD_eq_getElem?_getD,List.getElem?_replicate];split<;>rfl
 have hx:Q0j k (Q4F base++List.replicate ((8+4*(k:Int)).toNat-4) 0) 0=base*256%4294967296∧Q0j k (Q4F base++List.replicate ((8+4*(k:Int)).toNat-4) 0) 1=base*256%4294967296∧Q0j k (Q4F base++List.replicate ((8+4*(k:Int)).toNat-4) 0) 2=0∧Q0j k (Q4F base++List.replicate ((8+4*(k:Int)).toNat-4) 0) 3=base:=by
  simp[Q0j,Q4F];omega
 obtain⟨x0,x1,x2,x3⟩:=hx
 have hmr:(List.replicate k (PqP.idle 0)).map Q0D=List.replicate k Ph.none:=by rw[List.map_replicate];rfl
 have z:=fun(f:Ph→Int) (h:f Ph.none=0)=>Q0R (f:=f) (n:=k) h
 refine⟨h1,by omega,by simp,⟨base,base,?_⟩,⟨[],List.nodup_nil,by simp,fun i hi=> ?_,x2,trivial,trivial,fun i hi=> ?_⟩,fun p hp=> ?_⟩
 ·show Q2u ((List.replicate k (PqP.idle 0)).map Q0D) _ _ _ _ _
  rw[hmr,x0,x1,x3]
  refine⟨by simp;omega,hb,by omega,?_,?_,?_,?_,?_,?_,?_,?_,fun q hq=> ?_,fun q hq v hv=> ?_,fun q hq a ha=> ?_⟩
  ·rw[z wRd rfl,z (Q2Z base) rfl,z (Q3g base) rfl];omega
  ·rw[z wIn rfl,z wUp rfl,z wPd rfl];intro h;omega
  ·intro _;omega
  ·rw[z wHd rfl];decide
  ·rw[z wIn rfl];intro h;omega
  ·rw[z wUp rfl];intro h;omega
  ·rw[z wA2 rfl];intro h;omega
  ·intro _ _;exact z (Q3g base) rfl
  ·rw[(List.mem_replicate.1 hq).2];exact⟨by decide,(fun w h=>by cases h),(fun w h=>by cases h),(fun w h=>by cases h),by decide⟩
  ·rw[(List.mem_replicate.1 hq).2]at hv;cases hv
  ·rw[(List.mem_replicate.1 hq).2]at ha;cases ha
 ·show _↔(Q3Q ((List.replicate k (PqP.idle 0)).getD i (PqP.idle 0))).inq=true
  rw[hr];simp[Q3Q,Mk.inq]
 ·show((Q3Q ((List.replicate k (PqP.idle 0)).getD i (PqP.idle 0))=_∨Q3Q ((List.replicate k (PqP.idle 0)).getD i (PqP.idle 0))=_)→_)∧(Q3Q ((List.replicate k (PqP.idle 0)).getD i (PqP.idle 0))=_→_)
  rw[hr];exact⟨(fun h=>by rcases h with h|h<;>cases h),(fun h=>by cases h)⟩
 ·have hp:p∈List.replicate k (PqP.idle 0):=hp
  rw[(List.mem_replicate.1 hp).2];exact Or.inl rfl
theorem Y4f(k:Nat)(base:Int)(h1:1≤k)(h2:k≤64)(hb:0≤base∧base<4294967296)(B:Nat)(hB:B≤100000):fqI k B (List.replicate k ((fqK k).idle 0)) (Q0j k (own4 base++List.replicate ((8+4*(k:Int)).toNat-2) 0)):=by
 have hr: ∀i,(List.replicate k (FqP.idle 0)).getD i (FqP.idle 0)=FqP.idle 0:=fun i=>by
  rw[List.getD_eq_getElem?_getD,List.getElem?_replicate];split<;>rfl
 have hx: ∀j,Q0j k (own4 base++List.replicate ((8+4*(k:Int)).toNat-2) 0) j=0:=fun j=>by
  unfold Q0j
  split
  ·rcases j with _|_|j
   ·rfl
   ·rfl
   ·show(List.replicate ((8+4*(k:Int)).toNat-2) (0:Int)).getD j 0=0
    rw[List.getD_eq_getElem?_getD,List.getElem?_replicate];split<;>rfl
  ·rfl
 refine⟨h1,by omega,by simp,⟨[],List.nodup_nil,by simp,fun i hi=> ?_,hx 0,trivial,trivial,fun i hi=> ?_⟩,?_,fun j hj=> ?_⟩
 ·show _↔(Q4v ((List.replicate k (FqP.idle 0)).getD i (FqP.idle 0))).inq=true
  rw[hr];simp[Q4v,Mk.inq]
 ·show((Q4v ((List.replicate k (FqP.idle 0)).getD i (FqP.idle 0))=_∨Q4v ((List.replicate k (FqP.idle 0)).getD i (FqP.idle 0))=_)→_)∧(Q4v ((List.replicate k (FqP.idle 0)).getD i (FqP.idle 0))=_→_)
  rw[hr];exact⟨(fun h=>by rcases h with h|h<;>cases h),(fun h=>by cases h)⟩
 ·rw[hx]
  exact(Q0R (f:=Q2A) rfl).symm
 ·show X9I _ ((List.replicate k (FqP.idle 0)).getD j (FqP.idle 0))
  rw[hr];exact Or.inl rfl
theorem Y3x(k:Nat)(base:Int)(h1:1≤k)(h2:k≤64)(hb:0≤base∧base<4294967296)(B:Nat)(hB:B≤100000):rfI k B (List.replicate k (rfK.idle 0)) (Q0j k (Q9j base++List.replicate ((8+4*(k:Int)).toNat-1) 0)):=by
 refine⟨by omega,by simp,?_,?_,fun _=>Q0R rfl,fun p hp=> ?_⟩
 ·rw[Q0R (f:=rfW) rfl,Q0R (f:=rfR) rfl]
  simp[Q0j,Q9j]
 ·rw[Q0R (f:=rfW) rfl];decide
 ·rw[(List.mem_replicate.1 hp).2];exact Or.inl rfl
theorem Y2R(k:Nat)(base:Int)(h1:1≤k)(h2:k≤64)(hb:0≤base∧base<4294967296)(B:Nat)(hB:B≤100000):wfI k B (List.replicate k (wfK.idle 0)) (Q0j k (Q8A base++List.replicate ((8+4*(k:Int)).toNat-1) 0)):=by
 have hr: ∀i,(List.replicate k (wfK.idle 0)).getD i (wfK.idle 0)=wfK.idle 0:=fun i=>by
  rw[List.getD_eq_getElem?_getD,List.getElem?_replicate];split<;>rfl
 have hx:Q0j k (Q8A base++List.replicate ((8+4*(k:Int)).toNat-1) 0) 0=base%256*65792:=by simp[Q0j,Q8A]
 refine⟨by omega,by simp,0,base%256,base%256,fun _=>0,?_⟩
 rw[hx]
 have hz:0≤base%256∧base%256<256:=by omega
 generalize base%256=z at hz
 have z0:z*65792%256=0:=by omega
 have z1:z*65792/256=z*257:=by omega
 have z2:z*65792/65536=z:=by omega
 have z3:z*257%256=z:=by omega
 refine⟨by omega,z0,by unfold wfT;rw[z1,z3];omega,by unfold wfG;rw[z2],by omega,?_,?_,fun i _ h=> ?_,fun i j _ _ _ h=> ?_,fun t g1 g2=>by omega,fun i _=> ?_⟩
 ·rw[Q0R (f:=Q4J) rfl];omega
 ·rw[Q0R (f:=Q5m) rfl]
 ·rw[hr,show Q4J (wfK.idle 0)=0 from rfl]at h;exact absurd h (by decide)
 ·rw[hr,show Q4J (wfK.idle 0)=0 from rfl]at h;exact absurd h (by decide)
 ·rw[hr];exact Or.inl rfl
end Go.Proofs.YthnimpkoidablaaGreat.Z
