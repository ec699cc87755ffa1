import Derived.Test.YthnimpkoidablaaGreatZA23
import Derived.Test.YthnimpkoidablaaGreatZR08
import Derived.Test.YthnimpkoidablaaGreatZR09
import Derived.Test.YthnimpkoidablaaGreatZR10
import Derived.Test.YthnimpkoidablaaGreatZR11
set_option linter.unusedVariables false
set_option linter.unusedSimpArgs false
set_option maxHeartbeats 6400000
namespace Go.Proofs.YthnimpkoidablaaGreat.Z
open Go.RowKit
theorem Y2R(k:Nat)(base:Int)(h1:1≤k)(h2:k≤64)(hb:0≤base∧base<4294967296)(B:Nat)(hB:B≤100000):wfI k B (List.replicate k (wfK.idle 0)) (Q0j k (Q8A base++List.replicate ((8+4*(k:Int)).toNat-1) 0)):=by
 have hr: ∀i,(List.replicate k (wfK.idle 0)).getD i (wfK.idle 0)=wfK.idle 0:=fun i=>by
  rw[List.getD_eq_getElem?_getD,List.getElem?_replicate];split<;>rfl
 have hx:Q0j k (Q8A base++List.replicate ((8+4*(k:Int)).toNat-1) 0) 0=base%256*65792:=by simp[Q0j,Q8A]
 refine⟨by omega,by simp,0,base%256,base%256,fun _=>0,?_⟩
 rw[hx]
 have hz:0≤base%256∧base%256<256:=by omega
 generalize base%256=z at hz
 have z0:z*65792%256=0:=by omega
 have z1:z*65792/256=z*257:=by omega
 have z2:z*65792/65536=z:=by omega
 have z3:z*257%256=z:=by omega
 refine⟨by omega,z0,by unfold wfT;rw[z1,z3];omega,by unfold wfG;rw[z2],by omega,?_,?_,fun i _ h=> ?_,fun i j _ _ _ h=> ?_,fun t g1 g2=>by omega,fun i _=> ?_⟩
 ·rw[Q0R (f:=Q4J) rfl];omega
 ·rw[Q0R (f:=Q5m) rfl]
 ·rw[hr,show Q4J (wfK.idle 0)=0 from rfl]at h;exact absurd h (by decide)
 ·rw[hr,show Q4J (wfK.idle 0)=0 from rfl]at h;exact absurd h (by decide)
 ·rw[hr];exact Or.inl rfl
theorem absf_lines{P:Type}{K:Q3D P}{n:Nat}{mode:Int}{t:Nat}{f:Fr}{h:Int}{p:P}(A:Q5F K n mode t f h p)(hw:f.wk.on=false):(f=(K.conc p).1∧h=(K.conc p).2)∨ ∃q c pr,K.wait t q=some (c,pr)∧f.op=(K.conc q).1.op∧f.line=(K.conc q).1.line:=by
 cases A with
 |plain=>exact Or.inl ⟨rfl,rfl⟩
 |waking _ k _ hk=>exact absurd hw (by show¬(k.on=false);rw[hk];decide)
 |staged _ c pr st _ _ hwt=>exact Or.inr ⟨p,c,pr,hwt,rfl,rfl⟩
 |seen q c pr v _ _ hwt=>exact Or.inr ⟨q,c,pr,hwt,rfl,rfl⟩
 |over _ _ _ hk=>rw[hk]at hw;cases hw
theorem okW_of{n b:Nat}{M:Mt}{ps:List WfP}(H:MI wfK (wfI n) n b M ps)(h1:1≤n)(hW:Words M.L){i:Nat}(hi:i<n){f:Fr}{h:Int}(hf:Y5N f)(A:Q5F wfK n M.mode i f h (ps.getD i (wfK.idle 0))∨(f.line=0∧(f.op=2→Q5m (ps.getD i (wfK.idle 0))=1)))(hw:f.wk.on=false):OkW (M.run i f):=by
 have hl:=H.len
 obtain⟨hn,hpl,R,U,G,T,I⟩:=H.inv
 obtain⟨hR0,hR,_,_⟩:=I.few hn hpl
 have em:Q0j n M.L 0=M.L.getD 0 0:=by unfold Q0j;rw[if_pos (by omega)]
 have hr:=I.r
 have ht:=I.t
 rw[em]at hr ht
 have hread:Q5m (ps.getD i (wfK.idle 0))=1→1≤R:=fun h=>by
  have:=Q0m (d:=wfK.idle 0) X2e (l:=ps) (i:=i) (by omega)
  have:=I.nr
  omega
 refine⟨okU_of hf hW (by omega),by show wfR (M.L.getD 0 0)≤64;omega,?_⟩
 show(f.op=2∧f.line=0→1≤wfR (M.L.getD 0 0))∧((f.op=4∨f.op=8)∧f.line=1→wfT f.a=wfT (M.L.getD 0 0))∧(f.op=7∧f.line=1→wfR f.a=1)
 generalize M.L.getD 0 0=x at hr ht⊢
 rcases A with A|⟨hl0,h2⟩
 ·have hat:=I.at_ i hi
  generalize hp:ps.getD i (wfK.idle 0)=p at A hat hread
  rcases absf_lines A hw with⟨e,_⟩|⟨q,c,pr,hwt,e1,e2⟩
  ·rw[e]
   cases p<;>simp[wfK,Q2B,Q4z,Fr.zero]<;>simp[X0M]at hat
   ·rw[hr];exact hread rfl
   ·rw[hat.2.2,ht]
   ·rw[hat.2.2,ht]
   ·exact hat.2
  ·have:f.op=1∧f.line=2∨f.op=3∧f.line=1:=by
    rw[e1,e2]
    cases q<;>simp[wfK,Q3r]at hwt<;>simp[wfK,Q2B,Q4z]
   refine⟨fun h=>by omega,fun h=>by omega,fun h=>by omega⟩
 ·exact⟨fun h=>by rw[hr];exact hread (h2 h.1),fun h=>by omega,fun h=>by omega⟩
theorem wf_round(k:Nat)(mode b1 b2:Int)(h1:1≤k)(h2:k≤64)(hm:mode=1∨mode=2)(hb1:0≤b1∧b1<4294967296)(hb2:0≤b2∧b2<4294967296):Round wfA (Mt.start k mode (X0N Q8A 1 k b1)) (Mt.start k mode (X0N Q8A 1 k b2)):=by
 obtain⟨d,hdd⟩: ∃d,(b2%256-b1%256)%65536=d:=⟨_,rfl⟩
 have hd:0≤d∧d<65536:=by omega
 have hz: ∀op,wfRA d op 0 0 0∧wfRB d op 0 0 0:=fun op=>⟨Or.inl rfl,rfl⟩
 have hs:b2%256*65792=tw d (b1%256*65792):=by
  have hx:0≤b1%256∧b1%256<256:=by omega
  have hy:0≤b2%256∧b2%256<256:=by omega
  generalize b1%256=x at*
  generalize b2%256=y at*
  have z0:x*65792%256=0:=by omega
  have z1:x*65792/256=x*257:=by omega
  have z2:x*65792/65536=x:=by omega
  unfold tw
  rw[z0,z1,z2]
  omega
 have A:=X3k k mode
 refine⟨fun b M1 M2=>MtSh (twT d) (wfRA d) (wfRB d) M1 M2∧ ∃ps,MI wfK (wfI k) k (2*b) M1 ps∧M1.mode=mode,⟨start_sh (hz 0) (shL_start rfl (fun j hj=> ?_) (fun j hj=> ?_)),_,X7c (Y2S k mode) (fun t h=>rfl) _ (by simp[X0N,Q8A];omega) (Y2R k b1 h1 h2 hb1 1200 (by omega)),rfl⟩,fun b M1 M2 t op h F W=> ?_⟩
 ·have hj:j<1:=hj
  obtain rfl:j=0:=by omega
  exact hs
 ·have hj:1≤j:=hj
  unfold twT
  rw[if_neg (by omega)]
 ·obtain⟨hsh,ps,H,hM⟩:=h
  have hfs:=H.fsl
  obtain⟨p1,p2⟩:=pickE_sh (twT_far d) (wf_sh hd) hz hsh F.hlen t op (fun i hi hop hmay=>by
   have hin:i<k:=by omega
   obtain⟨_,e2⟩:=(H.abs i hin).idle (by rw[hM];exact Y2S k mode) hop
   refine okW_of (h:=0) H h1 W hin ⟨by simp[Q4h],by simp[Q4h]⟩ (Or.inr ⟨rfl,fun ho=> ?_⟩) rfl
   have ho:op=2:=ho
   subst ho
   rw[e2]
   rcases Q2L hmay with⟨_,h3⟩|⟨h3,_⟩|⟨_,_,h3⟩
   ·omega
   ·rw[h3];rfl
   ·omega) (fun i hi hop hw=>okW_of H h1 W (by omega) (F.Y2w i) (Or.inl (H.abs i (by omega))) hw)
  obtain⟨ps',H',hM'⟩:=X4Y A h1 h2 hm hM (b:=2*b) (by rw[show 2*b+2=2*(b+1)by omega];exact H) t op
  exact⟨⟨p1,ps',H',hM'⟩,p2⟩
theorem kind_round(kind:Int)(h:1≤kind∧kind≤6): ∃fid g Z,Q4W kind fid g Z∧ ∀(k:Nat) (mode b1 b2:Int),1≤k→k≤64→mode=1∨mode=2→0≤b1∧b1<4294967296→0≤b2∧b2<4294967296→b2%2=b1%2→Round g (Mt.start k mode (Z k b1)) (Mt.start k mode (Z k b2)):=by
 have:kind=1∨kind=2∨kind=3∨kind=4∨kind=5∨kind=6:=by omega
 rcases this with rfl|rfl|rfl|rfl|rfl|rfl
 ·exact⟨_,_,_,X8I,fun k mode b1 b2 h1 h2 hm hb1 hb2 he=>tf_round k mode b1 b2 h1 hb1 hb2⟩
 ·exact⟨_,_,_,X8L,fun k mode b1 b2 h1 h2 hm hb1 hb2 he=>pf_round k mode b1 b2 h1 hb1 hb2 he⟩
 ·exact⟨_,_,_,X8K,fun k mode b1 b2 h1 h2 hm hb1 hb2 he=>pq_round k mode b1 b2 h1 hb1 hb2 he⟩
 ·exact⟨_,_,_,X0D,fun k mode b1 b2 h1 h2 hm hb1 hb2 he=>round_same _ _⟩
 ·exact⟨_,_,_,X8J,fun k mode b1 b2 h1 h2 hm hb1 hb2 he=>round_same _ _⟩
 ·exact⟨_,_,_,X8H,fun k mode b1 b2 h1 h2 hm hb1 hb2 he=>wf_round k mode b1 b2 h1 h2 hm hb1 hb2⟩
section
open Go.RowKit Go
theorem countF_set: ∀(l:List Bool) (i:Nat),l[i]? =some false→(l.set i true).countP (fun b=> !b)+1=l.countP (fun b=> !b)
 |[],i,h=>by simp at h
 |b::l,0,h=>by
  have h:b=false:=by simpa using h
  subst h
  simp[List.countP_cons]
 |b::l,i+1,h=>by
  have:=countF_set l i (by simpa using h)
  simp only[List.set_cons_succ,List.countP_cons]
  omega
section
variable {P:Program}{ops:Array Oper}{Q:Exit→Act→World→Prop}{a:Act}{w:World}
theorem wp_region_inv{id:Nat}(hm:P.follows .mixedOrders=true)(hac: ∀(i:Nat) (o:Oper),ops[i]? =some o→ ∀e,e∈o.after→e.on<i)
 (Φ:(Nat→Bool)→Act→World→Prop) (h0:Φ (fun _=>false) a {w with drawn:=w.drawn+1})
 (hs: ∀(d:Nat→Bool) (a:Act) (w:World) (i:Nat) (o:Oper),Φ d a w→ops[i]? =some o→d i=false→(∀e,e∈o.after→Region.binds .any e=true→d e.on=true)→wpOp P ops Q i (fun a' w'=>Φ (fun k=>if k=i then true else d k) a' w') a w)
 (he: ∀a w,Φ (fun k=>decide (k<ops.size)) a w→Q .normal a w):(Code.region id ops true).wp P Q a w:=by
 have key: ∀(fuel:Nat) (l:Array Bool) (a:Act) (w:World),l.size=ops.size→l.toList.countP (fun b=> !b)≤fuel→Φ (fun k=>l.getD k false) a w→wpAny P .any ops Q fuel l a w:=by
  intro fuel
  induction fuel with
  |zero=>
   intro l a w hl hc hΦ
   have hall: ∀k,k<l.size→l.getD k false=true:=fun k hk=>by
    have h1:l.toList.countP (fun b=> !b)=0:=by omega
    rw[List.countP_eq_zero]at h1
    have h2:=h1 l[k] (by simp)
    simpa[hk]using h2
   have hr:Region.ready .any ops l=[]:=by
    rw[List.eq_nil_iff_forall_not_mem]
    intro j hj
    obtain⟨h1,o,ho,_⟩:=mem_ready.1 hj
    have hjs:j<l.size:=by rw[hl];exact(Array.getElem?_eq_some_iff.1 ho).1
    have:=hall j hjs
    simp[hjs]at h1 this
    rw[h1]at this
    cases this
   refine⟨hr,he a w ?_⟩
   have e:(fun k=>l.getD k false)=fun k=>decide (k<ops.size):=by
    funext k
    by_cases hk:k<l.size
    ·rw[hall k hk,hl]at*
     simp[←hl,hk]
    ·simp[hk]
     omega
   rw[e]at hΦ
   exact hΦ
  |succ fuel ih=>
   intro l a w hl hc hΦ
   constructor
   ·intro hr
    refine he a w ?_
    have hall: ∀k,k<l.size→l.getD k false=true:=by
     intro k
     induction k using Nat.strongRecOn with
     |_ k ihk=>
      intro hk
      rcases Bool.eq_false_or_eq_true (l.getD k false)with h|h
      ·exact h
      ·exfalso
       have hko:k<ops.size:=by omega
       have hin:k∈Region.ready .any ops l:=mem_ready.2 ⟨by simp[hk]at h⊢;exact h,ops[k],Array.getElem?_eq_getElem hko,fun e he' _=>ihk e.on (hac k _ (Array.getElem?_eq_getElem hko) e he') (by have:=hac k _ (Array.getElem?_eq_getElem hko) e he';omega)⟩
       rw[hr]at hin
       cases hin
    have e:(fun k=>l.getD k false)=fun k=>decide (k<ops.size):=by
     funext k
     by_cases hk:k<l.size
     ·rw[hall k hk]
      simp[←hl,hk]
     ·simp[hk]
      omega
    rw[e]at hΦ
    exact hΦ
   ·intro i hi
    obtain⟨h1,o,ho,h2⟩:=mem_ready.1 hi
    have his:i<l.size:=by rw[hl];exact(Array.getElem?_eq_some_iff.1 ho).1
    have hif:l.getD i false=false:=by simp[his]at h1⊢;exact h1
    refine wpOp_mono (fun a' w' h3=>ih (l.setIfInBounds i true) a' w' (by simp[hl]) ?_ ?_) (hs _ a w i o hΦ ho hif h2)
    ·have:=countF_set l.toList i (by simp[his]at hif⊢;exact hif)
     simp only[Array.toList_setIfInBounds]
     omega
    ·have e:(fun k=>(l.setIfInBounds i true).getD k false)=fun k=>if k=i then true else l.getD k false:=by
      funext k
      by_cases hk:k=i
      ·subst hk;simp[his]
      ·rw[if_neg hk]
       by_cases hks:k<l.size
       ·simp[hks,Array.getElem_setIfInBounds,Ne.symm hk]
       ·simp[hks]
     rw[e]
     exact h3
 exact wp_region_any hm (key _ _ a _ (by simp) (by simpa using List.countP_le_length (p:=fun b=> !b) (l:=List.replicate ops.size false)) (by
  have e:(fun k=>(Array.replicate ops.size false).getD k false)=fun _=>false:=by
   funext k
   by_cases hk:k<ops.size<;>simp[hk]
  rw[e]
  exact h0))
variable {i:Nat}{o:Oper}{K:Act→World→Prop}
theorem wpOp_of(ho:ops[i]? =some o)(hg:o.guard=none)(h:o.wp P a w K Q):wpOp P ops Q i K a w:=by
 unfold wpOp
 rw[ho]
 have hw:Region.wanted o (yielded ops a.tmps)=true:=by simp[Region.wanted,hg]
 simp only[hw,if_true]
 exact .inl h
theorem wpo_move(x:Operand)(ho:o.op= .move x)(h:K (a.put o.dst (a.eval x)) w):o.wp P a w K Q:=by
 unfold Oper.wp execOp
 simp only[ho,Sem.run_pure,Oper.upon]
 exact h
theorem wpo_index(t e:TypeId)(x y:Operand)(ho:o.op= .indexAddr t x y){A:Addr}{n c:Nat}{j:Nat}{s:Nat}(hx:a.eval x= .slice (some A) n c)(hy:a.eval y= .int .i64 j)(hu:P.underlying t=some (.slice e))(hi:(P.info? e).map (·.size)=some s)(hj:j<n)
 (h:K (a.put o.dst (.pointer (some (A.add (j*s))))) w):o.wp P a w K Q:=by
 have he:P.elem t=e:=by simp[Program.elem,hu]
 unfold Oper.wp execOp
 have hz:(sizeOf (P.elem t)).run P w= .ok s w:=by
  rw[he]
  obtain⟨f,hf,rfl⟩: ∃f,P.info? e=some f∧f.size=s:=by
   cases hq:P.info? e with
   |none=>rw[hq]at hi;simp at hi
   |some f=>rw[hq]at hi;exact⟨f,rfl,by simpa using hi⟩
  simp[sizeOf,typeInfo,hf]
 simp only[ho,hx,hy,Sem.run_bind,run_indexAt_slice w t A n c .i64 j (by rw[he];exact hu),hz]
 rw[if_pos ⟨by omega,by omega⟩]
 simp only[Result.andThen_ok,Sem.run_pure,Oper.upon,Int.toNat_natCast]
 exact h
theorem wpo_call{f:FuncId}{args:Array Operand}{ts:Array TypeId}{vs:Array Value}(ho:o.op= .call {callee:= .value (.func f),args:=args,argTypes:=ts})
 (eg: ∀args w,(callFunc f args).run P w= .ok (.enter f args) w) (hv:args.map a.eval=vs) (hc:Calls P f vs w fun e w'=> ∃v,e= .returned v∧K (a.put o.dst v) w'):o.wp P a w K Q:=by
 unfold Oper.wp
 rw[Q9D ho eg,hv]
 simp only[Oper.upon]
 refine hc.mono ?_
 rintro e w' ⟨v,rfl,h⟩
 exact h
theorem wpo_alloc(t:TypeId)(ho:o.op= .alloc t){z:Value}(hz:(P.info? t).map (·.zero)=some (some z))(h:K (a.put o.dst (.pointer (some ⟨w.heap.size,0,none⟩))) (w.alloc (.cells z.cells t))):o.wp P a w K Q:=by
 obtain⟨f,hf,hfz⟩: ∃f,P.info? t=some f∧f.zero=some z:=by
  cases hq:P.info? t with
  |none=>rw[hq]at hz;simp at hz
  |some f=>rw[hq]at hz;exact⟨f,rfl,by simpa using hz⟩
 have hr:(zeroValue t).run P w= .ok z w:=by simp[zeroValue,typeInfo,hf,hfz]
 unfold Oper.wp execOp
 simp[ho,Instr.alloc,hr,newVar,newRow,newObj,Oper.upon]
 exact h
theorem put_getD(a:Act)(t s:Nat)(v:Value)(ht:t<a.tmps.size):(a.put (some t) v).tmps.getD s undef=if s=t then v else a.tmps.getD s undef:=by
 show(a.tmps.setIfInBounds t v).getD s undef=_
 by_cases h:s=t
 ·subst h;simp[ht]
 ·rw[if_neg h]
  by_cases hs:s<a.tmps.size
  ·simp[hs,Array.getElem_setIfInBounds,Ne.symm h]
  ·simp[hs]
end
end
attribute [local go_sem↓] Go.wp_at_zero Go.wp_at_succ
def BX(W:World)(b0 b1:Nat)(xc yc:Array Value)(w:World):Prop:= ∃rest,Has [] W w (.blk b1 yc:: .blk b0 xc::rest)
theorem bx{W:World}{b0 b1:Nat}{xc yc:Array Value}{w:World}(h:BX W b0 b1 xc yc w):BX W b0 b1 xc yc w∧(∀i,w.cell? ⟨b0,i,none⟩=xc[i]?)∧(∀i,w.cell? ⟨b1,i,none⟩=yc[i]?):=by
 obtain⟨rest,H⟩:=h
 exact⟨⟨rest,H⟩,(Has.at_ H 1 rfl).cell,(Has.at_ H 0 rfl).cell⟩
theorem other_bits{o b:Int}(ho:0≤o∧o<4294967296)(hb:0≤b∧b<4294967296):Go.bits .or .u32 (Go.bits .andNot .u32 o 1) (Go.bits .and .u32 b 1)=o-o%2+b%2:=by
 obtain⟨n,rfl⟩: ∃n:Nat,o=n:=⟨o.toNat,by omega⟩
 obtain⟨m,rfl⟩: ∃m:Nat,b=m:=⟨b.toNat,by omega⟩
 have h:=ZB.X4i n m 1 (by omega) (by omega) (by omega)
 rw[Nat.and_one_is_mod,Nat.and_one_is_mod]at h
 have h:Go.bits .or .u32 (Go.bits .andNot .u32 (n:Int) 1) (Go.bits .and .u32 (m:Int) 1)=(n:Int)-((n%2:Nat):Int)+((m%2:Nat):Int):=h
 rw[h]
 omega
def W2(W:World)(p q:Wl)(b0 b1:Nat)(xc yc:Array Value)(M1 M2:Mt)(rs:List Res)(w:World):Prop:=
 Q2N [] W q (.mem p.m p.a M1.L:: .blk p.x (Q2H p M1.mode M1.n M1.fs.length):: .blk p.tb (Q1t M1.hold M1.fs).toArray:: .blk b1 yc:: .blk b0 xc::rs) M2 w∧X3d M1
theorem W2.swap{W:World}{p q:Wl}{b0 b1:Nat}{xc yc:Array Value}{M1 M2:Mt}{rs:List Res}{w:World}(h:W2 W p q b0 b1 xc yc M1 M2 rs w):W2 W q p b0 b1 xc yc M2 M1 rs w:=by
 obtain⟨⟨F2,H⟩,F1⟩:=h
 exact⟨⟨F1,H.perm ((List.perm_append_comm (l₁:=[_,_,_]) (l₂:=[_,_,_])).append_right _)⟩,F2⟩
theorem perm_past8{α:Type}(x:α)(ys rs:List α){zs:List α}(e:zs=ys++rs):(x::zs).Perm (ys++x::rs):=by
 subst e
 exact List.perm_middle.symm
theorem W2.grow{W:World}{p q:Wl}{b0 b1:Nat}{xc yc:Array Value}{M1 M2:Mt}{rs:List Res}{w w':World}(h:W2 W p q b0 b1 xc yc M1 M2 rs w)(t:Touch [] w w'):W2 W p q b0 b1 xc yc M1 M2 rs w':=⟨h.1.grow t,h.2⟩
theorem W2.box{W:World}{p q:Wl}{b0 b1:Nat}{xc yc:Array Value}{M1 M2:Mt}{rs:List Res}{w:World}(h:W2 W p q b0 b1 xc yc M1 M2 rs w){c0:Array Value}{t0:TypeId}:W2 W p q b0 b1 xc yc M1 M2 (.blk w.heap.size c0::rs) (w.alloc (.cells c0 t0)):=
 ⟨⟨h.1.1,((h.1.2.X1F (c0:=c0) (t0:=t0)).perm (perm_past8 _ [_,_,_,_,_,_,_,_] rs rfl))⟩,h.2⟩
theorem W2.touch{W:World}{p q:Wl}{b0 b1:Nat}{xc yc:Array Value}{M1 M2:Mt}{rs:List Res}{w:World}(h:W2 W p q b0 b1 xc yc M1 M2 rs w):Touch [] W w:=h.1.touch
theorem W2.pick{W:World}{p q:Wl}{b0 b1:Nat}{xc yc:Array Value}{M1 M2:Mt}{g:Rn→Rn}(K:Q8Y q.fid g)(t op:Int){rs:List Res}{w:World}(h:W2 W p q b0 b1 xc yc M1 M2 rs w):
 Calls Tryz.prog 12 #[.pointer (some ⟨q.x,0,none⟩), .agg #[.int .i64 t, .int .i64 op]] w fun e w'=> ∃nv,e= .returned (.agg ((M2.Q3R g t op).2.cells nv))∧W2 W p q b0 b1 xc yc M1 (M2.Q3R g t op).1 (.own 40 4 nv (M2.Q3R g t op).2.notes.length (nts (M2.Q3R g t op).2.notes)::rs) w':=
 (Q7P K h.1 t op).mono fun e w' ⟨nv,he,F,H⟩=>⟨nv,he,⟨F,H.perm (((perm_past8 _ [_,_,_,_,_] rs rfl).cons _|>.cons _|>.cons _))⟩,h.2⟩
theorem W2.put7{W:World}{p q:Wl}{b0 b1:Nat}{xc yc:Array Value}{M1 M2:Mt}(rs1:List Res){rs2:List Res}{w:World}{b:Nat}{u0 u1 u2 u3 u4 u5 u6:Value}(v0 v1 v2 v3 v4 v5 v6:Value)(h:W2 W p q b0 b1 xc yc M1 M2 (rs1++ .blk b #[u0,u1,u2,u3,u4,u5,u6]::rs2) w):
 W2 W p q b0 b1 xc yc M1 M2 (rs1++ .blk b #[v0,v1,v2,v3,v4,v5,v6]::rs2) (((((((w.setCell ⟨b,0,none⟩ v0).setCell ⟨b,1,none⟩ v1).setCell ⟨b,2,none⟩ v2).setCell ⟨b,3,none⟩ v3).setCell ⟨b,4,none⟩ v4).setCell ⟨b,5,none⟩ v5).setCell ⟨b,6,none⟩ v6):=by
 obtain⟨⟨F2,H⟩,F1⟩:=h
 refine⟨⟨F2,?_⟩,F1⟩
 have e: ∀c,([.mem q.m q.a M2.L, .blk q.x (Q2H q M2.mode M2.n M2.fs.length), .blk q.tb (Q1t M2.hold M2.fs).toArray, .mem p.m p.a M1.L, .blk p.x (Q2H p M1.mode M1.n M1.fs.length), .blk p.tb (Q1t M1.hold M1.fs).toArray, .blk b1 yc, .blk b0 xc]++rs1++ .blk b c::rs2:List Res).Perm (.blk b c::([.mem q.m q.a M2.L, .blk q.x (Q2H q M2.mode M2.n M2.fs.length), .blk q.tb (Q1t M2.hold M2.fs).toArray, .mem p.m p.a M1.L, .blk p.x (Q2H p M1.mode M1.n M1.fs.length), .blk p.tb (Q1t M1.hold M1.fs).toArray, .blk b1 yc, .blk b0 xc]++rs1++rs2)):=fun c=>List.perm_middle
 have h1:=Has.setMany [v0,v1,v2,v3,v4,v5,v6] (cs:=[u0,u1,u2,u3,u4,u5,u6]) 0 (H.perm (e _))
 exact h1.perm (e _).symm
theorem W2.sto{P:Program}{o:Oper}{a:Act}{K:Act→World→Prop}{Q:Exit→Act→World→Prop}(ty:TypeId)(x y:Operand)(ho:o.op= .store ty x y)
 {W:World} {p q:Wl} {b0 b1:Nat} {xc yc:Array Value} {M1 M2:Mt} (rs1:List Res) {rs2:List Res} {w:World} {b:Nat} {u0 u1 u2 u3 u4 u5 u6 v0 v1 v2 v3 v4 v5 v6:Value} (H:W2 W p q b0 b1 xc yc M1 M2 (rs1++ .blk b #[u0,u1,u2,u3,u4,u5,u6]::rs2) w)
 (hx:a.eval x= .pointer (some ⟨b,0,none⟩)) (hy:a.eval y= .agg #[v0,v1,v2,v3,v4,v5,v6]) (hi:(P.info? ty).map (·.size)=some 7) (h1:(#[v0,v1,v2,v3,v4,v5,v6]:Array Value).all (·.oneCell')=true)
 (h: ∀w',W2 W p q b0 b1 xc yc M1 M2 (rs1++ .blk b #[v0,v1,v2,v3,v4,v5,v6]::rs2) w'→K (a.put o.dst undef) w'):Oper.wp P o a w K Q:=by
 have hb:Blk w b #[u0,u1,u2,u3,u4,u5,u6]:=by
  have h2:=H.1.2.perm (List.perm_middle (l₁:=[_,_,_,_,_,_,_,_]++rs1))
  exact Has.at_ h2 0 rfl
 exact wp_store_mid ty x y ho b 0 _ hx hy (Q2m hb (by simp)) hi h1 (h _ (W2.put7 rs1 v0 v1 v2 v3 v4 v5 v6 H))
theorem W2.perm{W:World}{p q:Wl}{b0 b1:Nat}{xc yc:Array Value}{M1 M2:Mt}{rs rs':List Res}{w:World}(h:W2 W p q b0 b1 xc yc M1 M2 rs w)(hp:rs.Perm rs'):W2 W p q b0 b1 xc yc M1 M2 rs' w:=
 ⟨⟨h.1.1,h.1.2.perm (hp.append_left [_,_,_,_,_,_,_,_])⟩,h.2⟩
theorem W2.drop{W:World}{p q:Wl}{b0 b1:Nat}{xc yc:Array Value}{M1 M2:Mt}{r:Res}{rs:List Res}{w:World}(h:W2 W p q b0 b1 xc yc M1 M2 (r::rs) w):W2 W p q b0 b1 xc yc M1 M2 rs w:=
 ⟨⟨h.1.1,Has.tail (h.1.2.perm (List.perm_middle (l₁:=[_,_,_,_,_,_,_,_])))⟩,h.2⟩
def rgD(i:Nat):Nat:=if i<12 then 41+i else i-1
def rgU(d:Nat→Bool)(i:Nat):Nat→Bool:=fun k=>if k=i then true else d k
def AG(T:Array Value)(l:List Value)(d:Nat→Bool)(a:Act):Prop:=
 a.tmps.size=T.size∧a.defers=[]∧(∀k,(k<41∨52<k)→k≠11→k≠12→a.tmps.getD k undef=T.getD k undef)∧ ∀i,i<14→d i=true→a.tmps.getD (rgD i) undef=l.getD i undef
theorem AG.put{T:Array Value}{l:List Value}{d:Nat→Bool}{a:Act}(h:AG T l d a){i:Nat}(hi:i<14)(hT:52<T.size)(hl:l.length=14)(v:Value):AG T (l.set i v) (rgU d i) (a.put (some (rgD i)) v):=by
 obtain⟨h1,h2,h3,h4⟩:=h
 have hb:rgD i<a.tmps.size:=by rw[h1];unfold rgD;split<;>omega
 refine⟨?_,h2,?_,?_⟩
 ·show(a.tmps.setIfInBounds _ _).size=_
  simp[h1]
 ·intro k k1 k2 k3
  rw[put_getD _ _ _ _ hb,if_neg (by unfold rgD;split<;>omega)]
  exact h3 k k1 k2 k3
 ·intro k hk hd
  rw[put_getD _ _ _ _ hb]
  by_cases e:k=i
  ·subst e
   rw[if_pos rfl]
   simp[List.getD_eq_getElem?_getD,hl,hk]
  ·rw[if_neg (by unfold rgD;split<;>split<;>omega)]
   have hd:d k=true:=by simpa[rgU,e]using hd
   rw[h4 k hk hd]
   simp[List.getD_eq_getElem?_getD,Ne.symm e]
theorem AG.none{T:Array Value}{l:List Value}{d:Nat→Bool}{a:Act}(h:AG T l d a){i:Nat}(hi: ¬i<14)(v:Value):AG T l (rgU d i) (a.put none v):=by
 obtain⟨h1,h2,h3,h4⟩:=h
 refine⟨h1,h2,h3,fun k hk hd=>h4 k hk ?_⟩
 simpa[rgU,show k≠i by omega]using hd
def rsl(d:Nat→Bool)(n1:Nat)(s1:List Value)(nv1 nv2:Value)(pa pb:Nat)(Z E1 E2:Array Value):List Res:=
 (if d 5 then [.own 40 4 nv1 n1 s1]else [])++((if d 11 then [.own 40 4 nv2 n1 s1]else [])++((if d 12 then [.blk pa (if d 14 then E1 else Z)]else [])++(if d 13 then [.blk pb (if d 15 then E2 else Z)]else [])))
structure RgI(d:Nat→Bool):Prop where
 a:d 11=true→d 5=true
 b:d 14=true→d 5=true
 c:d 15=true→d 11=true
 e:d 14=true→d 12=true
 f:d 15=true→d 13=true
abbrev eZ:Array Value:= #[.bool false, .int .i64 0, .int .i64 0, .int .u32 0, .int .u32 0, .int .u32 0, .slice none 0 0]
abbrev eC(r:Bool)(k c:Int)(y z o:Int)(nv:Value):Array Value:= #[.bool r, .int .i64 k, .int .i64 c, .int .u32 y, .int .u32 z, .int .u32 o,nv]
section
variable (W:World)(p q:Wl)(b0 b1:Nat)(xc yc:Array Value)(M1 M2 N1 N2:Mt)(T:Array Value)(A0 B0 S0 J0 X pk:Value)(r:Bool)(k c y1 z1 o1 y2 z2 o2:Int)(n1:Nat)(s1:List Value)
abbrev rgL(nv1 nv2:Value)(pa pb:Nat):List Value:=[A0,S0,J0,X,pk, .agg (eC r k c y1 z1 o1 nv1),B0,S0,J0,X,pk, .agg (eC r k c y2 z2 o2 nv2), .pointer (some ⟨pa,0,none⟩), .pointer (some ⟨pb,0,none⟩)]
def RG(d:Nat→Bool)(a:Act)(w:World):Prop:=
 RgI d∧ ∃nv1 nv2 pa pb,AG T (rgL A0 B0 S0 J0 X pk r k c y1 z1 o1 y2 z2 o2 nv1 nv2 pa pb) d a∧(d 5=true→ ∃P C,nv1= .slice P n1 C)∧(d 11=true→ ∃P C,nv2= .slice P n1 C)∧
  W2 W p q b0 b1 xc yc (if d 5 then N1 else M1) (if d 11 then N2 else M2) (rsl d n1 s1 nv1 nv2 pa pb eZ (eC r k c y1 z1 o1 nv1) (eC r k c y2 z2 o2 nv2)) w
variable {W p q b0 b1 xc yc M1 M2 N1 N2 T A0 B0 S0 J0 X pk r k c y1 z1 o1 y2 z2 o2 n1 s1}{d:Nat→Bool}{a:Act}{w:World}
theorem RG.mv(h:RG W p q b0 b1 xc yc M1 M2 N1 N2 T A0 B0 S0 J0 X pk r k c y1 z1 o1 y2 z2 o2 n1 s1 d a w){i:Nat}(hi:i<14)(h5:i≠5∧i≠11∧i≠12∧i≠13)(hT:52<T.size)(v:Value)(hv: ∀nv1 nv2 pa pb,(rgL A0 B0 S0 J0 X pk r k c y1 z1 o1 y2 z2 o2 nv1 nv2 pa pb).set i v=rgL A0 B0 S0 J0 X pk r k c y1 z1 o1 y2 z2 o2 nv1 nv2 pa pb):RG W p q b0 b1 xc yc M1 M2 N1 N2 T A0 B0 S0 J0 X pk r k c y1 z1 o1 y2 z2 o2 n1 s1 (rgU d i) (a.put (some (rgD i)) v) w:=by
 obtain⟨hI,nv1,nv2,pa,pb,hA,hs1,hs2,hw⟩:=h
 have e: ∀j,14≤j∨j=5∨j=11∨j=12∨j=13→rgU d i j=d j:=fun j hj=>by simp[rgU,show j≠i by omega]
 refine⟨⟨?_,?_,?_,?_,?_⟩,nv1,nv2,pa,pb,?_,?_,?_,?_⟩
 ·rw[e 5 (by omega),e 11 (by omega)];exact hI.a
 ·rw[e 5 (by omega),e 14 (by omega)];exact hI.b
 ·rw[e 11 (by omega),e 15 (by omega)];exact hI.c
 ·rw[e 12 (by omega),e 14 (by omega)];exact hI.e
 ·rw[e 13 (by omega),e 15 (by omega)];exact hI.f
 ·have:=hA.put hi hT rfl v
  rwa[hv]at this
 ·rw[e 5 (by omega)];exact hs1
 ·rw[e 11 (by omega)];exact hs2
 ·unfold rsl at*
  rw[e 5 (by omega),e 11 (by omega),e 12 (by omega),e 13 (by omega),e 14 (by omega),e 15 (by omega)]
  exact hw
theorem RG.rd(h:RG W p q b0 b1 xc yc M1 M2 N1 N2 T A0 B0 S0 J0 X pk r k c y1 z1 o1 y2 z2 o2 n1 s1 d a w){i:Nat}(hi:i<14)(hd:d i=true){v:Value}(hv: ∀nv1 nv2 pa pb,(rgL A0 B0 S0 J0 X pk r k c y1 z1 o1 y2 z2 o2 nv1 nv2 pa pb).getD i undef=v):a.tmps.getD (rgD i) undef=v:=by
 obtain⟨hI,nv1,nv2,pa,pb,hA,_⟩:=h
 rw[hA.2.2.2 i hi hd,hv]
theorem RG.fr(h:RG W p q b0 b1 xc yc M1 M2 N1 N2 T A0 B0 S0 J0 X pk r k c y1 z1 o1 y2 z2 o2 n1 s1 d a w){j:Nat}(hj:(j<41∨52<j)∧j≠11∧j≠12):a.tmps.getD j undef=T.getD j undef:=by
 obtain⟨hI,nv1,nv2,pa,pb,hA,_⟩:=h
 exact hA.2.2.1 j hj.1 hj.2.1 hj.2.2
theorem RG.touch(h:RG W p q b0 b1 xc yc M1 M2 N1 N2 T A0 B0 S0 J0 X pk r k c y1 z1 o1 y2 z2 o2 n1 s1 d a w):Touch [] W w:=by
 obtain⟨hI,nv1,nv2,pa,pb,hA,_,_,hw⟩:=h
 exact hw.touch
theorem RG.c1(h:RG W p q b0 b1 xc yc M1 M2 N1 N2 T A0 B0 S0 J0 X pk r k c y1 z1 o1 y2 z2 o2 n1 s1 d a w)(hd:d 5=false)(hT:52<T.size):(∃rs,W2 W p q b0 b1 xc yc M1 M2 rs w∧ ∀w' P C,W2 W p q b0 b1 xc yc N1 M2 (.own 40 4 (.slice P n1 C) n1 s1::rs) w'→RG W p q b0 b1 xc yc M1 M2 N1 N2 T A0 B0 S0 J0 X pk r k c y1 z1 o1 y2 z2 o2 n1 s1 (rgU d 5) (a.put (some 46) (.agg (eC r k c y1 z1 o1 (.slice P n1 C)))) w'):=by
 obtain⟨hI,nv1,nv2,pa,pb,hA,hs1,hs2,hw⟩:=h
 have h11:d 11=false:=by
  cases e:d 11
  ·rfl
  ·exact absurd (hI.a e) (by simp[hd])
 have h14:d 14=false:=by
  cases e:d 14
  ·rfl
  ·exact absurd (hI.b e) (by simp[hd])
 have h15:d 15=false:=by
  cases e:d 15
  ·rfl
  ·exact absurd (hI.c e) (by simp[h11])
 simp only[hd,h11]at hw
 refine⟨_,hw,fun w' P C hw'=>⟨⟨by simp[rgU],by simp[rgU],by simp[rgU];exact hI.c,by simp[rgU];exact hI.e,by simp[rgU];exact hI.f⟩, .slice P n1 C,nv2,pa,pb,hA.put (i:=5) (by omega) hT rfl _,fun _=>⟨P,C,rfl⟩,?_,?_⟩⟩
 ·simp[rgU,h11]
 ·simp only[rsl,hd,h11,h14,h15,rgU]at hw'⊢
  exact hw'
theorem RG.c2(h:RG W p q b0 b1 xc yc M1 M2 N1 N2 T A0 B0 S0 J0 X pk r k c y1 z1 o1 y2 z2 o2 n1 s1 d a w)(hd:d 11=false)(hd5:d 5=true)(hT:52<T.size):(∃rs,W2 W p q b0 b1 xc yc N1 M2 rs w∧ ∀w' P C,W2 W p q b0 b1 xc yc N1 N2 (.own 40 4 (.slice P n1 C) n1 s1::rs) w'→RG W p q b0 b1 xc yc M1 M2 N1 N2 T A0 B0 S0 J0 X pk r k c y1 z1 o1 y2 z2 o2 n1 s1 (rgU d 11) (a.put (some 52) (.agg (eC r k c y2 z2 o2 (.slice P n1 C)))) w'):=by
 obtain⟨hI,nv1,nv2,pa,pb,hA,hs1,hs2,hw⟩:=h
 have h15:d 15=false:=by
  cases e:d 15
  ·rfl
  ·exact absurd (hI.c e) (by simp[hd])
 simp only[hd,hd5]at hw
 refine⟨_,hw,fun w' P C hw'=>⟨⟨by simp[rgU,hd5],by simp[rgU];exact hI.b,by simp[rgU],by simp[rgU];exact hI.e,by simp[rgU];exact hI.f⟩,nv1, .slice P n1 C,pa,pb,hA.put (i:=11) (by omega) hT rfl _,?_,fun _=>⟨P,C,rfl⟩,?_⟩⟩
 ·simp[rgU];exact hs1
 ·simp only[rsl,hd,hd5,h15,rgU]at hw'⊢
  exact hw'.perm (List.Perm.swap _ _ _)
theorem RG.box1(h:RG W p q b0 b1 xc yc M1 M2 N1 N2 T A0 B0 S0 J0 X pk r k c y1 z1 o1 y2 z2 o2 n1 s1 d a w)(hd:d 12=false)(hT:52<T.size)(t:TypeId):RG W p q b0 b1 xc yc M1 M2 N1 N2 T A0 B0 S0 J0 X pk r k c y1 z1 o1 y2 z2 o2 n1 s1 (rgU d 12) (a.put (some 11) (.pointer (some ⟨w.heap.size,0,none⟩))) (w.alloc (.cells eZ t)):=by
 obtain⟨hI,nv1,nv2,pa,pb,hA,hs1,hs2,hw⟩:=h
 have h14:d 14=false:=by
  cases e:d 14
  ·rfl
  ·exact absurd (hI.e e) (by simp[hd])
 refine⟨⟨by simp[rgU];exact hI.a,by simp[rgU];exact hI.b,by simp[rgU];exact hI.c,by simp[rgU],by simp[rgU];exact hI.f⟩,nv1,nv2,w.heap.size,pb,hA.put (i:=12) (by omega) hT rfl _,?_,?_,?_⟩
 ·simp[rgU];exact hs1
 ·simp[rgU];exact hs2
 ·have hw':=hw.box (c0:=eZ) (t0:=t)
  simp only[rsl,hd,h14,rgU]at hw'⊢
  refine hw'.perm ?_
  exact(List.perm_middle.symm).trans ((List.perm_middle.symm).append_left _)
theorem RG.Y2A(h:RG W p q b0 b1 xc yc M1 M2 N1 N2 T A0 B0 S0 J0 X pk r k c y1 z1 o1 y2 z2 o2 n1 s1 d a w)(hd:d 13=false)(hT:52<T.size)(t:TypeId):RG W p q b0 b1 xc yc M1 M2 N1 N2 T A0 B0 S0 J0 X pk r k c y1 z1 o1 y2 z2 o2 n1 s1 (rgU d 13) (a.put (some 12) (.pointer (some ⟨w.heap.size,0,none⟩))) (w.alloc (.cells eZ t)):=by
 obtain⟨hI,nv1,nv2,pa,pb,hA,hs1,hs2,hw⟩:=h
 have h15:d 15=false:=by
  cases e:d 15
  ·rfl
  ·exact absurd (hI.f e) (by simp[hd])
 refine⟨⟨by simp[rgU];exact hI.a,by simp[rgU];exact hI.b,by simp[rgU];exact hI.c,by simp[rgU];exact hI.e,by simp[rgU]⟩,nv1,nv2,pa,w.heap.size,hA.put (i:=13) (by omega) hT rfl _,?_,?_,?_⟩
 ·simp[rgU];exact hs1
 ·simp[rgU];exact hs2
 ·have hw':=hw.box (c0:=eZ) (t0:=t)
  simp only[rsl,hd,h15,rgU]at hw'⊢
  refine hw'.perm ?_
  exact(List.perm_middle.symm).trans (((List.perm_middle.symm).trans ((List.perm_middle.symm).append_left _)).append_left _)
theorem RG.sto1{P:Program}{K:Act→World→Prop}{Q:Exit→Act→World→Prop}{o:Oper}(t:TypeId)(ho:o.op= .store t (.tmp 11) (.tmp 46))(hn:o.dst=none)(h:RG W p q b0 b1 xc yc M1 M2 N1 N2 T A0 B0 S0 J0 X pk r k c y1 z1 o1 y2 z2 o2 n1 s1 d a w)(hd:d 14=false)(h5:d 5=true)(h12:d 12=true)(hi:(P.info? t).map (·.size)=some 7)(hK: ∀a w,RG W p q b0 b1 xc yc M1 M2 N1 N2 T A0 B0 S0 J0 X pk r k c y1 z1 o1 y2 z2 o2 n1 s1 (rgU d 14) a w→K a w):Oper.wp P o a w K Q:=by
 obtain⟨hI,nv1,nv2,pa,pb,hA,hs1,hs2,hw⟩:=h
 obtain⟨P1,C1,rfl⟩:=hs1 h5
 have e1:a.tmps.getD 11 undef=_:=hA.2.2.2 12 (by omega) h12
 have e2:a.tmps.getD 46 undef=_:=hA.2.2.2 5 (by omega) h5
 simp only[rsl,hd,h5,h12]at hw
 rw[←List.append_assoc]at hw
 refine W2.sto t _ _ ho _ hw e1 e2 hi (by simp[Value.oneCell']) fun w' hw'=> ?_
 rw[hn]
 refine hK _ _ ⟨⟨by simp[rgU];exact hI.a,by simp[rgU,h5],by simp[rgU];exact hI.c,by simp[rgU,h12],by simp[rgU];exact hI.f⟩,_,nv2,pa,pb,hA.none (i:=14) (by omega) _,fun _=>⟨P1,C1,rfl⟩,?_,?_⟩
 ·simp[rgU];exact hs2
 ·rw[List.append_assoc]at hw'
  simp only[rsl,h5,h12,rgU]
  exact hw'
theorem RG.sto2{P:Program}{K:Act→World→Prop}{Q:Exit→Act→World→Prop}{o:Oper}(t:TypeId)(ho:o.op= .store t (.tmp 12) (.tmp 52))(hn:o.dst=none)(h:RG W p q b0 b1 xc yc M1 M2 N1 N2 T A0 B0 S0 J0 X pk r k c y1 z1 o1 y2 z2 o2 n1 s1 d a w)(hd:d 15=false)(h11:d 11=true)(h13:d 13=true)(hi:(P.info? t).map (·.size)=some 7)(hK: ∀a w,RG W p q b0 b1 xc yc M1 M2 N1 N2 T A0 B0 S0 J0 X pk r k c y1 z1 o1 y2 z2 o2 n1 s1 (rgU d 15) a w→K a w):Oper.wp P o a w K Q:=by
 obtain⟨hI,nv1,nv2,pa,pb,hA,hs1,hs2,hw⟩:=h
 obtain⟨P1,C1,rfl⟩:=hs2 h11
 have e1:a.tmps.getD 12 undef=_:=hA.2.2.2 13 (by omega) h13
 have e2:a.tmps.getD 52 undef=_:=hA.2.2.2 11 (by omega) h11
 simp only[rsl,hd,h11,h13]at hw
 rw[←List.append_assoc,←List.append_assoc]at hw
 refine W2.sto t _ _ ho _ hw e1 e2 hi (by simp[Value.oneCell']) fun w' hw'=> ?_
 rw[hn]
 refine hK _ _ ⟨⟨by simp[rgU];exact hI.a,by simp[rgU];exact hI.b,by simp[rgU,h11],by simp[rgU];exact hI.e,by simp[rgU,h13]⟩,nv1,_,pa,pb,hA.none (i:=15) (by omega) _,?_,fun _=>⟨P1,C1,rfl⟩,?_⟩
 ·simp[rgU];exact hs1
 ·rw[List.append_assoc,List.append_assoc]at hw'
  simp only[rsl,h11,h13,rgU]
  exact hw'
theorem tmps_eq: ∀(l:List (Nat×Value)) (U T:Array Value),U.size=T.size→(∀e∈l,U.getD e.1 undef=e.2)→(∀k,(∀e∈l,e.1≠k)→U.getD k undef=T.getD k undef)→U=l.foldl (fun t e=>t.setIfInBounds e.1 e.2) T
 |[],U,T,hs,_,h=>Array.ext hs (fun i h1 h2=>by
   have:=h i (by simp)
   have h3:i<T.size:=h2
   rw[Array.getD,Array.getD,dif_pos h1,dif_pos h3]at this
   exact this)
 |e::l,U,T,hs,hl,h=>by
  rw[List.foldl_cons]
  refine tmps_eq l U _ (by simp[hs]) (fun x hx=>hl x (by simp[hx])) (fun k hk=> ?_)
  by_cases hk2:e.1=k
  ·subst hk2
   by_cases hb:e.1<T.size
   ·rw[hl e (by simp)]
    simp[hb]
   ·rw[Array.getD,Array.getD,dif_neg (by omega),dif_neg (by simpa using hb)]
  ·rw[h k (fun x hx=>by
    rcases List.mem_cons.1 hx with rfl|hx
    ·exact hk2
    ·exact hk x hx)]
   by_cases hb:k<T.size
   ·simp[hb,Array.getElem_setIfInBounds,hk2]
   ·simp[hb]
variable (W p q b0 b1 xc yc M1 M2 N1 N2 A0 B0 S0 J0 X pk r k c y1 z1 o1 y2 z2 o2 n1 s1)in
theorem RG.region{P:Program}{id:Nat}{ops:Array Oper}{Q:Exit→Act→World→Prop}(hm:P.follows .mixedOrders=true)(hac: ∀(i:Nat) (o:Oper),ops[i]? =some o→ ∀e,e∈o.after→e.on<i)(hsz:ops.size=16)(hde:a.defers=[])(h0:W2 W p q b0 b1 xc yc M1 M2 [] {w with drawn:=w.drawn+1})
 (hs: ∀T,T=a.tmps→ ∀(d:Nat→Bool) (a:Act) (w:World) (i:Nat) (o:Oper),RG W p q b0 b1 xc yc M1 M2 N1 N2 T A0 B0 S0 J0 X pk r k c y1 z1 o1 y2 z2 o2 n1 s1 d a w→ops[i]? =some o→d i=false→(∀e,e∈o.after→Region.binds .any e=true→d e.on=true)→wpOp P ops Q i (fun a' w'=>RG W p q b0 b1 xc yc M1 M2 N1 N2 T A0 B0 S0 J0 X pk r k c y1 z1 o1 y2 z2 o2 n1 s1 (rgU d i) a' w') a w)
 (he: ∀P1 C1 P2 C2 pa pb w,W2 W p q b0 b1 xc yc N1 N2 [.own 40 4 (.slice P1 n1 C1) n1 s1, .own 40 4 (.slice P2 n1 C2) n1 s1, .blk pa (eC r k c y1 z1 o1 (.slice P1 n1 C1)), .blk pb (eC r k c y2 z2 o2 (.slice P2 n1 C2))] w→Q .normal ⟨[(41,A0),(42,S0),(43,J0),(44,X),(45,pk),(46, .agg (eC r k c y1 z1 o1 (.slice P1 n1 C1))),(47,B0),(48,S0),(49,J0),(50,X),(51,pk),(52, .agg (eC r k c y2 z2 o2 (.slice P2 n1 C2))),(11, .pointer (some ⟨pa,0,none⟩)),(12, .pointer (some ⟨pb,0,none⟩))].foldl (fun t e=>t.setIfInBounds e.1 e.2) a.tmps,[]⟩ w):(Code.region id ops true).wp P Q a w:=by
 obtain⟨T,hT⟩: ∃T,T=a.tmps:=⟨_,rfl⟩
 refine wp_region_inv hm hac (fun d a w=>RG W p q b0 b1 xc yc M1 M2 N1 N2 T A0 B0 S0 J0 X pk r k c y1 z1 o1 y2 z2 o2 n1 s1 d a w) ?_ (hs T hT) ?_
 ·refine⟨⟨by simp,by simp,by simp,by simp,by simp⟩,undef,undef,0,0,⟨by rw[hT],hde,fun _ _ _ _=>by rw[hT],by simp⟩,by simp,by simp,?_⟩
  simp only[rsl]
  exact h0
 ·intro a' w' ⟨_,nv1,nv2,pa,pb,⟨g1,g2,g3,g4⟩,hs1,hs2,hw⟩
  have dd: ∀i,i<16→decide (i<ops.size)=true:=fun i hi=>by simp[hsz,hi]
  obtain⟨P1,C1,rfl⟩:=hs1 (dd 5 (by omega))
  obtain⟨P2,C2,rfl⟩:=hs2 (dd 11 (by omega))
  simp only[rsl,dd 5 (by omega),dd 11 (by omega),dd 12 (by omega),dd 13 (by omega),dd 14 (by omega),dd 15 (by omega)]at hw
  have h:=he P1 C1 P2 C2 pa pb w' hw
  have e:a'=⟨a'.tmps,[]⟩:=by rw[←g2]
  rw[e,tmps_eq _ a'.tmps a.tmps (by rw[g1,hT]) ?_ ?_]
  ·exact h
  ·have g:=fun i (hi:i<14)=>g4 i hi (dd i (by omega))
   intro x hx
   simp only[List.mem_cons,List.not_mem_nil,or_false]at hx
   rcases hx with rfl|rfl|rfl|rfl|rfl|rfl|rfl|rfl|rfl|rfl|rfl|rfl|rfl|rfl
   ·exact g 0 (by omega)
   ·exact g 1 (by omega)
   ·exact g 2 (by omega)
   ·exact g 3 (by omega)
   ·exact g 4 (by omega)
   ·exact g 5 (by omega)
   ·exact g 6 (by omega)
   ·exact g 7 (by omega)
   ·exact g 8 (by omega)
   ·exact g 9 (by omega)
   ·exact g 10 (by omega)
   ·exact g 11 (by omega)
   ·exact g 12 (by omega)
   ·exact g 13 (by omega)
  ·intro j hj
   rw[←hT]
   have q: ∀i,i<14→rgD i≠j:=fun i hi=>by
    simp only[List.forall_mem_cons]at hj
    obtain⟨j0,j1,j2,j3,j4,j5,j6,j7,j8,j9,ja,jb,jc,jd,_⟩:=hj
    unfold rgD
    split<;>omega
   refine g3 j ?_ ?_ ?_
   ·by_cases h1:41≤j
    ·by_cases h2:j≤52
     ·have:=q (j-41) (by omega)
      unfold rgD at this
      rw[if_pos (by omega)]at this
      omega
     ·omega
    ·omega
   ·exact fun e=>q 12 (by omega) (by unfold rgD;simp[e])
   ·exact fun e=>q 13 (by omega) (by unfold rgD;simp[e])
end
theorem edges_of{ops:Array Oper}(h:((List.range ops.size).all fun i=>match ops[i]? with|none=>true|some o=>o.after.all fun e=>decide (e.on<i))=true): ∀(i:Nat) (o:Oper),ops[i]? =some o→ ∀e,e∈o.after→e.on<i:=by
 intro i o ho e he
 have h1:=List.all_eq_true.1 h i (by simp[(Array.getElem?_eq_some_iff.1 ho).1])
 simp only[ho]at h1
 have h2:=Array.all_eq_true_iff_forall_mem.1 h1 e he
 simpa using h2
theorem wpo_load{P:Program}{o:Oper}{a:Act}{w:World}{K:Act→World→Prop}{Q:Exit→Act→World→Prop}(t:TypeId)(x:Operand)(ho:o.op= .load t x)(b p:Nat)(hx:a.eval x= .pointer (some ⟨b,p,none⟩))(cs:List Value)(hc:w.rangeAt b p cs)(hu:(P.underlying t).map (·.isRow)=some true)(hi:(P.info? t).map (·.size)=some cs.length)
 (h:K (a.put o.dst (.agg cs.toArray)) w):o.wp P a w K Q:=by
 cases e:P.underlying t with
 |none=>rw[e]at hu;simp at hu
 |some d=>
  rw[e]at hu
  exact wp_load_mid t x ho b p hx cs d hc e (by simpa using hu) hi h
set_option maxRecDepth 100000 in
theorem same_notesB{A B:Option Addr}{n c d:Nat}{l:List Nt}(w:World)(hA:Rd w 4 A n (nts l))(hB:Rd w 4 B n (nts l))(hn:n≤9223372036854775807):
 Calls Tryz.prog 23 #[.slice A n c, .slice B n d] w fun e w'=>e= .returned (.bool true)∧Touch [] w w':=by
 have hb:((n:Int) !=(n:Int))=false:=by simp
 have HA:=Lib.hid hA
 have HB:=Lib.hid hB
 clear hA hB
 go_enter Tryz.func23,Tryz.ntmps23
 go_wp2_with fail
 go_loopw [5] (fun i wr=> ∃k:Nat,k≤n∧i= .int .i64 k∧Touch [] w wr) (fun i _=>n-(intOf i).toNat)
 case atStart=>exact⟨0,Nat.zero_le _,rfl,Touch.refl _ _⟩
 case round=>
  obtain⟨k,hk,rfl,hw⟩:=hrel
  by_cases hlt:k<n
  ·obtain⟨b,off,y,rfl,hbb,hy,_⟩:=Q5j (dec:=Nt.cells) (size:=4) (by decide) (fun _=>rfl) (HA.out.touch hw (by simp)) hlt
   obtain⟨b2,off2,y2,rfl,hbb2,hy2,_⟩:=Q5j (dec:=Nt.cells) (size:=4) (by decide) (fun _=>rfl) (HB.out.touch hw (by simp)) hlt
   obtain rfl:y=y2:=Option.some.inj (hy.symm.trans hy2)
   obtain⟨yt,yw,yo,ya⟩:=y
   have hT: ∀w',Touch [] w w'→Touch [] w w'∧(b<w'.heap.size∧b2<w'.heap.size)∧(w'.cell? ⟨b,off+k*4,none⟩=some (.int .i64 yt))∧(w'.cell? ⟨b,off+k*4+1,none⟩=some (.int .i64 yw))∧(w'.cell? ⟨b,off+k*4+2,none⟩=some (.int .i64 yo))∧(w'.cell? ⟨b,off+k*4+3,none⟩=some (.int .i64 ya))∧(w'.cell? ⟨b2,off2+k*4,none⟩=some (.int .i64 yt))∧(w'.cell? ⟨b2,off2+k*4+1,none⟩=some (.int .i64 yw))∧(w'.cell? ⟨b2,off2+k*4+2,none⟩=some (.int .i64 yo))∧(w'.cell? ⟨b2,off2+k*4+3,none⟩=some (.int .i64 ya)):=fun w' t=>by
    obtain⟨c0,c1⟩:=Q4w (dec:=Nt.cells) (size:=4) (by decide) (fun _=>rfl) (HA.out.touch t (by simp)) hlt hy
    obtain⟨e0,e1⟩:=Q4w (dec:=Nt.cells) (size:=4) (by decide) (fun _=>rfl) (HB.out.touch t (by simp)) hlt hy
    exact⟨t,⟨c0,e0⟩,c1 0 _ rfl,c1 1 _ rfl,c1 2 _ rfl,c1 3 _ rfl,e1 0 _ rfl,e1 1 _ rfl,e1 2 _ rfl,e1 3 _ rfl⟩
   have hi:(k:Int)<(n:Int):=by omega
   go_wp2_with fail
   go_region_held3 (fun w'=>Touch [] w w'∧(b<w'.heap.size∧b2<w'.heap.size)∧(w'.cell? ⟨b,off+k*4,none⟩=some (.int .i64 yt))∧(w'.cell? ⟨b,off+k*4+1,none⟩=some (.int .i64 yw))∧(w'.cell? ⟨b,off+k*4+2,none⟩=some (.int .i64 yo))∧(w'.cell? ⟨b,off+k*4+3,none⟩=some (.int .i64 ya))∧(w'.cell? ⟨b2,off2+k*4,none⟩=some (.int .i64 yt))∧(w'.cell? ⟨b2,off2+k*4+1,none⟩=some (.int .i64 yw))∧(w'.cell? ⟨b2,off2+k*4+2,none⟩=some (.int .i64 yo))∧(w'.cell? ⟨b2,off2+k*4+3,none⟩=some (.int .i64 ya)))
    (first|(go_split_ands;refine hT _ ?_;first|assumption|exact Touch.refl _ _|(with_reducible apply Touch.drew;first|exact Touch.refl _ _|assumption)))
    (fail)
   go_wp2_with fail
   go_roundw
   case rel=>exact⟨k+1,by omega,by go_num,by repeat(first|assumption|apply Touch.drewN|apply Touch.drew)⟩
   case measure=>simp[intOf];omega
  ·have hkn:k=n:=by omega
   have hi:(n:Int)≤(k:Int):=by omega
   go_wp2
   go_ret
   exact⟨rfl,hw⟩
theorem owns_len{w:World}{base:Nat}{e:TypeId}{size n:Nat}{v:Value}{xs:List Value}(h:w.ownsRow base e size v n xs):n≤9223372036854775807:=by
 rcases h.2 with⟨_,h0⟩|⟨_,cap,_,_,_,_,h1,h2,_⟩
 ·omega
 ·unfold maxLen at h2
  omega
attribute [local go_sem↓] Go.wp_at_zero Go.wp_at_succ
theorem tl{W:World}{b:Nat}{o1 o2:Nat}{v1 v2:Value}(h1:W.cell? ⟨b,o1,none⟩=some v1)(h2:W.cell? ⟨b,o2,none⟩=some v2)(hb:b<W.heap.size){w:World}(t:Touch [] W w):Touch [] W w∧w.cell? ⟨b,o1,none⟩=some v1∧w.cell? ⟨b,o2,none⟩=some v2:=
 ⟨t,by rw[t.cell hb (by simp)];exact h1,by rw[t.cell hb (by simp)];exact h2⟩
set_option maxRecDepth 100000 in
theorem wholeRound_any{A:Option Addr}{n c:Nat}{l:List (Int×Int)}(W:World)(x:Lk)(hx:X5V x)(other:Int)(ho:0≤other∧other<4294967296)(hr:Rd W 2 A n (l.flatMap Q2W)):
 Calls Tryz.prog 7 #[.agg x.cells.toArray, .int .u32 other, .slice A n c] W fun e w'=>e= .returned (.bool true)∧Touch [] W w':=by
 obtain⟨kk,mm,nn,bb⟩:=x
 obtain⟨b2,hb2⟩: ∃b2,other-other%2+bb%2=b2:=⟨_,rfl⟩
 have hbb:=hx.2.2
 simp only at hbb
 have hb2r:0≤b2∧b2<4294967296:=by omega
 have hb2e:b2%2=bb%2:=by omega
 have hbits:=other_bits ho hbb
 rw[hb2]at hbits
 have hy:X5V ⟨kk,mm,nn,b2⟩:=⟨hx.1,hx.2.1,hb2r⟩
 obtain⟨fid,g,Z,K,hrd⟩:=kind_round (1+kk%6) (by omega)
 have hmv: ∀b0 b1 w',Has [] W w' [.blk b1 #[.int .u8 kk, .int .u8 mm, .int .u8 nn, .int .u32 b2], .blk b0 #[.int .u8 kk, .int .u8 mm, .int .u8 nn, .int .u32 bb]]→Calls Tryz.prog 10 #[.agg #[.int .u8 kk, .int .u8 mm, .int .u8 nn, .int .u32 bb]] w' (Y1M [] W (1+kk%6) fid [.blk b1 #[.int .u8 kk, .int .u8 mm, .int .u8 nn, .int .u32 b2], .blk b0 #[.int .u8 kk, .int .u8 mm, .int .u8 nn, .int .u32 bb]] ((⟨kk,mm,nn,bb⟩:Lk).st Z)):=fun b0 b1 w' h=>X0C hx K h
 have hmw: ∀w' rs,Has [] W w' rs→Calls Tryz.prog 10 #[.agg #[.int .u8 kk, .int .u8 mm, .int .u8 nn, .int .u32 b2]] w' (Y1M [] W (1+kk%6) fid rs ((⟨kk,mm,nn,b2⟩:Lk).st Z)):=fun w' rs h=>X0C hy K h
 have hk1:1≤(⟨kk,mm,nn,bb⟩:Lk).k∧(⟨kk,mm,nn,bb⟩:Lk).k≤64:=by have:=hx.2.1;unfold Lk.k;omega
 have hround:Round g ((⟨kk,mm,nn,bb⟩:Lk).st Z) ((⟨kk,mm,nn,b2⟩:Lk).st Z):=hrd _ _ bb b2 hk1.1 hk1.2 (by omega) hbb hb2r hb2e
 have hlenl:l.length=n:=by have:=hr.1;rw[Q3v (dec:=Q2W) (size:=2) (fun _=>rfl)]at this;omega
 have HK:=Lib.hid K.ok
 generalize (⟨kk,mm,nn,bb⟩:Lk).st Z=V0 at hmv hround
 generalize (⟨kk,mm,nn,b2⟩:Lk).st Z=U0 at hmw hround
 simp only[Lk.cells]
 generalize 1+kk%6=kd at hmv hmw
 have HMV:=Lib.hid hmv
 have HMW:=Lib.hid hmw
 have HRD:=Lib.hid hround
 have HLL:=Lib.hid hlenl
 have HR:=Lib.hid hr
 have HST:=Lib.hid (show Has [] W ((W.alloc (.cells #[.int .u8 kk, .int .u8 mm, .int .u8 nn, .int .u32 bb] 24)).alloc (.cells #[.int .u8 kk, .int .u8 mm, .int .u8 nn, .int .u32 b2] 24)) [.blk (W.heap.size+1) #[.int .u8 kk, .int .u8 mm, .int .u8 nn, .int .u32 b2], .blk W.heap.size #[.int .u8 kk, .int .u8 mm, .int .u8 nn, .int .u32 bb]]from(Has.start [] W).Y6X)
 clear hmv hmw hround hlenl hr K hrd hk1 hx hy hb2 hb2r hb2e hbb ho
 go_enter Tryz.func7,Tryz.ntmps7
 go_wp2_with fail
 refine Q1q (Facts:=fun V=>Has [] W V [.blk (W.heap.size+1) #[.int .u8 kk, .int .u8 mm, .int .u8 nn, .int .u32 b2], .blk W.heap.size #[.int .u8 kk, .int .u8 mm, .int .u8 nn, .int .u32 bb]]) ?_ HST.out
 clear HST
 intro V HV
 generalize W.heap.size+1=b1 at HV⊢
 generalize W.heap.size=b0 at HV⊢
 have HDREW:=Lib.hid HV.drew
 have HMV1:=Lib.hid (HMV.out b0 b1)
 have HDB:=Lib.hid (show BX W b0 b1 #[.int .u8 kk, .int .u8 mm, .int .u8 nn, .int .u32 bb] #[.int .u8 kk, .int .u8 mm, .int .u8 nn, .int .u32 b2] V.drew from⟨_,HDREW.out⟩)
 clear HV HMV
 go_region_held3 (fun w'=>BX W b0 b1 #[.int .u8 kk, .int .u8 mm, .int .u8 nn, .int .u32 bb] #[.int .u8 kk, .int .u8 mm, .int .u8 nn, .int .u32 b2] w'∧(∀i,w'.cell? ⟨b0,i,none⟩=(#[.int .u8 kk, .int .u8 mm, .int .u8 nn, .int .u32 bb]:Array Value)[i]?)∧(∀i,w'.cell? ⟨b1,i,none⟩=(#[.int .u8 kk, .int .u8 mm, .int .u8 nn, .int .u32 b2]:Array Value)[i]?))
  (first|(refine bx ?_;first|with_reducible exact HBB.out|with_reducible exact HAB.out|with_reducible exact HDB.out))
  (first
   |(go_at_call 10;(with_reducible refine(HMV1.out _ HDREW.out).mono ?_);rintro e w2 ⟨m1,a1,x1,tb1,rfl,HA0⟩;have HAB:=Lib.hid (show BX W b0 b1 #[.int .u8 kk, .int .u8 mm, .int .u8 nn, .int .u32 bb] #[.int .u8 kk, .int .u8 mm, .int .u8 nn, .int .u32 b2] w2 from⟨_,Has.front (Has.front HA0.2 4 (by simp)) 4 (by simp)⟩);have HA2:=Lib.hid HA0.2;have HA:=Lib.hid HA0;clear HA0)
   |(go_at_call 10;(with_reducible refine(HMW.out _ _ HA2.out).mono ?_);rintro e w3 ⟨m2,a2,x2,tb2,rfl,HB0⟩;have HBB:=Lib.hid (show BX W b0 b1 #[.int .u8 kk, .int .u8 mm, .int .u8 nn, .int .u32 bb] #[.int .u8 kk, .int .u8 mm, .int .u8 nn, .int .u32 b2] w3 from⟨_,Has.front (Has.front HB0.2 7 (by simp)) 7 (by simp)⟩);have HB:=Lib.hid HB0;clear HB0))
 simp only[Exit.then]
 have HV0:=Lib.hid (show W2 W ⟨kd,fid,m1,a1,x1,tb1⟩ ⟨kd,fid,m2,a2,x2,tb2⟩ b0 b1 #[.int .u8 kk, .int .u8 mm, .int .u8 nn, .int .u32 bb] #[.int .u8 kk, .int .u8 mm, .int .u8 nn, .int .u32 b2] V0 U0 [] w3 from⟨HB.out,HA.out.1⟩)
 clear HA HA2 HAB HB HBB HDB HDREW HMV1 HMW
 by_cases h600:(n:Int)≤600
 ·obtain⟨R,hR0,hRs⟩:=HRD.out
  have HR0:=Lib.hid hR0
  have HRS:=Lib.hid hRs
  clear hR0 hRs HRD
  go_wp2_with fail
  go_loopw [10] (fun i wr=> ∃j:Nat,j≤n∧i= .int .i64 j∧ ∃M1 M2,R (600-j) M1 M2∧W2 W ⟨kd,fid,m1,a1,x1,tb1⟩ ⟨kd,fid,m2,a2,x2,tb2⟩ b0 b1 #[.int .u8 kk, .int .u8 mm, .int .u8 nn, .int .u32 bb] #[.int .u8 kk, .int .u8 mm, .int .u8 nn, .int .u32 b2] M1 M2 [] wr) (fun i _=>n-(intOf i).toNat)
  case atStart=>exact⟨0,Nat.zero_le _,rfl,_,_,HR0.out,HV0.out⟩
  case round=>
   obtain⟨j,hj,rfl,M1,M2,hRR,hS⟩:=hrel
   clear HV0 HR0
   have hi1:(0:Int)≤(j:Int):=Int.natCast_nonneg _
   by_cases hjk:j<n
   ·have hi2:(j:Int)<(n:Int):=by omega
    obtain⟨b,off,o,rfl,hbb,ho,hol⟩:=Q5j (dec:=Q2W) (size:=2) (by decide) (fun _=>rfl) HR.out hjk
    obtain⟨c0,c1⟩:=Q4w (dec:=Q2W) (size:=2) (by decide) (fun _=>rfl) HR.out hjk ho
    obtain⟨t,op⟩:=o
    have f0:=c1 0 _ rfl
    have f1:=c1 1 _ rfl
    simp only[Nat.add_zero]at f0 f1
    obtain⟨r1,r2⟩:=HRS.out (600-(j+1)) M1 M2 t op (by rw[show 600-(j+1)+1=600-j by omega];exact hRR) hS.2 (W2.swap hS).1.words
    have hp1:=fun w' rs (h:W2 W ⟨kd,fid,m2,a2,x2,tb2⟩ ⟨kd,fid,m1,a1,x1,tb1⟩ b0 b1 #[.int .u8 kk, .int .u8 mm, .int .u8 nn, .int .u32 bb] #[.int .u8 kk, .int .u8 mm, .int .u8 nn, .int .u32 b2] M2 M1 rs w')=>W2.pick HK.out t op h
    generalize M1.Q3R g t op=E1 at r1 r2 hp1
    have hp2:=fun w' rs (h:W2 W ⟨kd,fid,m1,a1,x1,tb1⟩ ⟨kd,fid,m2,a2,x2,tb2⟩ b0 b1 #[.int .u8 kk, .int .u8 mm, .int .u8 nn, .int .u32 bb] #[.int .u8 kk, .int .u8 mm, .int .u8 nn, .int .u32 b2] E1.1 M2 rs w')=>W2.pick HK.out t op h
    generalize M2.Q3R g t op=E2 at r1 r2 hp2
    obtain⟨N1,ran1,⟨k1,c1_,y1,z1,o1⟩,nt1⟩:=E1
    obtain⟨N2,ran2,⟨k2,c2_,y2,z2,o2⟩,nt2⟩:=E2
    obtain⟨e1,e2,e3,e4⟩:=r2
    simp only at e1 e2 e3 e4
    subst e1 e2 e3 e4
    simp only[Ev.cells]at hp1 hp2
    have HRN:=Lib.hid r1
    have HP1:=Lib.hid hp1
    have HP2:=Lib.hid hp2
    have HS:=Lib.hid (W2.swap hS)
    have hTL:=fun w' (tt:Touch [] W w')=>tl f0 f1 hbb tt
    have HTL:=Lib.hid hTL
    clear hRR hS r1 hp1 hp2 hTL c0 c1 f0 f1 ho hol
    have hsz:=(W2.touch HS.out).size
    have HSZ:=Lib.hid hsz
    have HS0:=Lib.hid (HS.out.grow ((Touch.refl [] wr).drew))
    have HTR:=Lib.hid (show∀w',Touch [] W w'→w'.rangeAt b (off+j*2) [.int .i64 t, .int .i64 op]from fun w' tt k v hv=>by
     obtain⟨_,k0,k1⟩:=HTL.out w' tt
     rcases k with _|_|k
     ·obtain rfl:=Option.some.inj hv;exact k0
     ·obtain rfl:=Option.some.inj hv;exact k1
     ·simp at hv)
    clear HTL hsz HSZ HS HR
    go_wp2_with fail
    refine RG.region W ⟨kd,fid,m1,a1,x1,tb1⟩ ⟨kd,fid,m2,a2,x2,tb2⟩ b0 b1 #[.int .u8 kk, .int .u8 mm, .int .u8 nn, .int .u32 bb] #[.int .u8 kk, .int .u8 mm, .int .u8 nn, .int .u32 b2] M1 M2 N1 N2 (.pointer (some ⟨x1,0,none⟩)) (.pointer (some ⟨x2,0,none⟩)) (.slice (some ⟨b,off,none⟩) n c) (.int .i64 j) (.pointer (some ⟨b,off+j*2,none⟩)) (.agg #[.int .i64 t, .int .i64 op]) ran2 k2 c2_ y1 z1 o1 y2 z2 o2 nt2.length (nts nt2) ?m ?ac ?sz ?de ?w0 ?hs ?he
    case m=>kernel_rfl
    case ac=>exact edges_of (by kernel_rfl)
    case sz=>rfl
    case de=>rfl
    case w0=>exact HS0.out.swap
    case hs=>
     intro T hT d a w i o hΦ ho hd haft
     have hTs:52<T.size:=by rw[hT];simp
     have h8:T.getD 8 undef= .pointer (some ⟨x1,0,none⟩):=by rw[hT];rfl
     have h9:T.getD 9 undef= .pointer (some ⟨x2,0,none⟩):=by rw[hT];rfl
     have h2:T.getD 2 undef= .slice (some ⟨b,off,none⟩) n c:=by rw[hT];rfl
     have h10:T.getD 10 undef= .int .i64 j:=by rw[hT];rfl
     clear hT
     have hi:i<16:=(Array.getElem?_eq_some_iff.1 ho).1
     rcases i with _|i
     ·have e:=Option.some.inj ho
      subst e
      refine wpOp_of ho rfl ?_
      refine wpo_move (.tmp 8) rfl ?_
      rw[show a.eval (.tmp 8)=_ from(hΦ.fr ⟨by omega,by omega,by omega⟩).trans h8]
      exact hΦ.mv (i:=0) (by omega) (by omega) hTs _ (fun _ _ _ _=>rfl)
     rcases i with _|i
     ·have e:=Option.some.inj ho
      subst e
      refine wpOp_of ho rfl ?_
      refine wpo_move (.tmp 2) rfl ?_
      rw[show a.eval (.tmp 2)=_ from(hΦ.fr ⟨by omega,by omega,by omega⟩).trans h2]
      exact hΦ.mv (i:=1) (by omega) (by omega) hTs _ (fun _ _ _ _=>rfl)
     rcases i with _|i
     ·have e:=Option.some.inj ho
      subst e
      refine wpOp_of ho rfl ?_
      refine wpo_move (.tmp 10) rfl ?_
      rw[show a.eval (.tmp 10)=_ from(hΦ.fr ⟨by omega,by omega,by omega⟩).trans h10]
      exact hΦ.mv (i:=2) (by omega) (by omega) hTs _ (fun _ _ _ _=>rfl)
     rcases i with _|i
     ·have e:=Option.some.inj ho
      subst e
      refine wpOp_of ho rfl ?_
      refine wpo_index (A:=⟨b,off,none⟩) (n:=n) (c:=c) (j:=j) (s:=2) _ 38 (.tmp 42) (.tmp 43) rfl (hΦ.rd (i:=1) (by omega) (haft ⟨1, .data⟩ (by simp) rfl) (fun _ _ _ _=>rfl)) (hΦ.rd (i:=2) (by omega) (haft ⟨2, .data⟩ (by simp) rfl) (fun _ _ _ _=>rfl)) (by kernel_rfl) (by kernel_rfl) hjk ?_
      rw[show(⟨b,off,none⟩:Addr).add (j*2)=⟨b,off+j*2,none⟩by simp[Addr.add]]
      exact hΦ.mv (i:=3) (by omega) (by omega) hTs _ (fun _ _ _ _=>rfl)
     rcases i with _|i
     ·have e:=Option.some.inj ho
      subst e
      refine wpOp_of ho rfl ?_
      refine wpo_load _ (.tmp 44) rfl b (off+j*2) (hΦ.rd (i:=3) (by omega) (haft ⟨3, .data⟩ (by simp) rfl) (fun _ _ _ _=>rfl)) [.int .i64 t, .int .i64 op] (HTR.out w hΦ.touch) (by kernel_rfl) (by kernel_rfl) ?_
      exact hΦ.mv (i:=4) (by omega) (by omega) hTs _ (fun _ _ _ _=>rfl)
     rcases i with _|i
     ·have e:=Option.some.inj ho
      subst e
      refine wpOp_of ho rfl ?_
      obtain⟨rs,hw,hk⟩:=hΦ.c1 hd hTs
      refine wpo_call rfl (enters_of Tryz.func12 (by kernel_rfl) rfl) (vs:= #[.pointer (some ⟨x1,0,none⟩), .agg #[.int .i64 t, .int .i64 op]]) ?_ ((HP1.out w rs hw.swap).mono ?_)
      ·have e1:a.eval (.tmp 41)=_:=hΦ.rd (i:=0) (by omega) (haft ⟨0, .data⟩ (by simp) rfl) (fun _ _ _ _=>rfl)
       have e2:a.eval (.tmp 45)=_:=hΦ.rd (i:=4) (by omega) (haft ⟨4, .data⟩ (by simp) rfl) (fun _ _ _ _=>rfl)
       simp[e1,e2]
      ·rintro e w' ⟨nv,rfl,hw'⟩
       obtain⟨P,C,rfl⟩:=Q2p (Has.Q5B hw'.1.2 8 rfl)
       exact⟨_,rfl,hk w' P C hw'.swap⟩
     rcases i with _|i
     ·have e:=Option.some.inj ho
      subst e
      refine wpOp_of ho rfl ?_
      refine wpo_move (.tmp 9) rfl ?_
      rw[show a.eval (.tmp 9)=_ from(hΦ.fr ⟨by omega,by omega,by omega⟩).trans h9]
      exact hΦ.mv (i:=6) (by omega) (by omega) hTs _ (fun _ _ _ _=>rfl)
     rcases i with _|i
     ·have e:=Option.some.inj ho
      subst e
      refine wpOp_of ho rfl ?_
      refine wpo_move (.tmp 2) rfl ?_
      rw[show a.eval (.tmp 2)=_ from(hΦ.fr ⟨by omega,by omega,by omega⟩).trans h2]
      exact hΦ.mv (i:=7) (by omega) (by omega) hTs _ (fun _ _ _ _=>rfl)
     rcases i with _|i
     ·have e:=Option.some.inj ho
      subst e
      refine wpOp_of ho rfl ?_
      refine wpo_move (.tmp 10) rfl ?_
      rw[show a.eval (.tmp 10)=_ from(hΦ.fr ⟨by omega,by omega,by omega⟩).trans h10]
      exact hΦ.mv (i:=8) (by omega) (by omega) hTs _ (fun _ _ _ _=>rfl)
     rcases i with _|i
     ·have e:=Option.some.inj ho
      subst e
      refine wpOp_of ho rfl ?_
      refine wpo_index (A:=⟨b,off,none⟩) (n:=n) (c:=c) (j:=j) (s:=2) _ 38 (.tmp 48) (.tmp 49) rfl (hΦ.rd (i:=7) (by omega) (haft ⟨7, .data⟩ (by simp) rfl) (fun _ _ _ _=>rfl)) (hΦ.rd (i:=8) (by omega) (haft ⟨8, .data⟩ (by simp) rfl) (fun _ _ _ _=>rfl)) (by kernel_rfl) (by kernel_rfl) hjk ?_
      rw[show(⟨b,off,none⟩:Addr).add (j*2)=⟨b,off+j*2,none⟩by simp[Addr.add]]
      exact hΦ.mv (i:=9) (by omega) (by omega) hTs _ (fun _ _ _ _=>rfl)
     rcases i with _|i
     ·have e:=Option.some.inj ho
      subst e
      refine wpOp_of ho rfl ?_
      refine wpo_load _ (.tmp 50) rfl b (off+j*2) (hΦ.rd (i:=9) (by omega) (haft ⟨9, .data⟩ (by simp) rfl) (fun _ _ _ _=>rfl)) [.int .i64 t, .int .i64 op] (HTR.out w hΦ.touch) (by kernel_rfl) (by kernel_rfl) ?_
      exact hΦ.mv (i:=10) (by omega) (by omega) hTs _ (fun _ _ _ _=>rfl)
     rcases i with _|i
     ·have e:=Option.some.inj ho
      subst e
      refine wpOp_of ho rfl ?_
      obtain⟨rs,hw,hk⟩:=hΦ.c2 hd (haft ⟨5, .chain⟩ (by simp) rfl) hTs
      refine wpo_call rfl (enters_of Tryz.func12 (by kernel_rfl) rfl) (vs:= #[.pointer (some ⟨x2,0,none⟩), .agg #[.int .i64 t, .int .i64 op]]) ?_ ((HP2.out w rs hw).mono ?_)
      ·have e1:a.eval (.tmp 47)=_:=hΦ.rd (i:=6) (by omega) (haft ⟨6, .data⟩ (by simp) rfl) (fun _ _ _ _=>rfl)
       have e2:a.eval (.tmp 51)=_:=hΦ.rd (i:=10) (by omega) (haft ⟨10, .data⟩ (by simp) rfl) (fun _ _ _ _=>rfl)
       simp[e1,e2]
      ·rintro e w' ⟨nv,rfl,hw'⟩
       obtain⟨P,C,rfl⟩:=Q2p (Has.Q5B hw'.1.2 8 rfl)
       exact⟨_,rfl,hk w' P C hw'⟩
     rcases i with _|i
     ·have e:=Option.some.inj ho
      subst e
      refine wpOp_of ho rfl ?_
      exact wpo_alloc _ rfl (z:= .agg eZ) (by kernel_rfl) (hΦ.box1 hd hTs _)
     rcases i with _|i
     ·have e:=Option.some.inj ho
      subst e
      refine wpOp_of ho rfl ?_
      exact wpo_alloc _ rfl (z:= .agg eZ) (by kernel_rfl) (hΦ.Y2A hd hTs _)
     rcases i with _|i
     ·have e:=Option.some.inj ho
      subst e
      refine wpOp_of ho rfl ?_
      exact hΦ.sto1 _ rfl rfl hd (haft ⟨5, .data⟩ (by simp) rfl) (haft ⟨12, .data⟩ (by simp) rfl) (by kernel_rfl) (fun _ _ h=>h)
     rcases i with _|i
     ·have e:=Option.some.inj ho
      subst e
      refine wpOp_of ho rfl ?_
      exact hΦ.sto2 _ rfl rfl hd (haft ⟨11, .data⟩ (by simp) rfl) (haft ⟨13, .data⟩ (by simp) rfl) (by kernel_rfl) (fun _ _ h=>h)
     ·omega
    case he=>
     intro P1 C1 P2 C2 pa pb w' hw
     simp only[Exit.then,List.foldl_cons,List.foldl_nil,List.setIfInBounds_toArray,List.set_cons_succ,List.set_cons_zero]
     refine‹∀(a:Act) (w:World),Code.wp _ _ _ a w→_› _ _ ?_
     have hA: ∀i,w'.cell? ⟨pa,i,none⟩=(#[.bool ran2, .int .i64 k2, .int .i64 c2_, .int .u32 y1, .int .u32 z1, .int .u32 o1, .slice P1 nt2.length C1]:Array Value)[i]? :=(Has.at_ hw.1.2 10 rfl).cell
     have hB: ∀i,w'.cell? ⟨pb,i,none⟩=(#[.bool ran2, .int .i64 k2, .int .i64 c2_, .int .u32 y2, .int .u32 z2, .int .u32 o2, .slice P2 nt2.length C2]:Array Value)[i]? :=(Has.at_ hw.1.2 11 rfl).cell
     have q1:(ran2 !=ran2)=false:=by simp
     have q2:(k2 !=k2)=false:=by simp
     have q3:(c2_ !=c2_)=false:=by simp
     have HW:=Lib.hid hw
     have HN:=Lib.hid hw.1.2
     clear hw HP1 HP2 HTR HS0
     go_wp2_with (go_at_call 23;(with_reducible refine(same_notesB _ (Rd.own (Has.Q5B HN.out 8 rfl)) (Rd.own (Has.Q5B HN.out 9 rfl)) (owns_len (Has.Q5B HN.out 8 rfl))).mono ?_);rintro e w6 ⟨rfl,ht⟩;have HT6:=Lib.hid ht;clear ht hA hB)
     exact⟨⟨j+1,by omega,by go_num,N1,N2,HRN.out,HW.out.drop.drop.drop.drop.grow HT6.out⟩,by simp[intOf];omega⟩
   ·have hkn:j=n:=by omega
    have hi:(n:Int)≤(j:Int):=by omega
    have HT:=Lib.hid (W2.touch hS)
    clear hS hRR HRS
    go_wp2_with (go_at_call 11;refine(X9A _).mono ?_;rintro e w6 ⟨rfl,ht⟩;have HT6:=Lib.hid ht;clear ht)
    go_ret
    exact⟨by simp,HT.out.trans HT6.out⟩
 ·have HT:=Lib.hid (W2.touch HV0.out)
  clear HV0 HRD
  go_wp2_with (go_at_call 11;refine(X9A _).mono ?_;rintro e w6 ⟨rfl,ht⟩;have HT6:=Lib.hid ht;clear ht)
  go_ret
  exact⟨by simp,HT.out.trans HT6.out⟩
end Go.Proofs.YthnimpkoidablaaGreat.Z
