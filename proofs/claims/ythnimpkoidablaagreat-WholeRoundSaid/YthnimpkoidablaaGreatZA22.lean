import Derived.ProofKit
import Derived.OpenShut
import Derived.ChangeOld
import Derived.SizedLaws
import Derived.Deep.Slices
import Derived.Test.YthnimpkoidablaaGreatZA15
import Derived.Test.YthnimpkoidablaaGreatZA19
import Derived.Test.YthnimpkoidablaaGreatZA20
import Derived.Test.YthnimpkoidablaaGreatZA21
import Derived.Test.YthnimpkoidablaaGreatZA12
import Derived.Test.YthnimpkoidablaaGreatZA18
import Derived.Test.YthnimpkoidablaaGreatZA09
set_option linter.unusedVariables false
set_option linter.unusedSimpArgs false
set_option maxHeartbeats 3200000
namespace Go.Proofs.YthnimpkoidablaaGreat.Z
open Go.RowKit
theorem X9Y{S0:List Nat}{w0 w:World}{m a r:Nat}{rs:List Res}{s:Rn}(H:Q0a S0 w0 m a r rs s w)(hok:s.ok):
 Calls Tryz.prog 54 #[.pointer (some ⟨r,0,none⟩), .func (.func 67) #[] #[]] w fun e w'=>e= .returned (.bool (Q0K tfA s).over)∧Q0a S0 w0 m a r rs (Q0K tfA s) w':=by
 cases hw:s.f.wk.on with
 |true=>
  have e:Q0K tfA s=s.woke:=by unfold Q0K;rw[hw];rfl
  rw[e]
  exact Q3h H hw hok.1 _
 |false=>
  have e:Q0K tfA s=tfA s.fresh:=by unfold Q0K;rw[hw];rfl
  rw[e]
  exact Q2U H hw 67 #[] #[] (enters_of Tryz.func67 (by kernel_rfl) rfl) (fun W HW=>Y0a HW hok.1 hok.2.1 (by simp[Rn.fresh]))
theorem X6z{s:Rn}(hw:Words s.L)(h:s.ok):(Q0K tfA s).ok∧(Q0K tfA s).notes.length≤10:=by
 unfold Q0K
 split
 ·exact⟨Q7g h,by simp[Rn.woke]⟩
 ·have:=Y0c s.fresh hw (Q6b h)
  exact⟨this.1,by simpa[Rn.fresh]using this.2⟩
theorem Y0T{S0:List Nat}{w0 w:World}{m a r:Nat}{rs:List Res}{s:Rn}(H:Q0a S0 w0 m a r rs s w)(hok:s.ok):
 Calls Tryz.prog 54 #[.pointer (some ⟨r,0,none⟩), .func (.func 68) #[] #[]] w fun e w'=>e= .returned (.bool (Q0K pfA s).over)∧Q0a S0 w0 m a r rs (Q0K pfA s) w':=by
 cases hw:s.f.wk.on with
 |true=>
  have e:Q0K pfA s=s.woke:=by unfold Q0K;rw[hw];rfl
  rw[e]
  exact Q3h H hw hok.1 _
 |false=>
  have e:Q0K pfA s=pfA s.fresh:=by unfold Q0K;rw[hw];rfl
  rw[e]
  exact Q2U H hw 68 #[] #[] (enters_of Tryz.func68 (by kernel_rfl) rfl) (fun W HW=>Y0W HW hok.1 hok.2.1 hok.2.2 (by simp[Rn.fresh]))
theorem X8e{s:Rn}(hw:Words s.L)(h:s.ok):(Q0K pfA s).ok∧(Q0K pfA s).notes.length≤10:=by
 unfold Q0K
 split
 ·exact⟨Q7g h,by simp[Rn.woke]⟩
 ·have:=Y1g s.fresh hw (Q6b h)
  exact⟨this.1,by simpa[Rn.fresh]using this.2⟩
theorem Y0D{S0:List Nat}{w0 w:World}{m a r:Nat}{rs:List Res}{s:Rn}(H:Q0a S0 w0 m a r rs s w)(hok:s.ok):
 Calls Tryz.prog 54 #[.pointer (some ⟨r,0,none⟩), .func (.func 69) #[] #[]] w fun e w'=>e= .returned (.bool (Q0K pqA s).over)∧Q0a S0 w0 m a r rs (Q0K pqA s) w':=by
 cases hw:s.f.wk.on with
 |true=>
  have e:Q0K pqA s=s.woke:=by unfold Q0K;rw[hw];rfl
  rw[e]
  exact Q3h H hw hok.1 _
 |false=>
  have e:Q0K pqA s=pqA s.fresh:=by unfold Q0K;rw[hw];rfl
  rw[e]
  exact Q2U H hw 69 #[] #[] (enters_of Tryz.func69 (by kernel_rfl) rfl) (fun W HW=>Y0J HW hok.1 hok.2.1 hok.2.2 (by simp[Rn.fresh]))
theorem X7L{s:Rn}(hw:Words s.L)(h:s.ok):(Q0K pqA s).ok∧(Q0K pqA s).notes.length≤10:=by
 unfold Q0K
 split
 ·exact⟨Q7g h,by simp[Rn.woke]⟩
 ·have:=Y0Q s.fresh hw (Q6b h)
  exact⟨this.1,by simpa[Rn.fresh]using this.2⟩
theorem Y1z{S0:List Nat}{w0 w:World}{m a r:Nat}{rs:List Res}{s:Rn}(H:Q0a S0 w0 m a r rs s w)(hok:s.ok):
 Calls Tryz.prog 54 #[.pointer (some ⟨r,0,none⟩), .func (.func 70) #[] #[]] w fun e w'=>e= .returned (.bool (Q0K fqA s).over)∧Q0a S0 w0 m a r rs (Q0K fqA s) w':=by
 cases hw:s.f.wk.on with
 |true=>
  have e:Q0K fqA s=s.woke:=by unfold Q0K;rw[hw];rfl
  rw[e]
  exact Q3h H hw hok.1 _
 |false=>
  have e:Q0K fqA s=fqA s.fresh:=by unfold Q0K;rw[hw];rfl
  rw[e]
  exact Q2U H hw 70 #[] #[] (enters_of Tryz.func70 (by kernel_rfl) rfl) (fun W HW=>Y1B HW hok.1 hok.2.1 (by simp[Rn.fresh]))
theorem X8W{s:Rn}(hw:Words s.L)(h:s.ok):(Q0K fqA s).ok∧(Q0K fqA s).notes.length≤10:=by
 unfold Q0K
 split
 ·exact⟨Q7g h,by simp[Rn.woke]⟩
 ·have:=Y1D s.fresh hw (Q6b h)
  exact⟨this.1,by simpa[Rn.fresh]using this.2⟩
theorem Y0s{S0:List Nat}{w0 w:World}{m a r:Nat}{rs:List Res}{s:Rn}(H:Q0a S0 w0 m a r rs s w)(hok:s.ok):
 Calls Tryz.prog 54 #[.pointer (some ⟨r,0,none⟩), .func (.func 71) #[] #[]] w fun e w'=>e= .returned (.bool (Q0K rfA s).over)∧Q0a S0 w0 m a r rs (Q0K rfA s) w':=by
 cases hw:s.f.wk.on with
 |true=>
  have e:Q0K rfA s=s.woke:=by unfold Q0K;rw[hw];rfl
  rw[e]
  exact Q3h H hw hok.1 _
 |false=>
  have e:Q0K rfA s=rfA s.fresh:=by unfold Q0K;rw[hw];rfl
  rw[e]
  exact Q2U H hw 71 #[] #[] (enters_of Tryz.func71 (by kernel_rfl) rfl) (fun W HW=>Y0u HW hok.1 hok.2.1 (by simp[Rn.fresh]))
theorem X7g{s:Rn}(hw:Words s.L)(h:s.ok):(Q0K rfA s).ok∧(Q0K rfA s).notes.length≤10:=by
 unfold Q0K
 split
 ·exact⟨Q7g h,by simp[Rn.woke]⟩
 ·have:=Y0y s.fresh hw (Q6b h)
  exact⟨this.1,by simpa[Rn.fresh]using this.2⟩
theorem X9M{S0:List Nat}{w0 w:World}{m a r:Nat}{rs:List Res}{s:Rn}(H:Q0a S0 w0 m a r rs s w)(hok:s.ok):
 Calls Tryz.prog 54 #[.pointer (some ⟨r,0,none⟩), .func (.func 72) #[] #[]] w fun e w'=>e= .returned (.bool (Q0K wfA s).over)∧Q0a S0 w0 m a r rs (Q0K wfA s) w':=by
 cases hw:s.f.wk.on with
 |true=>
  have e:Q0K wfA s=s.woke:=by unfold Q0K;rw[hw];rfl
  rw[e]
  exact Q3h H hw hok.1 _
 |false=>
  have e:Q0K wfA s=wfA s.fresh:=by unfold Q0K;rw[hw];rfl
  rw[e]
  exact Q2U H hw 72 #[] #[] (enters_of Tryz.func72 (by kernel_rfl) rfl) (fun W HW=>X9O HW hok.1 hok.2.1 (by simp[Rn.fresh]))
theorem X6a{s:Rn}(hw:Words s.L)(h:s.ok):(Q0K wfA s).ok∧(Q0K wfA s).notes.length≤10:=by
 unfold Q0K
 split
 ·exact⟨Q7g h,by simp[Rn.woke]⟩
 ·have:=X9Q s.fresh hw (Q6b h)
  exact⟨this.1,by simpa[Rn.fresh]using this.2⟩
section
open Go.RowKit Go.Lib
structure Q4W(kind:Int)(fid:FuncId)(g:Rn→Rn)(Z:Int→Int→List Int):Prop where
 ok:Q8Y fid g
 lines: ∀w,Calls Tryz.prog 46 #[.int .i64 kind] w fun e w'=>e= .returned (.tuple #[.func (.func fid) #[] #[], .bool true])∧w=w'
 first: ∀(n base:Int) (w:World),1≤n∧n≤64→0≤base∧base<4294967296→Calls Tryz.prog 47 #[.int .i64 kind, .int .i64 n, .int .u32 base] w (Q4o w (Z n base))
def X0N(own:Int→List Int)(m:Nat)(n base:Int):List Int:=own base++List.replicate ((8+4*n).toNat-m) 0
theorem Y3n(w:World):Calls Tryz.prog 46 #[.int .i64 1] w fun e w'=>e= .returned (.tuple #[.func (.func 67) #[] #[], .bool true])∧w=w':=by
 go_enter Tryz.func46,Tryz.ntmps46
 go_wp2
 go_ret2
 exact⟨rfl,rfl⟩
theorem X8I:Q4W 1 67 tfA (X0N Q5P 3):=
 ⟨⟨fun H hok=>X9Y H hok,fun hw hok=>X6z hw hok⟩,Y3n,fun n base w h hb=>Y7n n base w h hb⟩
theorem Y3m(w:World):Calls Tryz.prog 46 #[.int .i64 2] w fun e w'=>e= .returned (.tuple #[.func (.func 68) #[] #[], .bool true])∧w=w':=by
 go_enter Tryz.func46,Tryz.ntmps46
 go_wp2
 go_ret2
 exact⟨rfl,rfl⟩
theorem X8L:Q4W 2 68 pfA (X0N Q3U 5):=
 ⟨⟨fun H hok=>Y0T H hok,fun hw hok=>X8e hw hok⟩,Y3m,fun n base w h hb=>Y7m n base w h hb⟩
theorem Y3l(w:World):Calls Tryz.prog 46 #[.int .i64 3] w fun e w'=>e= .returned (.tuple #[.func (.func 69) #[] #[], .bool true])∧w=w':=by
 go_enter Tryz.func46,Tryz.ntmps46
 go_wp2
 go_ret2
 exact⟨rfl,rfl⟩
theorem X8K:Q4W 3 69 pqA (X0N Q4F 4):=
 ⟨⟨fun H hok=>Y0D H hok,fun hw hok=>X7L hw hok⟩,Y3l,fun n base w h hb=>Y7l n base w h hb⟩
theorem Y3k(w:World):Calls Tryz.prog 46 #[.int .i64 4] w fun e w'=>e= .returned (.tuple #[.func (.func 70) #[] #[], .bool true])∧w=w':=by
 go_enter Tryz.func46,Tryz.ntmps46
 go_wp2
 go_ret2
 exact⟨rfl,rfl⟩
theorem X0D:Q4W 4 70 fqA (X0N own4 2):=
 ⟨⟨fun H hok=>Y1z H hok,fun hw hok=>X8W hw hok⟩,Y3k,fun n base w h hb=>Y7k n base w h hb⟩
theorem Y3j(w:World):Calls Tryz.prog 46 #[.int .i64 5] w fun e w'=>e= .returned (.tuple #[.func (.func 71) #[] #[], .bool true])∧w=w':=by
 go_enter Tryz.func46,Tryz.ntmps46
 go_wp2
 go_ret2
 exact⟨rfl,rfl⟩
theorem X8J:Q4W 5 71 rfA (X0N Q9j 1):=
 ⟨⟨fun H hok=>Y0s H hok,fun hw hok=>X7g hw hok⟩,Y3j,fun n base w h hb=>Y7j n base w h hb⟩
theorem Y3i(w:World):Calls Tryz.prog 46 #[.int .i64 6] w fun e w'=>e= .returned (.tuple #[.func (.func 72) #[] #[], .bool true])∧w=w':=by
 go_enter Tryz.func46,Tryz.ntmps46
 go_wp2
 go_ret2
 exact⟨rfl,rfl⟩
theorem X8H:Q4W 6 72 wfA (X0N Q8A 1):=
 ⟨⟨fun H hok=>X9M H hok,fun hw hok=>X6a hw hok⟩,Y3i,fun n base w h hb=>Y7i n base w h hb⟩
theorem X6Y:(Tryz.prog.info? 78).map (fun i=>(i.zero,i.size,i.bytes))=some (some (.agg #[.int .i64 0, .int .i64 0, .int .i64 0, .int .u32 0, .int .u32 0, .int .i64 0, .bool false, .int .i64 0, .int .i64 0, .bool false, .int .i64 0]),11,80):=by kernel_rfl
theorem X5y(n:Nat):(madeCells (Value.agg #[.int .i64 0, .int .i64 0, .int .i64 0, .int .u32 0, .int .u32 0, .int .i64 0, .bool false, .int .i64 0, .int .i64 0, .bool false, .int .i64 0]).cells (n*11)).toList=Q1t (List.replicate n 0) (List.replicate n Fr.zero):=by
 apply List.ext_getElem?
 intro j
 by_cases h:j<n*11
 ·have hr:j%11<11:=Nat.mod_lt _ (by decide)
  have hj:j/11<n:=Nat.div_lt_of_lt_mul (by omega)
  have h2:=X6X (List.replicate n 0) (List.replicate n Fr.zero) (j/11) (j%11) (by simp) (by simpa using hj) hr
  rw[show j/11*11+j%11=j by omega]at h2
  rw[h2,show(List.replicate n (0:Int)).getD (j/11) 0=0 by simp[List.getD,hj],show(List.replicate n Fr.zero).getD (j/11) Fr.zero=Fr.zero by simp[List.getD,hj]]
  have e:(madeCells (Value.agg #[.int .i64 0, .int .i64 0, .int .i64 0, .int .u32 0, .int .u32 0, .int .i64 0, .bool false, .int .i64 0, .int .i64 0, .bool false, .int .i64 0]).cells (n*11)).toList[j]? =some ((#[.int .i64 0, .int .i64 0, .int .i64 0, .int .u32 0, .int .u32 0, .int .i64 0, .bool false, .int .i64 0, .int .i64 0, .bool false, .int .i64 0]:Array Value)[j%11]!):=by
   simp[madeCells,Value.cells,h]
  rw[e]
  generalize j%11=r at hr
  have hc:r=0∨r=1∨r=2∨r=3∨r=4∨r=5∨r=6∨r=7∨r=8∨r=9∨r=10:=by omega
  rcases hc with rfl|rfl|rfl|rfl|rfl|rfl|rfl|rfl|rfl|rfl|rfl<;>rfl
 ·rw[List.getElem?_eq_none (by simp[madeCells];omega),List.getElem?_eq_none (by rw[X6W _ _ (by simp)];simp;omega)]
theorem X8y{w:World}{e size b n:Nat}{xs:List Value}(h:w.ownsRow 0 e size (.slice (some ⟨b,0,none⟩) n n) n xs):Blk w b xs.toArray:=by
 rcases h.2 with⟨hv,_⟩|⟨g,cap,cur,hv,_,hg,_,_,hs,ht⟩
 ·cases hv
 ·simp only[Value.slice.injEq,Option.some.injEq,Addr.mk.injEq]at hv
  obtain⟨⟨rfl,_,_⟩,_,rfl⟩:=hv
  refine⟨e,?_⟩
  rw[hg]
  have:cur.toList=xs:=by rw[←ht,List.take_of_length_le];simp[hs]
  rw[←this]
theorem X7b(k:Nat)(mode:Int)(Z:List Int)(h1:1≤k)(h2:k≤64):X3d (Mt.start k mode Z):=by
 refine⟨by simp[Mt.start],by simp[Mt.start],by simpa[Mt.start]using h2,by simpa[Mt.start]using h1,fun f hf=> ?_,fun h hh=> ?_⟩
 ·obtain rfl:=(List.mem_replicate.1 hf).2
  exact⟨by simp[Fr.zero],by simp[Fr.zero]⟩
 ·exact Or.inl (List.mem_replicate.1 hh).2
def WMade(S0:List Nat)(w0:World)(kind:Int)(fid:FuncId)(rs:List Res)(M:Mt)(e:Ending)(w':World):Prop:=
 ∃m a x tb,e= .returned (.tuple #[.pointer (some ⟨x,0,none⟩), .int .i64 0])∧Q2N S0 w0 ⟨kind,fid,m,a,x,tb⟩ rs M w'
theorem wmade{S0:List Nat}{w0 w w':World}{k:Nat}{rs:List Res}(H:Has S0 w0 w rs)(hown:w'.ownsRow 0 78 11 (.slice (some ⟨w.heap.size,0,none⟩) k k) k (madeCells (Value.agg #[.int .i64 0, .int .i64 0, .int .i64 0, .int .u32 0, .int .u32 0, .int .i64 0, .bool false, .int .i64 0, .int .i64 0, .bool false, .int .i64 0]).cells (k*11)).toList)(hg:w.grownBy w' none):
 Has S0 w0 w' (.blk w.heap.size (Q1t (List.replicate k 0) (List.replicate k Fr.zero)).toArray::rs):=by
 refine H.came _ (S:=[]) ((Touch.refl [] w).grown hg (by simp)) (by simp) ?_ (by simp[Res.foot])
 rw[←X5y]
 exact X8y hown
theorem Y5U{S0:List Nat}{w0 w:World}{m a tb k:Nat}{kind mode:Int}{fid:FuncId}{Z:List Int}{row:Res}{rs:List Res}{T:TypeId}(H:Has S0 w0 w (.blk tb (Q1t (List.replicate k 0) (List.replicate k Fr.zero)).toArray:: .mem m a Z::row::rs)):
 Has S0 w0 (w.alloc (.cells #[.int .i64 kind, .int .i64 mode, .pointer (some ⟨m,0,none⟩), .int .i64 k, .func (.func fid) #[] #[], .slice (some ⟨tb,0,none⟩) k k] T)) (.mem m a Z:: .blk w.heap.size (Q2H ⟨kind,fid,m,a,w.heap.size,tb⟩ mode k (List.replicate k Fr.zero).length):: .blk tb (Q1t (List.replicate k 0) (List.replicate k Fr.zero)).toArray::rs):=by
 rw[List.length_replicate]
 exact((Has.X1F H).front 3 (by simp)).tail.front 2 (by simp)
set_option maxRecDepth 100000 in
theorem Y2J{S0:List Nat}{w0 w:World}{kind:Int}{fid:FuncId}{g:Rn→Rn}{Z:Int→Int→List Int}{rs:List Res}(K:Q4W kind fid g Z)(H:Has S0 w0 w rs)(mode:Int)(k:Nat)(base:Int)(hm:mode=1∨mode=2)(h1:1≤k)(h2:k≤64)(hb:0≤base∧base<4294967296):
 Calls Tryz.prog 29 #[.int .i64 kind, .int .i64 mode, .int .i64 k, .int .u32 base] w (WMade S0 w0 kind fid rs (Mt.start k mode (Z k base))):=by
 have hl:=K.lines
 have hf:=fun w=>K.first k base w (by omega) hb
 have HL:=Lib.hid hl
 have HF:=Lib.hid hf
 have HH:=Lib.hid H
 obtain⟨i0,hi0,hz0,hz1,hz2⟩:=info_parts X6Y
 have HI:=Lib.hid (show _∧_∧_∧_ from⟨hi0,hz0,hz1,hz2⟩)
 have HFIT:=Lib.hid (X7b k mode (Z k base) h1 h2)
 generalize Z k base=ZZ at HF HFIT⊢
 have hmd: ¬(mode≠1∧mode≠2):=by omega
 have H12:=Lib.hid h2
 have H11:=Lib.hid h1
 clear hl hf H hi0 hz0 hz1 hz2 h1 h2 hb
 rcases hm with rfl|rfl
 all_goals
  clear hmd
  go_enter Tryz.func29,Tryz.ntmps29
  go_wp2_with fail
  refine(HL.out _).mono ?_
  rintro e W1⟨rfl,rfl⟩
  go_wp2_with fail
  refine(HF.out _).mono ?_
  intro e w2 h2
  obtain⟨pz,gz,cz,rfl,H2⟩:=X1O HH.out h2
  go_wp2_with fail
  refine(X2I H2 rfl).mono ?_
  rintro e w3⟨m,a,rfl,H3⟩
  have HH3:=Lib.hid H3
  clear H2 H3 h2
  go_wp2_with (at_make;refine wpList_make_full _ rfl _ _ 66 rfl 0 78 i0 _ 11 Tryz.underlying66 HI.out.1 HI.out.2.1 HI.out.2.2.1 _ _ _ _ k rfl rfl (by omega) (by omega) (by rw[HI.out.2.2.2];have:=H12.out;omega) (by unfold maxLen;have:=H12.out;omega) (Nat.zero_le _) ?_;intro w4 hown hg;have HMK:=Lib.hid (wmade HH3.out hown hg);clear hown hg)
  go_ret2
  exact⟨m,a,w4.heap.size,w3.heap.size,rfl,HFIT.out,Y5U HMK.out⟩
end
structure Lk where
 kind:Int
 mode:Int
 n:Int
 base:Int
def Lk.cells(x:Lk):List Value:=[.int .u8 x.kind, .int .u8 x.mode, .int .u8 x.n, .int .u32 x.base]
def X5V(x:Lk):Prop:=((0≤x.kind∧x.kind<256)∧(0≤x.mode∧x.mode<256))∧(0≤x.n∧x.n<256)∧(0≤x.base∧x.base<4294967296)
def Lk.k(x:Lk):Nat:=1+(x.n%64).toNat
theorem Q7j{a m:Int}(h0:0≤a)(h1:a<256):Int.tmod a m=a%m:=Int.tmod_eq_emod_of_nonneg h0
theorem Y1s(x:Lk)(hx:X5V x)(w:World):Calls Tryz.prog 15 #[.agg x.cells.toArray] w fun e w'=>e= .returned (.int .i64 (1+x.kind%6))∧Touch [] w w':=by
 obtain⟨kk,mm,nn,bb⟩:=x
 obtain⟨⟨⟨h0,h1⟩,_⟩,_⟩:=hx
 simp only at h0 h1
 simp only[Lk.cells]
 have ht:=Q7j (m:=6) h0 h1
 have hw:IntKind.i64.wrap kk=kk:=by rw[IntKind.wrap_i64];omega
 have hw2:IntKind.i64.wrap (1+kk%6)=1+kk%6:=by rw[IntKind.wrap_i64];omega
 have hw3:IntKind.i64.wrap (kk%6)=kk%6:=by rw[IntKind.wrap_i64];omega
 go_enter Tryz.func15,Tryz.ntmps15
 go_wp2
 go_ret
 exact⟨by simp[ht,hw,hw2,hw3],(Touch.refl [] w).alloc _⟩
theorem Y1r(x:Lk)(hx:X5V x)(w:World):Calls Tryz.prog 30 #[.agg x.cells.toArray] w fun e w'=>e= .returned (.int .i64 (1+x.mode%2))∧Touch [] w w':=by
 obtain⟨kk,mm,nn,bb⟩:=x
 obtain⟨⟨_,h0,h1⟩,_⟩:=hx
 simp only at h0 h1
 simp only[Lk.cells]
 have ht:=Q7j (m:=2) h0 h1
 have hw:IntKind.i64.wrap mm=mm:=by rw[IntKind.wrap_i64];omega
 have hw2:IntKind.i64.wrap (1+mm%2)=1+mm%2:=by rw[IntKind.wrap_i64];omega
 have hw3:IntKind.i64.wrap (mm%2)=mm%2:=by rw[IntKind.wrap_i64];omega
 go_enter Tryz.func30,Tryz.ntmps30
 go_wp2
 go_ret
 exact⟨by simp[ht,hw,hw2,hw3],(Touch.refl [] w).alloc _⟩
theorem Y4a(x:Lk)(hx:X5V x)(w:World):Calls Tryz.prog 16 #[.agg x.cells.toArray] w fun e w'=>e= .returned (.int .i64 x.k)∧Touch [] w w':=by
 obtain⟨kk,mm,nn,bb⟩:=x
 obtain⟨_,⟨h0,h1⟩,_⟩:=hx
 simp only at h0 h1
 simp only[Lk.cells,Lk.k]
 have ht:=Q7j (m:=64) h0 h1
 have hw:IntKind.i64.wrap nn=nn:=by rw[IntKind.wrap_i64];omega
 have hw2:IntKind.i64.wrap (1+nn%64)=1+nn%64:=by rw[IntKind.wrap_i64];omega
 have hw3:IntKind.i64.wrap (nn%64)=nn%64:=by rw[IntKind.wrap_i64];omega
 have e:((1+(nn%64).toNat:Nat):Int)=1+nn%64:=by omega
 rw[e]
 clear e
 go_enter Tryz.func16,Tryz.ntmps16
 go_wp2
 go_ret
 exact⟨by simp[ht,hw,hw2,hw3],(Touch.refl [] w).alloc _⟩
def Y1M(S0:List Nat)(w0:World)(kind:Int)(fid:FuncId)(rs:List Res)(M:Mt)(e:Ending)(w':World):Prop:=
 ∃m a x tb,e= .returned (.pointer (some ⟨x,0,none⟩))∧Q2N S0 w0 ⟨kind,fid,m,a,x,tb⟩ rs M w'
def Lk.st(x:Lk)(Z:Int→Int→List Int):Mt:=Mt.start x.k (1+x.mode%2) (Z x.k x.base)
def LkF(S0:List Nat)(w0:World)(b0:Nat)(cs:Array Value)(w:World):Prop:= ∃rest,Has S0 w0 w (.blk b0 cs::rest)
theorem lkf{S0:List Nat}{w0:World}{b0:Nat}{cs:Array Value}{w:World}(h:LkF S0 w0 b0 cs w):LkF S0 w0 b0 cs w∧(∀i,w.cell? ⟨b0,i,none⟩=cs[i]?):=by
 obtain⟨rest,H⟩:=h
 exact⟨⟨rest,H⟩,H.blk.cell⟩
theorem Q2N.lkf{S0:List Nat}{w0 w:World}{p:Wl}{b0:Nat}{cs:Array Value}{rs:List Res}{M:Mt}(H:Q2N S0 w0 p (.blk b0 cs::rs) M w):LkF S0 w0 b0 cs w:=⟨_,Has.front H.2 3 (by simp)⟩
def X9G(S0:List Nat)(w0:World)(f:FuncId)(args:Array Value)(rs:List Res)(v:Value):Prop:= ∀w,Has S0 w0 w rs→Calls Tryz.prog f args w fun e w'=>e= .returned v∧Has S0 w0 w' rs
set_option maxRecDepth 100000 in
theorem X0C{S0:List Nat}{w0 w:World}{x:Lk}(hx:X5V x){fid:FuncId}{g:Rn→Rn}{Z:Int→Int→List Int}{rs:List Res}(K:Q4W (1+x.kind%6) fid g Z)(H:Has S0 w0 w rs):
 Calls Tryz.prog 10 #[.agg x.cells.toArray] w (Y1M S0 w0 (1+x.kind%6) fid rs (x.st Z)):=by
 have hkind: ∀b,X9G S0 w0 15 #[.agg x.cells.toArray] (.blk b x.cells.toArray::rs) (.int .i64 (1+x.kind%6)):=fun b w h=>(Y1s x hx w).mono fun e w' hh=>⟨hh.1,h.grow hh.2⟩
 have hmode: ∀b,X9G S0 w0 30 #[.agg x.cells.toArray] (.blk b x.cells.toArray::rs) (.int .i64 (1+x.mode%2)):=fun b w h=>(Y1r x hx w).mono fun e w' hh=>⟨hh.1,h.grow hh.2⟩
 have hn: ∀b,X9G S0 w0 16 #[.agg x.cells.toArray] (.blk b x.cells.toArray::rs) (.int .i64 x.k):=fun b w h=>(Y4a x hx w).mono fun e w' hh=>⟨hh.1,h.grow hh.2⟩
 have hnew:=fun(w:World) (rs:List Res) (HX:Has S0 w0 w rs)=>Y2J K HX (1+x.mode%2) x.k x.base (by have:=hx.1.2;omega) (by unfold Lk.k;omega) (by have:=hx.2.1;unfold Lk.k;omega) hx.2.2
 have hst:x.st Z=Mt.start x.k (1+x.mode%2) (Z x.k x.base):=rfl
 rw[hst]
 generalize Mt.start x.k (1+x.mode%2) (Z x.k x.base)=M at hnew⊢
 generalize x.k=k at hn hnew
 obtain⟨kk,mm,nn,bb⟩:=x
 simp only[Lk.cells]at hkind hmode hn hnew⊢
 generalize 1+kk%6=kd at hkind hnew⊢
 generalize 1+mm%2=md at hmode hnew⊢
 have HKI:=Lib.hid hkind
 have HMO:=Lib.hid hmode
 have HN:=Lib.hid hn
 have HNEW:=Lib.hid hnew
 have HH:=Lib.hid H
 clear hkind hmode hn hnew H hx hst
 go_enter Tryz.func10,Tryz.ntmps10
 go_wp2_with fail
 refine Q1q (Facts:=fun W=>Has S0 w0 W (.blk w.heap.size #[.int .u8 kk, .int .u8 mm, .int .u8 nn, .int .u32 bb]::rs)) ?_ HH.out.X1F
 clear HH
 intro W HR
 generalize w.heap.size=b0 at HR⊢
 have HDREW:=Lib.hid HR.drew
 clear HR
 go_region_held3 (fun w'=>LkF S0 w0 b0 #[.int .u8 kk, .int .u8 mm, .int .u8 nn, .int .u32 bb] w'∧(∀i,w'.cell? ⟨b0,i,none⟩=(#[.int .u8 kk, .int .u8 mm, .int .u8 nn, .int .u32 bb]:Array Value)[i]?))
  (first|(refine lkf ?_;first|exact HE.out.lkf|exact⟨_,HC.out⟩|exact⟨_,HB.out⟩|exact⟨_,HA.out⟩|exact⟨_,HDREW.out⟩))
  (first
   |(go_at_call 15;refine(HKI.out _ _ HDREW.out).mono ?_;rintro e w2 ⟨rfl,HA0⟩;have HA:=Lib.hid HA0;clear HA0)
   |(go_at_call 30;refine(HMO.out _ _ HA.out).mono ?_;rintro e w3 ⟨rfl,HB0⟩;have HB:=Lib.hid HB0;clear HB0)
   |(go_at_call 16;refine(HN.out _ _ HB.out).mono ?_;rintro e w4 ⟨rfl,HC0⟩;have HC:=Lib.hid HC0;clear HC0)
   |(go_at_call 29;refine(HNEW.out _ _ HC.out).mono ?_;rintro e w5 ⟨m,a,x,tb,rfl,HE0⟩;have HE:=Lib.hid HE0;clear HE0))
 all_goals
  simp only[Exit.then]
  go_wp2_with fail
  go_ret
  exact⟨m,a,x,tb,rfl,HE.out.Q0N⟩
section
open Go.RowKit Go.ChangeShapes Go.WideShapes Go.ChangeAt Go.Deep
def Flat(P:Program)(t:TypeId)(ok:List Value→Prop):Prop:=
 ∀(H:Type) (enc:TypeId×Value→H) (w:World) (base:Nat) (spare:Nat→Bool) (held:Bool) (fuel:Nat) (cs:List Value) (x:DataW H×List MemPlace),
  DataW.trod enc P w base spare held fuel t cs=some x→ok cs
theorem Q3y{P:Program}{t:TypeId}{k:IntKind}(ht:P.underlying t=some (.int k)):Flat P t (fun cs=> ∃n,cs=[.int k n]∧(Lit.int k n).wf=true):=by
 intro H enc w base spare held fuel cs x h
 obtain⟨n,h1,_,h2⟩:=DataW.trod_int ht h
 exact⟨n,h1,h2⟩
theorem Q7b{P:Program}{t:TypeId}{ok ok':List Value→Prop}(h:Flat P t ok)(hm: ∀cs,ok cs→ok' cs):Flat P t ok':=
 fun H enc w base spare held fuel cs x hx=>hm _ (h H enc w base spare held fuel cs x hx)
theorem Q5t{P:Program}{t:TypeId}{fs:Array Field}(ht:P.underlying t=some (.struct fs)):
 Flat P t (fun cs=>cs.length=P.cellsOf t∧ ∀(i:Nat) (f:Field) (ok:List Value→Prop),fs[i]? =some f→Flat P f.type ok→ok ((cs.drop f.offset).take (P.cellsOf f.type))):=by
 intro H enc w base spare held fuel cs x h
 obtain⟨xs,n,_,_,hl,hxl,hf⟩:=DataW.trod_struct ht h
 refine⟨hl,fun i f ok hi hok=> ?_⟩
 have hil:i<fs.size:=(Array.getElem?_eq_some_iff.1 hi).1
 have:=hf i f hi
 rw[List.getElem?_eq_getElem (by omega)]at this
 exact hok H enc w base spare held n _ _ this
theorem wf_u32{n:Int}(h:(Lit.int .u32 n).wf=true):0≤n∧n<4294967296:=by
 simp[Lit.wf,IntKind.min,IntKind.max,IntKind.signed,IntKind.bits]at h;omega
theorem wf_u8{n:Int}(h:(Lit.int .u8 n).wf=true):0≤n∧n<256:=by
 simp[Lit.wf,IntKind.min,IntKind.max,IntKind.signed,IntKind.bits]at h;omega
theorem Q9W{α:Type}{dec:α→List Value}{size:Nat}(hs:0<size)(hlen: ∀a,(dec a).length=size): ∀(l:List α) (i j:Nat) (h:i<l.length),j<size→(l.flatMap dec)[i*size+j]? =(dec l[i])[j]? :=by
 intro l
 induction l with
 |nil=>intro i j h;simp at h
 |cons a l ih=>
  intro i j h hj
  rw[List.flatMap_cons]
  cases i with
  |zero=>
   rw[List.getElem?_append_left (by rw[hlen];omega)]
   simp
  |succ i=>
   rw[List.getElem?_append_right (by rw[hlen,Nat.succ_mul];omega),hlen,show(i+1)*size+j-size=i*size+j by rw[Nat.succ_mul];omega,ih i j (by simpa using h) hj]
   rfl
theorem Q3v{α:Type}{dec:α→List Value}{size:Nat}(hlen: ∀a,(dec a).length=size)(l:List α):(l.flatMap dec).length=l.length*size:=by
 induction l with
 |nil=>simp
 |cons a l ih=>rw[List.flatMap_cons,List.length_append,ih,hlen,List.length_cons,Nat.succ_mul];omega
theorem open_list{P:Program}{H:Type}{enc:TypeId×Value→H}{w:World}{t e:TypeId}{α:Type}{dec:α→List Value}{ok:α→Prop}{size:Nat}{A:Option Addr}{n c:Nat}{d:DataW H}{p:List MemPlace}
 (ht:P.underlying t=some (.slice e)) (hF:Flat P e (fun cs=> ∃a,ok a∧cs=dec a)) (hC:P.cellsOf e=size) (hs:0<size) (hlen: ∀a,(dec a).length=size)
 (h:DataW.Trod enc P w 0 (fun _=>true) true t (.slice A n c) d p) (lt: ∀x∈p,x.block<w.heap.size):
 ∃l:List α,l.length=n∧(∀a,a∈l→ok a)∧Rd w size A n (l.flatMap dec)∧n≤c∧c≤9223372036854775807:=by
 obtain⟨fuel,hf⟩:=h
 rcases open_slice ht hf with⟨hcs,_⟩|⟨a,len,cap,m,n',D,Pl,hcs,hb,hl,hm,hmm,hx,hi⟩
 ·simp[Value.cells]at hcs
  obtain⟨rfl,rfl,rfl⟩:=hcs
  exact⟨[],rfl,by simp,Rd.nil _ _ _,Nat.le_refl _,by decide⟩
 ·simp[Value.cells]at hcs
  obtain⟨rfl,rfl,rfl⟩:=hcs
  simp at hmm
  subst hmm
  have hE: ∀i,i<n→ ∃y:α,ok y∧ ∀j,j<size→w.cell? (a.add (i*size+j))=(dec y)[j]? :=by
   intro i hin
   obtain⟨cs',hc,htr⟩:=hi i (by omega)
   obtain⟨y,hy,rfl⟩:=hF H enc w 0 _ true n' cs' _ htr
   rw[hC]at hc
   obtain⟨_,hcl,hat⟩:=World.cells?_some hc
   exact⟨y,hy,fun j hj=>by rw[←Go.Deep.add_add];exact hat j hj⟩
  have hL: ∀n0,n0≤n→ ∃l:List α,l.length=n0∧ ∀i (h:i<l.length),ok l[i]∧ ∀j,j<size→w.cell? (a.add (i*size+j))=(dec l[i])[j]? :=by
   intro n0
   induction n0 with
   |zero=>intro _;exact⟨[],rfl,fun i h=>by simp at h⟩
   |succ k ih=>
    intro hk
    obtain⟨l,hl,hlp⟩:=ih (by omega)
    obtain⟨y,hy,hyc⟩:=hE k (by omega)
    refine⟨l++[y],by simp[hl],fun i h=> ?_⟩
    by_cases hik:i<l.length
    ·rw[List.getElem_append_left hik];exact hlp i hik
    ·have:i=k:=by simp at h;omega
     subst this
     rw[List.getElem_append_right (by omega)]
     simp[hl]
     exact⟨hy,hyc⟩
  obtain⟨l,hll,hlp⟩:=hL n (Nat.le_refl _)
  refine⟨l,hll,fun y hy=> ?_,⟨by rw[Q3v hlen,hll],fun h0=>⟨a,rfl,?_,fun j u hu=> ?_⟩⟩,hl,hm⟩
  ·obtain⟨i,hi,rfl⟩:=List.getElem_of_mem hy
   exact(hlp i hi).1
  ·have:=(hlp 0 (by omega)).2 0 hs
   have h1:(dec l[0])[0]? =some ((dec l[0])[0]'(by rw[hlen];exact hs)):=List.getElem?_eq_getElem _
   rw[h1]at this
   have:=World.block_lt_of_cell? w _ this
   rw[Q6e]at this
   exact this
  ·have hj:j<l.length*size:=by
    have:=(List.getElem?_eq_some_iff.1 hu).1
    rwa[Q3v hlen]at this
   have e:=Nat.div_add_mod j size
   have hd:j/size<l.length:=Nat.div_lt_of_lt_mul (by rw[Nat.mul_comm];exact hj)
   have hm:=Nat.mod_lt j hs
   rw[Nat.mul_comm]at e
   have:=(hlp _ hd).2 _ hm
   rw[e]at this
   rw[this,←Q9W hs hlen l _ _ hd hm,e,hu]
theorem X1C{P:Program}{H:Type}{enc:TypeId×Value→H}{w:World}{t:TypeId}{fs:Array Field}{α:Type}{dec:α→List Value}{ok:α→Prop}{v:Value}{d:DataW H}{p:List MemPlace}{r:Reach}{base:Nat}
 (ht:P.underlying t=some (.struct fs)) (hF:Flat P t (fun cs=> ∃a,ok a∧cs=dec a)) (hv:Value.okWide P w r base t v) (h:DataW.Trod enc P w 0 (fun _=>true) true t v d p):
 ∃a,ok a∧v= .agg (dec a).toArray:=by
 obtain⟨cs,rfl,_⟩:=okWide_struct ht hv
 obtain⟨fuel,hf⟩:=h
 obtain⟨a,ha,hc⟩:=hF H enc w 0 _ true fuel _ _ hf
 refine⟨a,ha,?_⟩
 rw[←hc]
 simp[Value.cells]
end
theorem Q5j{α:Type}{dec:α→List Value}{size:Nat}{w:World}{B:Option Addr}{m i:Nat}{l:List α}(hs:0<size)(hlen: ∀a,(dec a).length=size)(h:Rd w size B m (l.flatMap dec))(hi:i<m):
 ∃b off x,B=some ⟨b,off,none⟩∧b<w.heap.size∧l[i]? =some x∧x∈l:=by
 obtain⟨b,off,hB,hb,hc⟩:=h.lit (by omega) hs
 have hl:l.length=m:=by
  have:=h.1
  rw[Q3v hlen]at this
  exact Nat.eq_of_mul_eq_mul_right hs this
 exact⟨b,off,l[i],hB,hb,List.getElem?_eq_getElem (by omega),List.getElem_mem _⟩
theorem Q4w{α:Type}{dec:α→List Value}{size:Nat}{w:World}{b off m i:Nat}{x:α}{l:List α}(hs:0<size)(hlen: ∀a,(dec a).length=size)(h:Rd w size (some ⟨b,off,none⟩) m (l.flatMap dec))(hi:i<m)(hx:l[i]? =some x):
 b<w.heap.size∧ ∀j u,(dec x)[j]? =some u→w.cell? ⟨b,off+i*size+j,none⟩=some u:=by
 obtain⟨b',off',hB,hb,hc⟩:=h.lit (by omega) hs
 simp only[Option.some.injEq,Addr.mk.injEq]at hB
 obtain⟨rfl,rfl,_⟩:=hB
 obtain⟨hil,rfl⟩:=List.getElem?_eq_some_iff.1 hx
 refine⟨hb,fun j u hu=> ?_⟩
 have hj:j<size:=by have:=(List.getElem?_eq_some_iff.1 hu).1;rwa[hlen]at this
 rw[Nat.add_assoc]
 exact hc _ _ ((Q9W hs hlen l i j hil hj).trans hu)
attribute [local go_sem↓] Go.wp_at_zero Go.wp_at_succ
def Q5b(g:Rn→Rn):List (Int×Int)→Mt→Mt×List Nt
 |[],M=>(M,[])
 |x::l,M=>((Q5b g l (M.Q3R g x.1 x.2).1).1,(M.Q3R g x.1 x.2).2.notes++(Q5b g l (M.Q3R g x.1 x.2).1).2)
theorem X1j(g:Rn→Rn): ∀(l:List (Int×Int)) (x:Int×Int) (M:Mt),Q5b g (l++[x]) M=(((Q5b g l M).1.Q3R g x.1 x.2).1,(Q5b g l M).2++((Q5b g l M).1.Q3R g x.1 x.2).2.notes)
 |[],x,M=>by simp[Q5b]
 |y::l,x,M=>by
  show((Q5b g (l++[x]) (M.Q3R g y.1 y.2).1).1,(M.Q3R g y.1 y.2).2.notes++(Q5b g (l++[x]) (M.Q3R g y.1 y.2).1).2)=_
  rw[X1j g l x]
  simp[Q5b]
theorem X1i(g:Rn→Rn)(l:List (Int×Int))(M:Mt)(j:Nat)(h:j<l.length):Q5b g (l.take (j+1)) M=(((Q5b g (l.take j) M).1.Q3R g l[j].1 l[j].2).1,(Q5b g (l.take j) M).2++((Q5b g (l.take j) M).1.Q3R g l[j].1 l[j].2).2.notes):=by
 rw[List.take_succ_eq_append_getElem h,X1j]
theorem X8b{fid:FuncId}{g:Rn→Rn}(K:Q8Y fid g){M:Mt}(F:X3d M)(hw:Words M.L)(t op:Int):(M.Q3R g t op).2.notes.length≤13:=by
 have hs: ∀(M':Mt) (i:Nat),X3d M'→Words M'.L→(M'.Q4B g i).2.notes.length≤11:=fun M' i F' hw'=>
  X1e (K.fine (s:=M'.run i (M'.fs.getD i Fr.zero)) hw' ⟨F'.n64,(F'.Y2w i).1,(F'.Y2w i).2⟩).2
 unfold Mt.Q3R
 split
 ·split
  ·split
   ·unfold Mt.Q5V
    split
    ·have:=hs (M.put t.toNat (Q4h op) (Q0w op (M.hold.getD t.toNat 0)) M.L) t.toNat (F.put _ _ _ _ ⟨by simp[Q4h],by simp[Q4h]⟩ (Q6X (F.held _))) hw
     show(_::_:List Nt).length≤13
     rw[List.length_cons]
     omega
    ·simp
   ·simp[Ev.none]
  ·split
   ·simp[Ev.none]
   ·have:=hs M t.toNat F hw
    omega
 ·simp[Ev.none]
def Q2W(x:Int×Int):List Value:=[.int .i64 x.1, .int .i64 x.2]
def Y5M(S0:List Nat)(w0:World)(p:Wl)(rs:List Res)(v:Value)(R:Mt×List Nt)(w:World):Prop:=Q2N S0 w0 p (.own 40 4 v R.2.length (nts R.2)::rs) R.1 w
theorem X0T{P:Program}{ops:Array Oper}{rest:List Oper}{o:Oper}{a:Act}{w:World}{Q:Exit→Act→World→Prop}(hg:o.guard=none)(ty:TypeId)(x:Operand)(i:Nat)(ho:o.op= .field ty x i)(v:Value)(hrun:(execOp a.eval o).run P w= .ok (.value v) w)
 (h:wpList P ops Q rest (a.put o.dst v) w):wpList P ops Q (o::rest) a w:=Q4c hg v hrun h
theorem wmore{S0:List Nat}{w0 w w':World}{a b c n pb:Res}{v v':Value}{l1 l2:List Nt}{rs:List Res}(H:Has S0 w0 w (a::b::c::n::pb:: .own 40 4 v l1.length (nts l1)::rs))
 (hown:w'.ownsRow 0 40 4 v' (l1.length+l2.length) (nts l1++nts l2)) (hg:w.grownBy w' v.ownBlock) (hat:v'.ownBlock=v.ownBlock∨v'.ownBlock=some w.heap.size):
 Has S0 w0 w' (a::b::c:: .own 40 4 v' (l1++l2).length (nts (l1++l2))::rs):=by
 rw[List.length_append,show nts (l1++l2)=nts l1++nts l2 by simp[nts]]
 have h1:Has S0 w0 w (.own 40 4 v l1.length (nts l1)::a::b::c::n::pb::rs):=H.front 5 (by simp)
 have h2:=Has.grown h1 hown hg hat
 have h3:=((h2.front 4 (by simp)).tail.front 4 (by simp)).tail
 exact((h3.front 3 (by simp)).front 3 (by simp)).front 3 (by simp)
set_option maxRecDepth 100000 in
theorem Q9n{S0:List Nat}{w0 w:World}{p:Wl}{rs:List Res}{M:Mt}{g:Rn→Rn}(K:Q8Y p.fid g)(H:Q2N S0 w0 p rs M w){A:Option Addr}{n c:Nat}{l:List (Int×Int)}(hr: ∀v R W,Y5M S0 w0 p rs v R W→Rd W 2 A n (l.flatMap Q2W))(hn:n≤1500):
 Calls Tryz.prog 24 #[.pointer (some ⟨p.x,0,none⟩), .slice A n c] w fun e w'=> ∃v,e= .returned v∧Y5M S0 w0 p rs v (Q5b g l M) w':=by
 obtain⟨i0,hi0,hz0,hz1,hz2⟩:=info_parts Q5S
 have HI:=Lib.hid (show _∧_∧_∧_ from⟨hi0,hz0,hz1,hz2⟩)
 have H0:Y5M S0 w0 p rs (.slice none 0 0) (Q5b g (l.take 0) M) w:=⟨H.1,(H.2.Q9M 40 4).perm (List.perm_middle (l₁:=[_,_,_])).symm⟩
 have hlk:l.length=n:=by have:=(hr _ _ _ H0).1;rw[Q3v (dec:=Q2W) (size:=2) (fun _=>rfl)]at this;omega
 have HS:=Lib.hid H0
 have HR:=Lib.hid hr
 have HL:=Lib.hid hlk
 have HN:=Lib.hid hn
 clear hi0 hz0 hz1 hz2 H H0 hr hlk hn
 go_enter Tryz.func24,Tryz.ntmps24
 go_wp2_with fail
 go_loopw [5,10] (fun v i W=> ∃j:Nat,j≤n∧i= .int .i64 j∧(Q5b g (l.take j) M).2.length≤13*j∧ ∃v',v'=v∧Y5M S0 w0 p rs v' (Q5b g (l.take j) M) W) (fun _ i _=>n-(intOf i).toNat)
 case atStart=>exact⟨0,Nat.zero_le _,rfl,by simp[Q5b],_,rfl,HS.out⟩
 case round=>
  obtain⟨j,hj,rfl,hfew,v,rfl,hR⟩:=hrel
  clear HS
  have hi1:(0:Int)≤(j:Int):=Int.natCast_nonneg _
  by_cases hjk:j<n
  ·have hi2:(j:Int)<(n:Int):=by omega
   have hBr:=HR.out _ _ _ hR
   obtain⟨b,off,o,rfl,hbb,ho,hol⟩:=Q5j (dec:=Q2W) (size:=2) (by decide) (fun _=>rfl) hBr hjk
   obtain⟨c0,c1⟩:=Q4w (dec:=Q2W) (size:=2) (by decide) (fun _=>rfl) hBr hjk ho
   obtain⟨hjl,hjo⟩:=List.getElem?_eq_some_iff.1 ho
   have htk:=X1i g l M j hjl
   rw[hjo]at htk
   obtain⟨t,op⟩:=o
   have f0:=c1 0 _ rfl
   have f1:=c1 1 _ rfl
   simp only[Nat.add_zero]at f0 f1
   have hpf:=X8b K hR.1 hR.words t op
   have HTK:=Lib.hid htk
   have HRW:=Lib.hid hR
   have HFW:=Lib.hid hfew
   have HPF:=Lib.hid hpf
   clear c1 hBr ho hol hjo htk hR hfew hpf
   generalize hRR:Q5b g (l.take j) M=R at*
   clear hRR
   obtain⟨M1,nt1⟩:=R
   go_wp2_with fail
   refine(Q7P K (Q2N.box HRW.out) t op).mono ?_
   rintro e w3⟨nv,rfl,F3,H3⟩
   generalize hR2:M1.Q3R g t op=R2 at HTK HPF F3 H3⊢
   clear hR2
   obtain⟨M2,ran2,⟨ak,ac,ax,ay,ao⟩,nt2⟩:=R2
   simp only[Ev.cells]
   simp only at F3 H3
   obtain⟨pn,cn,rfl⟩:=Q2p (Has.Q5B H3 3 rfl)
   have HH3:=Lib.hid H3
   have HF3:=Lib.hid F3
   clear H3 F3
   have hn15:=HN.out
   go_wp2_with (first|(refine X0T rfl 35 (.tmp 17) 2 rfl (.slice pn nt2.length cn) (by kernel_rfl) ?_)|(at_builtin;refine Q2q (P:=Tryz.prog) _ rfl (.tmp 14) (.tmp 18) _ rfl 0 40 i0 _ 4 32 Tryz.underlying33 HI.out.1 HI.out.2.1 HI.out.2.2.1 HI.out.2.2.2 rfl (by omega) v nt1.length (nts nt1) rfl (Has.Q5B HH3.out 5 rfl) pn nt2.length cn (nts nt2) rfl (Rd.own (Has.Q5B HH3.out 3 rfl)) (X1E _) (by have h1:nt1.length≤13*j:=HFW.out;have h2:nt2.length≤13:=HPF.out;have:=HN.out;simp only[maxLen];omega) (by have h1:nt1.length≤13*j:=HFW.out;have h2:nt2.length≤13:=HPF.out;have:=HN.out;omega) (by omega) ?_;intro v' w' hown hg hat;have HF:=Lib.hid (wmore HH3.out hown hg hat);clear hown hg hat))
   exact⟨⟨j+1,by omega,by go_num,by rw[HTK.out];have h1:nt1.length≤13*j:=HFW.out;have h2:nt2.length≤13:=HPF.out;simp;omega,_,rfl,by rw[HTK.out];exact⟨HF3.out,HF.out⟩⟩,by simp[intOf];omega⟩
  ·have hjk2:j=n:=by omega
   have hi2:(n:Int)≤(j:Int):=by omega
   have HJ:=Lib.hid hjk2
   have HRW:=Lib.hid hR
   clear hjk2 hR
   go_wp2_with fail
   go_ret
   refine⟨_,rfl,?_⟩
   have h:=HRW.out
   rw[HJ.out,←HL.out,List.take_length]at h
   exact h
def StK(S0:List Nat)(w0:World)(p:Wl)(M:Mt)(rb:Nat)(rest:List Res)(w:World):Prop:=
 ∃cs:Array Value,cs.size=5∧Has S0 w0 w (.blk rb cs:: .mem p.m p.a M.L:: .blk p.x (Q2H p M.mode M.n M.fs.length):: .blk p.tb (Q1t M.hold M.fs).toArray::rest)
theorem StK.grow{S0:List Nat}{w0:World}{p:Wl}{M:Mt}{rb:Nat}{rest:List Res}{w w':World}(h:StK S0 w0 p M rb rest w)(t:Touch [] w w'):StK S0 w0 p M rb rest w':=by
 obtain⟨cs,hc,H⟩:=h
 exact⟨cs,hc,H.grow t⟩
end Go.Proofs.YthnimpkoidablaaGreat.Z
