import Derived.Test.YthnimpkoidablaaGreatZA23
import Derived.Test.YthnimpkoidablaaGreatZL08
set_option linter.unusedVariables false
set_option linter.unusedSimpArgs false
set_option maxHeartbeats 6400000
namespace Go.Proofs.YthnimpkoidablaaGreat.Z
open Go.RowKit
def cnt(p:Nat→Bool):Nat→Nat
 |0=>0
 |t+1=>cnt p t+(if p t=true then 1 else 0)
theorem Q6z{p:Nat→Bool}{t:Nat}(h:p t=true):cnt p (t+1)=cnt p t+1:=by rw[cnt,if_pos h]
theorem Q8T{p:Nat→Bool}{t:Nat}(h:p t=false):cnt p (t+1)=cnt p t:=by rw[cnt,if_neg (by rw[h];decide)];rfl
theorem cnt_le(p:Nat→Bool): ∀t,cnt p t≤t
 |0=>Nat.le_refl _
 |t+1=>by
  have:=cnt_le p t
  unfold cnt
  split<;>omega
theorem X4h{p:Nat→Bool}: ∀{t:Nat},cnt p t=0→ ∀i,i<t→p i=false
 |t+1,h,i,hi=>by
  unfold cnt at h
  rcases Nat.lt_or_ge i t with h1|h1
  ·exact X4h (by omega) i h1
  ·obtain rfl:i=t:=by omega
   cases hp:p i with
   |false=>rfl
   |true=>rw[hp]at h;simp at h
theorem X9w{p:Nat→Bool}: ∀{t:Nat},0<cnt p t→ ∃i,i<t∧p i=true
 |t+1,h=>by
  cases hp:p t with
  |true=>exact⟨t,by omega,hp⟩
  |false=>
   rw[Q8T hp]at h
   obtain⟨i,h1,h2⟩:=X9w h
   exact⟨i,by omega,h2⟩
theorem cnt_mono{p q:Nat→Bool}(h: ∀i,q i=true→p i=true): ∀t,cnt q t≤cnt p t
 |0=>Nat.le_refl _
 |t+1=>by
  have:=cnt_mono h t
  cases hq:q t with
  |true=>rw[Q6z hq,Q6z (h t hq)];omega
  |false=>
   rw[Q8T hq]
   exact Nat.le_trans this (Nat.le_add_right _ _)
theorem X0J{p q:Nat→Bool}(h: ∀i,q i=true→p i=true): ∀{t:Nat},cnt q t=cnt p t→ ∀i,i<t→p i=true→q i=true
 |t+1,e,i,hi,hp=>by
  have hm:=cnt_mono h t
  cases hq:q t with
  |true=>
   rw[Q6z hq,Q6z (h t hq)]at e
   rcases Nat.lt_or_ge i t with h1|h1
   ·exact X0J h (by omega) i h1 hp
   ·obtain rfl:i=t:=by omega
    exact hq
  |false=>
   cases hpt:p t with
   |true=>rw[Q8T hq,Q6z hpt]at e;omega
   |false=>
    rw[Q8T hq,Q8T hpt]at e
    rcases Nat.lt_or_ge i t with h1|h1
    ·exact X0J h e i h1 hp
    ·obtain rfl:i=t:=by omega
     rw[hpt]at hp
     cases hp
def Mt.Q7z(M:Mt)(i:Nat):Bool:=(M.fs.getD i Fr.zero).op !=0
def Mt.holdB(M:Mt)(i:Nat):Bool:=(M.fs.getD i Fr.zero).op==0 &&M.hold.getD i 0 !=0
theorem X4B(M:Mt)(i:Nat)(h:M.Q3a i=true):M.Q7z i=true:=by
 unfold Mt.Q3a at h
 simp only[Bool.and_eq_true]at h
 exact h.1
theorem Y4s{n:Nat}{M:Mt}(h: ¬X0L n M): ¬(0<cnt M.Q7z n∧cnt M.Q3a n=cnt M.Q7z n∧cnt M.holdB n=0):=by
 rintro⟨h1,h2,h3⟩
 refine h ⟨?_,fun i hi hop=> ?_,fun i hi hop=> ?_⟩
 ·obtain⟨i,hi,hb⟩:=X9w h1
  exact⟨i,hi,by unfold Mt.Q7z at hb;simpa using hb⟩
 ·exact X0J (X4B M) h2 i hi (by unfold Mt.Q7z;simpa using hop)
 ·have:=X4h h3 i hi
  unfold Mt.holdB at this
  rw[hop]at this
  simpa using this
theorem X6v(g:Rn→Rn)(k:Nat)(M:Mt)(r t:Nat)(h:M.fs.length=k):(Q2g g (Q2v g k M r) t).fs.length=k:=(X4j g (Q2v g k M r) t).trans ((Q9E g k M r).trans h)
def WW(W:World)(p:Wl)(b0:Nat)(cs:Array Value)(M:Mt)(w:World):Prop:=Q2N [] W p (.blk b0 cs::[]) M w
theorem WW.cells{W:World}{p:Wl}{b0:Nat}{cs:Array Value}{M:Mt}{w:World}(h:WW W p b0 cs M w):WW W p b0 cs M w∧(∀i,w.cell? ⟨b0,i,none⟩=cs[i]?):=⟨h,h.first.cell⟩
theorem Y2H{W w:World}{p:Wl}{b0:Nat}{cs:Array Value}{M:Mt}{g:Rn→Rn}(K:Q8Y p.fid g)(h:WW W p b0 cs M w)(t:Nat)(hi:t<M.fs.length)(op:Int):
 Calls Tryz.prog 12 #[.pointer (some ⟨p.x,0,none⟩), .agg #[.int .i64 t, .int .i64 op]] w fun e w'=> ∃v,e= .returned v∧WW W p b0 cs (M.Q5A g t op) w':=
 (Q7P K h t op).mono fun e w' ⟨nv,he,H⟩=>⟨_,he,by
  rw[←Q9K hi h.1.hlen op]
  exact H.Q0N⟩
set_option maxRecDepth 100000 in
theorem Q9b{A:Option Addr}{n c:Nat}{l:List (Int×Int)}(W:World)(x:Lk)(hx:X5V x)(hr:Rd W 2 A n (l.flatMap Q2W)):
 Calls Tryz.prog 6 #[.agg x.cells.toArray, .slice A n c] W fun e w'=>e= .returned (.bool true)∧Touch [] W w':=by
 obtain⟨kk,mm,nn,bb⟩:=x
 obtain⟨⟨hx1,hx2⟩,hx3,hx4⟩:=hx
 simp only at hx1 hx2 hx3 hx4
 obtain⟨n8,hn8,hn0,hn7⟩: ∃q:Int,Int.tmod nn 8=q∧0≤q∧q<8:=⟨_,rfl,by rw[Int.tmod_eq_emod_of_nonneg hx3.1];omega,by rw[Int.tmod_eq_emod_of_nonneg hx3.1];omega⟩
 have en:IntKind.u8.wrap n8=n8:=by simp[IntKind.wrap,IntKind.bits,IntKind.signed];omega
 have hx':X5V ⟨kk,1,n8,bb⟩:=⟨⟨hx1,(by decide:(0:Int)≤1),(by decide:(1:Int)<256)⟩,⟨hn0,(by omega:n8<256)⟩,hx4⟩
 obtain⟨fid,g,Z,K,hlive⟩:=X2E (1+kk%6) (by omega)
 have hmade: ∀b w',Has [] W w' [.blk b #[.int .u8 kk, .int .u8 1, .int .u8 n8, .int .u32 bb]]→Calls Tryz.prog 10 #[.agg #[.int .u8 kk, .int .u8 1, .int .u8 n8, .int .u32 bb]] w' (Y1M [] W (1+kk%6) fid [.blk b #[.int .u8 kk, .int .u8 1, .int .u8 n8, .int .u32 bb]] ((⟨kk,1,n8,bb⟩:Lk).st Z)):=fun b w' h=>X0C hx' K h
 have hn: ∀w',Calls Tryz.prog 16 #[.agg #[.int .u8 kk, .int .u8 1, .int .u8 n8, .int .u32 bb]] w' fun e w''=>e= .returned (.int .i64 (⟨kk,1,n8,bb⟩:Lk).k)∧Touch [] w' w'':=fun w'=>Y4a ⟨kk,1,n8,bb⟩ hx' w'
 have hst:(⟨kk,1,n8,bb⟩:Lk).st Z=Mt.start (⟨kk,1,n8,bb⟩:Lk).k 2 (Z (⟨kk,1,n8,bb⟩:Lk).k bb):=rfl
 have hk1:1≤(⟨kk,1,n8,bb⟩:Lk).k∧(⟨kk,1,n8,bb⟩:Lk).k≤8:=by unfold Lk.k;simp only;omega
 rw[hst]at hmade
 generalize (⟨kk,1,n8,bb⟩:Lk).k=k at hmade hn hk1
 have hlv:=hlive k 2 bb hk1.1 (by omega) (Or.inr rfl) hx4
 have hlenl:l.length=n:=by have:=hr.1;rw[Q3v (dec:=Q2W) (size:=2) (fun _=>rfl)]at this;omega
 have hwk:n≤400→_:=fun h=>X9S hlv hk1.1 hk1.2 l (by omega)
 have hfsl:(Mt.start k 2 (Z k bb)).fs.length=k:=by simp[Mt.start]
 generalize Mt.start k 2 (Z k bb)=M0 at hmade hwk hfsl
 generalize 1+kk%6=kd at hmade
 have HK:=Lib.hid K.ok
 have HN:=Lib.hid hn
 have HMADE:=Lib.hid hmade
 have HWK:=Lib.hid hwk
 have HFSL:=Lib.hid hfsl
 have HLL:=Lib.hid hlenl
 have HR:=Lib.hid hr
 have hp2:=((Has.start [] W).X1F (c0:= #[.int .u8 kk, .int .u8 mm, .int .u8 nn, .int .u32 bb]) (t0:=24))
 have HST:=Lib.hid (show Has [] W (W.alloc (.cells #[.int .u8 kk, .int .u8 1, .int .u8 n8, .int .u32 bb] 24)) [.blk W.heap.size #[.int .u8 kk, .int .u8 1, .int .u8 n8, .int .u32 bb]]from(Has.start [] W).X1F)
 have hk2:(k:Int)≤8:=by omega
 have hk3:(1:Int)≤(k:Int):=by omega
 have HK1:=Lib.hid hk1
 clear hx1 hx2 hx3 hx4 hx' K hlive hst hlv hn0 hn7 hn hmade hwk hfsl hlenl hr hp2 hk1
 have hawake: ∀w',Touch [] W w'→Calls Tryz.prog 11 #[] w' fun e w''=>e= .returned (.bool true)∧Touch [] W w'':=fun w' t=>(X9A w').mono fun e w'' h=>⟨h.1,t.trans h.2⟩
 have HAW:=Lib.hid hawake
 clear hawake
 simp only[Lk.cells]
 go_enter Tryz.func6,Tryz.ntmps6
 go_wp2_with fail
 refine(HMADE.out _ _ HST.out).mono ?_
 clear HMADE HST
 rintro e w1⟨m,a,x,tb,rfl,H1⟩
 generalize W.heap.size=b0 at*
 have HW:Lib.hid (show WW W ⟨kd,fid,m,a,x,tb⟩ b0 #[.int .u8 kk, .int .u8 1, .int .u8 n8, .int .u32 bb] M0 w1 from H1)=Lib.hid H1:=rfl
 clear HW
 have HW:=Lib.hid (show WW W ⟨kd,fid,m,a,x,tb⟩ b0 #[.int .u8 kk, .int .u8 1, .int .u8 n8, .int .u32 bb] M0 w1 from H1)
 clear H1
 by_cases h400:(n:Int)≤400
 ·have hwk:=HWK.out (by omega)
  have HWK2:=Lib.hid hwk
  clear hwk HWK
  go_wp2_with fail
  go_loopw [6] (fun c wr=> ∃j:Nat,j≤n∧c= .int .i64 j∧WW W ⟨kd,fid,m,a,x,tb⟩ b0 #[.int .u8 kk, .int .u8 1, .int .u8 n8, .int .u32 bb] (Q5b g (l.take j) M0).1 wr) (fun c _=>n-(intOf c).toNat)
  case atStart=>exact⟨0,Nat.zero_le _,rfl,HW.out⟩
  case round=>
   obtain⟨j,hj,rfl,hR⟩:=hrel
   clear HW
   have hi1:(0:Int)≤(j:Int):=Int.natCast_nonneg _
   by_cases hjm:j<n
   ·have hi2:(j:Int)<(n:Int):=by omega
    have hBr:=HR.out.touch hR.touch (by simp)
    obtain⟨b,off,y,rfl,hbb,hy,_⟩:=Q5j (dec:=Q2W) (size:=2) (by decide) (fun _=>rfl) hBr hjm
    obtain⟨c0,c1⟩:=Q4w (dec:=Q2W) (size:=2) (by decide) (fun _=>rfl) hBr hjm hy
    obtain⟨hjl,hjo⟩:=List.getElem?_eq_some_iff.1 hy
    have htk:=X1i g l M0 j hjl
    rw[hjo]at htk
    have htk1:=congrArg Prod.fst htk
    have hns:=HWK2.out.1 (j+1) (by rw[HLL.out];omega)
    have hfl:=(Q7V g (l.take (j+1)) M0).trans HFSL.out
    obtain⟨t,op⟩:=y
    have f0:=c1 0 _ rfl
    have f1:=c1 1 _ rfl
    simp only[Nat.add_zero]at f0 f1
    have hpk:=Q7P (M:=(Q5b g (l.take j) M0).1) HK.out hR t op
    simp only at htk1
    unfold WEv at hpk
    rw[←htk1]at hpk
    generalize hM2:(Q5b g (l.take (j+1)) M0).1=M2 at hpk hns hfl
    have HM2:=Lib.hid hM2
    clear hM2
    have HPK:=Lib.hid hpk
    have HNS:=Lib.hid (Y4s hns)
    have HFL:=Lib.hid hfl
    clear hpk htk htk1 hns hfl c1 hBr hy hjl hjo hR
    generalize (Mt.Q3R g (Q5b g (l.take j) M0).1 t op).2=ev at HPK
    go_wp2_with fail
    refine HPK.out.mono ?_
    clear HPK
    rintro e w2⟨nv,rfl,H2⟩
    have HW2:=Lib.hid (show WW W ⟨kd,fid,m,a,x,tb⟩ b0 #[.int .u8 kk, .int .u8 1, .int .u8 n8, .int .u32 bb] M2 w2 from H2.Q0N)
    clear H2 f0 f1
    obtain⟨er,⟨ea,eb,ec,ed,ee⟩,en2⟩:=ev
    simp only[Ev.cells]
    go_wp2_with fail
    go_loopw [7,8,9,10] (fun u s h c wr=> ∃t:Nat,t≤k∧(c= .int .i64 t∧u= .int .i64 (cnt M2.Q7z t:Nat)∧s= .int .i64 (cnt M2.Q3a t:Nat)∧h= .int .i64 (cnt M2.holdB t:Nat))∧WW W ⟨kd,fid,m,a,x,tb⟩ b0 #[.int .u8 kk, .int .u8 1, .int .u8 n8, .int .u32 bb] M2 wr) (fun _ _ _ c _=>k-(intOf c).toNat)
    case atStart=>exact⟨0,Nat.zero_le _,⟨rfl,rfl,rfl,rfl⟩,HW2.out⟩
    case round=>
     obtain⟨t,ht,⟨rfl,rfl,rfl,rfl⟩,hR⟩:=hrel
     clear HW2
     have HS:=Lib.hid hR
     obtain⟨z0,z1,z2⟩:=(Q2N.first hR).own
     clear hR
     have hj1:(0:Int)≤(t:Int):=Int.natCast_nonneg _
     have hbl:=cnt_le M2.Q7z t
     have hsl:=cnt_le M2.Q3a t
     have hhl:=cnt_le M2.holdB t
     go_wp2_with fail
     refine(HN.out _).mono ?_
     rintro e w3⟨rfl,t3⟩
     have HS3:=Lib.hid (show WW W ⟨kd,fid,m,a,x,tb⟩ b0 #[.int .u8 kk, .int .u8 1, .int .u8 n8, .int .u32 bb] M2 w3 from Q2N.grow HS.out t3)
     clear HS t3 z0 z1 z2
     by_cases htk:t<k
     ·have hj2:(t:Int)<(k:Int):=by omega
      have hi:t<M2.fs.length:=by have:=HFL.out;omega
      have HI:=Lib.hid hi
      have hbusy:=fun W' (HX:WW W ⟨kd,fid,m,a,x,tb⟩ b0 #[.int .u8 kk, .int .u8 1, .int .u8 n8, .int .u32 bb] M2 W')=>Q7Q HX t hi
      have hhold:=fun W' (HX:WW W ⟨kd,fid,m,a,x,tb⟩ b0 #[.int .u8 kk, .int .u8 1, .int .u8 n8, .int .u32 bb] M2 W')=>Q6E HX t hi
      have hstk:=fun W' (HX:WW W ⟨kd,fid,m,a,x,tb⟩ b0 #[.int .u8 kk, .int .u8 1, .int .u8 n8, .int .u32 bb] M2 W')=>X0O HX t hi
      have hsb:(M2.fs.getD t Fr.zero).op=0→M2.Q3a t=false:=fun h=>by unfold Mt.Q3a;rw[h];rfl
      have q1:cnt M2.Q7z (t+1)=cnt M2.Q7z t+(if(M2.fs.getD t Fr.zero).op=0 then 0 else 1):=by
       by_cases h:(M2.fs.getD t Fr.zero).op=0
       ·rw[if_pos h,Q8T (by unfold Mt.Q7z;rw[h];rfl)];rfl
       ·rw[if_neg h,Q6z (by unfold Mt.Q7z;simpa using h)]
      have q2:cnt M2.Q3a (t+1)=cnt M2.Q3a t+(if M2.Q3a t=true then 1 else 0):=rfl
      have q3:cnt M2.holdB (t+1)=cnt M2.holdB t+(if(M2.fs.getD t Fr.zero).op=0∧ ¬M2.hold.getD t 0=0 then 1 else 0):=by
       by_cases h:(M2.fs.getD t Fr.zero).op=0∧ ¬M2.hold.getD t 0=0
       ·rw[if_pos h,Q6z (by unfold Mt.holdB;rw[h.1];simpa using h.2)]
       ·rw[if_neg h,Q8T (by
         unfold Mt.holdB
         by_cases h0:(M2.fs.getD t Fr.zero).op=0
         ·have:M2.hold.getD t 0=0:=Decidable.byContradiction fun hc=>h ⟨h0,hc⟩
          rw[this];simp
         ·simp only[beq_eq_false_iff_ne.2 h0,Bool.false_and])];rfl
      generalize (M2.fs.getD t Fr.zero).op=bz at hbusy hsb q1 q3
      generalize M2.hold.getD t 0=hv at hhold q3
      generalize M2.Q3a t=sb at hstk hsb q2
      generalize hA:cnt M2.Q7z t=ca at*
      generalize hB:cnt M2.Q3a t=cb at*
      generalize hC:cnt M2.holdB t=cc at*
      clear hA hB hC
      have HBUSY:=Lib.hid hbusy
      have HHOLD:=Lib.hid hhold
      have HSTK:=Lib.hid hstk
      have Q1:=Lib.hid q1
      have Q2:=Lib.hid q2
      have Q3:=Lib.hid q3
      clear hbusy hhold hstk q1 q2 q3 hi
      by_cases hbz:bz=0
      ·subst hbz
       obtain rfl:=hsb rfl
       clear hsb
       by_cases hh0:hv=0
       ·subst hh0
        go_wp2_with fail
        refine(HBUSY.out _ HS3.out).mono ?_
        rintro e w4⟨rfl,rfl⟩
        go_wp2_with fail
        refine(HSTK.out _ HS3.out).mono ?_
        rintro e w5⟨rfl,H5⟩
        have HS5:=Lib.hid (show WW W ⟨kd,fid,m,a,x,tb⟩ b0 #[.int .u8 kk, .int .u8 1, .int .u8 n8, .int .u32 bb] M2 w5 from H5)
        clear H5
        go_wp2_with fail
        refine(HBUSY.out _ HS5.out).mono ?_
        rintro e w6⟨rfl,rfl⟩
        go_wp2_with fail
        refine(HHOLD.out _ HS5.out).mono ?_
        rintro e w6⟨rfl,rfl⟩
        go_wp2_with fail
        go_roundw
        case rel=>first|exact⟨t+1,by omega,⟨by go_num,by rw[Q1.out];simp<;>go_num,by rw[Q2.out];simp<;>go_num,by rw[Q3.out];simp[*]<;>go_num⟩,HS5.out⟩|((repeat apply Exists.intro);refine⟨?_,rfl⟩;exact⟨t+1,by omega,⟨by go_num,by rw[Q1.out];simp<;>go_num,by rw[Q2.out];simp<;>go_num,by rw[Q3.out];simp[*]<;>go_num⟩,HS5.out⟩)
        case measure=>simp[intOf];omega
       ·have hh1:(hv !=0)=true:=by simpa using hh0
        go_wp2_with fail
        refine(HBUSY.out _ HS3.out).mono ?_
        rintro e w4⟨rfl,rfl⟩
        go_wp2_with fail
        refine(HSTK.out _ HS3.out).mono ?_
        rintro e w5⟨rfl,H5⟩
        have HS5:=Lib.hid (show WW W ⟨kd,fid,m,a,x,tb⟩ b0 #[.int .u8 kk, .int .u8 1, .int .u8 n8, .int .u32 bb] M2 w5 from H5)
        clear H5
        go_wp2_with fail
        refine(HBUSY.out _ HS5.out).mono ?_
        rintro e w6⟨rfl,rfl⟩
        go_wp2_with fail
        refine(HHOLD.out _ HS5.out).mono ?_
        rintro e w6⟨rfl,rfl⟩
        go_wp2_with fail
        go_roundw
        case rel=>first|exact⟨t+1,by omega,⟨by go_num,by rw[Q1.out];simp<;>go_num,by rw[Q2.out];simp<;>go_num,by rw[Q3.out];simp[*]<;>go_num⟩,HS5.out⟩|((repeat apply Exists.intro);refine⟨?_,rfl⟩;exact⟨t+1,by omega,⟨by go_num,by rw[Q1.out];simp<;>go_num,by rw[Q2.out];simp<;>go_num,by rw[Q3.out];simp[*]<;>go_num⟩,HS5.out⟩)
        case measure=>simp[intOf];omega
      ·clear hsb
       have hb2:(bz !=0)=true:=by simpa using hbz
       have hb3:(bz==0)=false:=by simpa using hbz
       cases sb
       ·go_wp2_with fail
        refine(HBUSY.out _ HS3.out).mono ?_
        rintro e w4⟨rfl,rfl⟩
        go_wp2_with fail
        refine(HSTK.out _ HS3.out).mono ?_
        rintro e w5⟨rfl,H5⟩
        have HS5:=Lib.hid (show WW W ⟨kd,fid,m,a,x,tb⟩ b0 #[.int .u8 kk, .int .u8 1, .int .u8 n8, .int .u32 bb] M2 w5 from H5)
        clear H5
        go_wp2_with fail
        refine(HBUSY.out _ HS5.out).mono ?_
        rintro e w6⟨rfl,rfl⟩
        go_wp2_with fail
        go_roundw
        case rel=>first|exact⟨t+1,by omega,⟨by go_num,by rw[Q1.out];simp[hbz]<;>go_num,by rw[Q2.out];simp<;>go_num,by rw[Q3.out];simp[hbz]<;>go_num⟩,HS5.out⟩|((repeat apply Exists.intro);refine⟨?_,rfl⟩;exact⟨t+1,by omega,⟨by go_num,by rw[Q1.out];simp[hbz]<;>go_num,by rw[Q2.out];simp<;>go_num,by rw[Q3.out];simp[hbz]<;>go_num⟩,HS5.out⟩)
        case measure=>simp[intOf];omega
       ·go_wp2_with fail
        refine(HBUSY.out _ HS3.out).mono ?_
        rintro e w4⟨rfl,rfl⟩
        go_wp2_with fail
        refine(HSTK.out _ HS3.out).mono ?_
        rintro e w5⟨rfl,H5⟩
        have HS5:=Lib.hid (show WW W ⟨kd,fid,m,a,x,tb⟩ b0 #[.int .u8 kk, .int .u8 1, .int .u8 n8, .int .u32 bb] M2 w5 from H5)
        clear H5
        go_wp2_with fail
        refine(HBUSY.out _ HS5.out).mono ?_
        rintro e w6⟨rfl,rfl⟩
        go_wp2_with fail
        go_roundw
        case rel=>first|exact⟨t+1,by omega,⟨by go_num,by rw[Q1.out];simp[hbz]<;>go_num,by rw[Q2.out];simp<;>go_num,by rw[Q3.out];simp[hbz]<;>go_num⟩,HS5.out⟩|((repeat apply Exists.intro);refine⟨?_,rfl⟩;exact⟨t+1,by omega,⟨by go_num,by rw[Q1.out];simp[hbz]<;>go_num,by rw[Q2.out];simp<;>go_num,by rw[Q3.out];simp[hbz]<;>go_num⟩,HS5.out⟩)
        case measure=>simp[intOf];omega
     ·have htk2:t=k:=by omega
      have hj2:(k:Int)≤(t:Int):=by omega
      subst htk2
      have hno:=HNS.out
      generalize cnt M2.Q7z t=ca at*
      generalize cnt M2.Q3a t=cb at*
      generalize cnt M2.holdB t=cc at*
      have HNO:=Lib.hid hno
      clear hno
      by_cases p1:0<ca
      ·have g1:(0:Int)<(ca:Int):=by omega
       by_cases p2:cb=ca
       ·subst p2
        have g3:((cc:Int)==0)=false:=by
         have: ¬cc=0:=fun h=>HNO.out ⟨p1,rfl,h⟩
         simp;omega
        go_wp2_with fail
        go_roundw
        case rel=>first|exact⟨j+1,by omega,by go_num,by rw[HM2.out];exact HS3.out⟩|((repeat apply Exists.intro);refine⟨?_,rfl⟩;exact⟨j+1,by omega,by go_num,by rw[HM2.out];exact HS3.out⟩)
        case measure=>simp[intOf];omega
       ·have g2:((cb:Int)==(ca:Int))=false:=by simp;omega
        go_wp2_with fail
        go_roundw
        case rel=>first|exact⟨j+1,by omega,by go_num,by rw[HM2.out];exact HS3.out⟩|((repeat apply Exists.intro);refine⟨?_,rfl⟩;exact⟨j+1,by omega,by go_num,by rw[HM2.out];exact HS3.out⟩)
        case measure=>simp[intOf];omega
      ·have g1:(ca:Int)≤0:=by omega
       go_wp2_with fail
       go_roundw
       case rel=>first|exact⟨j+1,by omega,by go_num,by rw[HM2.out];exact HS3.out⟩|((repeat apply Exists.intro);refine⟨?_,rfl⟩;exact⟨j+1,by omega,by go_num,by rw[HM2.out];exact HS3.out⟩)
       case measure=>simp[intOf];omega
   ·have hjm2:j=n:=by omega
    subst hjm2
    have hlt:l.take j=l:=by rw[←HLL.out,List.take_length]
    rw[hlt]at hR
    have hrest:=HWK2.out.2
    have hfl:=(Q7V g l M0).trans HFSL.out
    clear hlt
    generalize (Q5b g l M0).1=M5 at hR hrest hfl
    obtain⟨R,hRR⟩: ∃R:Nat,2*k*(8*k+40)=R:=⟨_,rfl⟩
    have hR2:R≤1664:=by
     have h8:=HK1.out.2
     subst hRR
     exact Nat.mul_le_mul (show 2*k≤16 by omega) (show 8*k+40≤104 by omega)
    have hRI0:2*(k:Int)*(8*(k:Int)+40)=(R:Int):=by rw[←hRR];push_cast;rfl
    have hRI:(k:Int)*(8*(k:Int)+40)*2=(R:Int):=by rw[←hRI0,Int.mul_comm _ 2,←Int.mul_assoc]
    rw[hRR]at hrest
    have hkk:0≤(k:Int)*(8*(k:Int)+40)∧(k:Int)*(8*(k:Int)+40)≤1664:=by omega
    have x1:IntKind.i64.wrap (8*(k:Int))=8*(k:Int):=by rw[IntKind.wrap_i64];omega
    have x2:IntKind.i64.wrap (8*(k:Int)+40)=8*(k:Int)+40:=by rw[IntKind.wrap_i64];omega
    have x3:IntKind.i64.wrap ((k:Int)*(8*(k:Int)+40))=(k:Int)*(8*(k:Int)+40):=by rw[IntKind.wrap_i64];omega
    have x4:IntKind.i64.wrap ((k:Int)*(8*(k:Int)+40)*2)=(R:Int):=by rw[hRI,IntKind.wrap_i64];omega
    have HREST:=Lib.hid hrest
    have HFL5:=Lib.hid hfl
    have HV:=Lib.hid hR
    have HNW:=Lib.hid (fun(M:Mt) (w':World) (h:WW W ⟨kd,fid,m,a,x,tb⟩ b0 #[.int .u8 kk, .int .u8 1, .int .u8 n8, .int .u32 bb] M w')=>(HN.out w').mono (R':=fun e w''=>e= .returned (.int .i64 k)∧WW W ⟨kd,fid,m,a,x,tb⟩ b0 #[.int .u8 kk, .int .u8 1, .int .u8 n8, .int .u32 bb] M w'') (fun e w'' hh=>⟨hh.1,Q2N.grow h hh.2⟩))
    clear hrest hfl hR hRR hRI hRI0 hkk hj hi1 hjm
    have hi2:(j:Int)≤(j:Int):=Int.le_refl _
    go_wp2_with fail
    go_loopw [11] (fun c wr=> ∃r:Nat,r≤R∧c= .int .i64 r∧WW W ⟨kd,fid,m,a,x,tb⟩ b0 #[.int .u8 kk, .int .u8 1, .int .u8 n8, .int .u32 bb] (Q2v g k M5 r) wr) (fun c _=>R-(intOf c).toNat)
    case atStart=>exact⟨0,Nat.zero_le _,rfl,HV.out⟩
    case round=>
     obtain⟨r,hr,rfl,hR⟩:=hrel
     clear HV
     have hi1:(0:Int)≤(r:Int):=Int.natCast_nonneg _
     have HDREW:=Lib.hid (show WW W ⟨kd,fid,m,a,x,tb⟩ b0 #[.int .u8 kk, .int .u8 1, .int .u8 n8, .int .u32 bb] (Q2v g k M5 r) wr.drew from Q2N.drew hR)
     clear hR
     by_cases hrR:r<R
     ·have hi3:(r:Int)<(R:Int):=by omega
      go_wp2_with fail
      go_region_held3 (fun w'=>WW W ⟨kd,fid,m,a,x,tb⟩ b0 #[.int .u8 kk, .int .u8 1, .int .u8 n8, .int .u32 bb] (Q2v g k M5 r) w'∧(∀i,w'.cell? ⟨b0,i,none⟩=(#[.int .u8 kk, .int .u8 1, .int .u8 n8, .int .u32 bb]:Array Value)[i]?))
       (first|(refine WW.cells ?_;first|exact HC2.out|exact HC1.out|exact HDREW.out))
       (first
        |(go_at_call 16;refine(HNW.out _ _ HC1.out).mono ?_;rintro e w3 ⟨rfl,HC20⟩;have HC2:=Lib.hid HC20;clear HC20)
        |(go_at_call 16;refine(HNW.out _ _ HDREW.out).mono ?_;rintro e w2 ⟨rfl,HC10⟩;have HC1:=Lib.hid HC10;clear HC10))
      go_wp2_with fail
      go_loopw [12] (fun c wr=> ∃t:Nat,t≤k∧c= .int .i64 t∧WW W ⟨kd,fid,m,a,x,tb⟩ b0 #[.int .u8 kk, .int .u8 1, .int .u8 n8, .int .u32 bb] (Q2g g (Q2v g k M5 r) t) wr) (fun c _=>k-(intOf c).toNat)
      case atStart=>exact⟨0,Nat.zero_le _,rfl,HC2.out⟩
      case round=>
       obtain⟨t,ht,rfl,hR⟩:=hrel
       have hj1:(0:Int)≤(t:Int):=Int.natCast_nonneg _
       obtain⟨z0,z1,z2⟩:=(Q2N.first hR).own
       have HS:=Lib.hid hR
       clear hR
       go_wp2_with fail
       refine(HNW.out _ _ HS.out).mono ?_
       rintro e w4⟨rfl,HS0⟩
       have HS4:=Lib.hid HS0
       clear HS0 HS z0 z1 z2
       by_cases htk:t<k
       ·have hj2:(t:Int)<(k:Int):=by omega
        have hlb:=X6v g k M5 r t HFL5.out
        have hti:t<(Q2g g (Q2v g k M5 r) t).fs.length:=by omega
        have hhd:=HS4.out.1.held t
        have hhold:=Q6E HS4.out t hti
        have hpk: ∀hv,(Q2g g (Q2v g k M5 r) t).hold.getD t 0=hv→Calls Tryz.prog 12 #[.pointer (some ⟨x,0,none⟩), .agg #[.int .i64 t, .int .i64 (2*hv)]] w4 fun e w'=> ∃v,e= .returned v∧WW W ⟨kd,fid,m,a,x,tb⟩ b0 #[.int .u8 kk, .int .u8 1, .int .u8 n8, .int .u32 bb] (Q2g g (Q2v g k M5 r) (t+1)) w':=fun hv he=>by
         have h:=Y2H HK.out HS4.out t hti (2*hv)
         rw[←he]at h⊢
         exact h
        have hpk:=hpk _ rfl
        generalize (Q2g g (Q2v g k M5 r) t).hold.getD t 0=hv at hhd hhold hpk
        have HPK:=Lib.hid hpk
        have HHO:=Lib.hid hhold
        clear hpk hhold hlb hti
        rcases hhd with rfl|rfl|rfl
        ·go_wp2_with fail
         refine HHO.out.mono ?_
         rintro e w5⟨rfl,rfl⟩
         go_wp2_with fail
         refine HHO.out.mono ?_
         rintro e w5⟨rfl,rfl⟩
         go_wp2_with fail
         refine HPK.out.mono ?_
         rintro e w6⟨v,rfl,H6⟩
         have HS6:=Lib.hid H6
         clear H6
         go_wp2_with fail
         go_roundw
         case rel=>first|exact⟨t+1,by omega,by go_num,HS6.out⟩|((repeat apply Exists.intro);refine⟨?_,rfl⟩;exact⟨t+1,by omega,by go_num,HS6.out⟩)
         case measure=>simp[intOf];omega
        ·go_wp2_with fail
         refine HHO.out.mono ?_
         rintro e w5⟨rfl,rfl⟩
         go_wp2_with fail
         refine HHO.out.mono ?_
         rintro e w5⟨rfl,rfl⟩
         go_wp2_with fail
         refine HPK.out.mono ?_
         rintro e w6⟨v,rfl,H6⟩
         have HS6:=Lib.hid H6
         clear H6
         go_wp2_with fail
         go_roundw
         case rel=>first|exact⟨t+1,by omega,by go_num,HS6.out⟩|((repeat apply Exists.intro);refine⟨?_,rfl⟩;exact⟨t+1,by omega,by go_num,HS6.out⟩)
         case measure=>simp[intOf];omega
        ·go_wp2_with fail
         refine HHO.out.mono ?_
         rintro e w5⟨rfl,rfl⟩
         go_wp2_with fail
         refine HHO.out.mono ?_
         rintro e w5⟨rfl,rfl⟩
         go_wp2_with fail
         refine HPK.out.mono ?_
         rintro e w6⟨v,rfl,H6⟩
         have HS6:=Lib.hid H6
         clear H6
         go_wp2_with fail
         go_roundw
         case rel=>first|exact⟨t+1,by omega,by go_num,HS6.out⟩|((repeat apply Exists.intro);refine⟨?_,rfl⟩;exact⟨t+1,by omega,by go_num,HS6.out⟩)
         case measure=>simp[intOf];omega
       ·have htk2:t=k:=by omega
        have hj2:(k:Int)≤(t:Int):=by omega
        subst htk2
        go_wp2_with fail
        go_roundw
        case rel=>first|exact⟨r+1,by omega,by go_num,HS4.out⟩|((repeat apply Exists.intro);refine⟨?_,rfl⟩;exact⟨r+1,by omega,by go_num,HS4.out⟩)
        case measure=>simp[intOf];omega
     ·have hrR2:r=R:=by omega
      have hi3:(R:Int)≤(r:Int):=by omega
      go_wp2_with fail
      go_region_held3 (fun w'=>WW W ⟨kd,fid,m,a,x,tb⟩ b0 #[.int .u8 kk, .int .u8 1, .int .u8 n8, .int .u32 bb] (Q2v g k M5 r) w'∧(∀i,w'.cell? ⟨b0,i,none⟩=(#[.int .u8 kk, .int .u8 1, .int .u8 n8, .int .u32 bb]:Array Value)[i]?))
       (first|(refine WW.cells ?_;first|exact HC2.out|exact HC1.out|exact HDREW.out))
       (first
        |(go_at_call 16;refine(HNW.out _ _ HC1.out).mono ?_;rintro e w3 ⟨rfl,HC20⟩;have HC2:=Lib.hid HC20;clear HC20)
        |(go_at_call 16;refine(HNW.out _ _ HDREW.out).mono ?_;rintro e w2 ⟨rfl,HC10⟩;have HC1:=Lib.hid HC10;clear HC10))
      subst hrR2
      generalize hM6:Q2v g k M5 r=M6 at*
      have hfl6:M6.fs.length=k:=by rw[←hM6];exact(Q9E g k M5 r).trans HFL5.out
      clear hM6
      have HFL6:=Lib.hid hfl6
      clear hfl6
      go_wp2_with fail
      go_loopw [14] (fun c wr=>WW W ⟨kd,fid,m,a,x,tb⟩ b0 #[.int .u8 kk, .int .u8 1, .int .u8 n8, .int .u32 bb] M6 wr∧ ∃t:Nat,t≤k∧c= .int .i64 t) (fun c _=>k-(intOf c).toNat)
      case atStart=>exact⟨HC2.out,0,Nat.zero_le _,rfl⟩
      case round=>
       obtain⟨hR,t,ht,rfl⟩:=hrel
       have hj1:(0:Int)≤(t:Int):=Int.natCast_nonneg _
       obtain⟨z0,z1,z2⟩:=(Q2N.first hR).own
       have HS:=Lib.hid hR
       clear hR
       go_wp2_with fail
       refine(HNW.out _ _ HS.out).mono ?_
       rintro e w4⟨rfl,HS0⟩
       have HS4:=Lib.hid HS0
       clear HS0 HS z0 z1 z2
       by_cases htk:t<k
       ·have hj2:(t:Int)<(k:Int):=by omega
        have hti:t<M6.fs.length:=by have:=HFL6.out;omega
        have hb:=Q7Q HS4.out t hti
        have hh:=Q6E HS4.out t hti
        rw[(HREST.out t htk).1]at hb
        rw[(HREST.out t htk).2]at hh
        have HBU:=Lib.hid hb
        have HHO:=Lib.hid hh
        clear hb hh hti
        go_wp2_with fail
        refine HBU.out.mono ?_
        rintro e w5⟨rfl,rfl⟩
        go_wp2_with fail
        refine HHO.out.mono ?_
        rintro e w5⟨rfl,rfl⟩
        go_wp2_with fail
        go_roundw
        case rel=>first|exact⟨HS4.out,t+1,by omega,by go_num⟩|((repeat apply Exists.intro);refine⟨?_,rfl⟩;exact⟨HS4.out,t+1,by omega,by go_num⟩)
        case measure=>simp[intOf];omega
       ·have htk2:t=k:=by omega
        have hj2:(k:Int)≤(t:Int):=by omega
        subst htk2
        go_wp2_with fail
        refine(HAW.out _ HS4.out.touch).mono ?_
        rintro e w' ⟨rfl,t⟩
        have HT:=Lib.hid t
        clear t
        go_wp2_with fail
        go_ret
        exact⟨by simp,HT.out⟩
 ·have h401:(400:Int)<(n:Int):=by omega
  clear h400
  go_wp2_with fail
  refine(HAW.out _ HW.out.touch).mono ?_
  rintro e w' ⟨rfl,t⟩
  have HT:=Lib.hid t
  clear t
  go_wp2_with fail
  go_ret
  exact⟨by simp,HT.out⟩
end Go.Proofs.YthnimpkoidablaaGreat.Z
