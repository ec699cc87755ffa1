import Derived.Test.YthnimpkoidablaaGreatZA22
set_option linter.unusedVariables false
set_option linter.unusedSimpArgs false
set_option maxHeartbeats 1600000
namespace Go.Proofs.YthnimpkoidablaaGreat.Z
open Go.RowKit
def awL:List (Int×Int):=[(0,3),(0,0),(0,0),(0,0)]
def awX:Lk:=⟨3,1,1,0⟩
theorem X9B:((Q5b fqA awL (awX.st (X0N own4 2))).1.hold.getD 0 0=2∧(Q5b fqA awL (awX.st (X0N own4 2))).2.length=4)∧(Q5b fqA awL (awX.st (X0N own4 2))).1.fs.length=2:=by decide+kernel
set_option maxRecDepth 100000 in
theorem X9A(w:World):Calls Tryz.prog 11 #[] w fun e w'=>e= .returned (.bool true)∧Touch [] w w':=by
 have hmade:Calls Tryz.prog 10 #[.agg awX.cells.toArray] w (Y1M [] w 4 70 [] (awX.st (X0N own4 2))):=X0C (x:=awX) (by unfold X5V awX;decide) X0D (Has.start [] w)
 have hrun: ∀(M:Mt),M=awX.st (X0N own4 2)→ ∀(p:Wl) (bl:Nat) (w1:World),p.fid=70→Q2N [] w p (.blk bl #[.int .i64 0, .int .i64 3, .int .i64 0, .int .i64 0, .int .i64 0, .int .i64 0, .int .i64 0, .int .i64 0]::[]) M w1→
  Calls Tryz.prog 24 #[.pointer (some ⟨p.x,0,none⟩), .slice (some ⟨bl,0,none⟩) 4 4] w1 fun e w'=> ∃v,e= .returned v∧ ∃M' nl,M'.hold.getD 0 0=2∧List.length nl=4∧0<M'.fs.length∧Y5M [] w p (.blk bl #[.int .i64 0, .int .i64 3, .int .i64 0, .int .i64 0, .int .i64 0, .int .i64 0, .int .i64 0, .int .i64 0]::[]) v (M',nl) w':=by
  intro M hM p bl w1 hf H
  refine(Q9n (g:=fqA) (by rw[hf];exact X0D.ok) H (A:=some ⟨bl,0,none⟩) (n:=4) (c:=4) (l:=awL) ?_ (by decide)).mono ?_
  ·intro v R W HR
   refine⟨rfl,fun _=>⟨_,rfl,(Has.at_ HR.2 4 rfl).lt,fun j u hu=> ?_⟩⟩
   rw[Addr.add_lit,Nat.zero_add,(Has.at_ HR.2 4 rfl).cell,←hu]
   simp[awL,Q2W]
  ·rintro e w' ⟨v,he,H'⟩
   refine⟨v,he,(Q5b fqA awL M).1,(Q5b fqA awL M).2,?_,?_,?_,H'⟩
   ·rw[hM];exact X9B.1.1
   ·rw[hM];exact X9B.1.2
   ·rw[hM];exact Nat.lt_of_lt_of_eq (by decide:0<2) X9B.2.symm
 generalize awX.st (X0N own4 2)=M at hmade hrun
 simp only[awX,Lk.cells]at hmade
 have HM:=Lib.hid hmade
 have HR:=Lib.hid (hrun M rfl)
 clear hmade hrun
 go_enter Tryz.func11,Tryz.ntmps11
 go_wp2_with fail
 refine HM.out.mono ?_
 rintro e w1⟨m,a,x,tb,rfl,H1⟩
 have HB:=Lib.hid (H1.box (c0:= #[.int .i64 0, .int .i64 3, .int .i64 0, .int .i64 0, .int .i64 0, .int .i64 0, .int .i64 0, .int .i64 0]) (t0:=38))
 clear H1 HM
 go_wp2_with fail
 refine(HR.out ⟨4,70,m,a,x,tb⟩ _ _ rfl HB.out).mono ?_
 rintro e w2⟨v,rfl,M',nl,h1,h2,h3,H2⟩
 obtain⟨pn,cn,rfl⟩:=Q2p (Has.Q5B H2.2 3 rfl)
 simp only[h2]at H2
 have HW:=Lib.hid H2
 have HL2:=Lib.hid h2
 have HL:=Lib.hid h1
 have H3:=Lib.hid h3
 clear HB HR h1 h2 h3 H2
 go_wp2_with fail
 have hh:=Q6E HW.out 0 H3.out
 rw[HL.out]at hh
 refine hh.mono ?_
 rintro e w3⟨rfl,rfl⟩
 go_wp2_with fail
 go_ret
 exact⟨by have h:=HL2.out;simp[h],HW.out.touch⟩
theorem X8a(g:Rn→Rn)(M:Mt)(t op:Int):(M.Q3R g t op).1.fs.length=M.fs.length:=by
 have hs: ∀(M:Mt) (i:Nat),(M.Q4B g i).1.fs.length=M.fs.length:=fun M i=>by
  unfold Mt.Q4B
  split<;>simp[Mt.put]
 unfold Mt.Q3R
 split
 ·split
  ·split
   ·unfold Mt.Q5V
    split
    ·rw[hs]
     simp[Mt.put]
    ·rfl
   ·rfl
  ·split
   ·rfl
   ·exact hs M _
 ·rfl
theorem Q7V(g:Rn→Rn): ∀(l:List (Int×Int)) (M:Mt),(Q5b g l M).1.fs.length=M.fs.length
 |[],M=>rfl
 |x::l,M=>(Q7V g l _).trans (X8a g M x.1 x.2)
end Go.Proofs.YthnimpkoidablaaGreat.Z
