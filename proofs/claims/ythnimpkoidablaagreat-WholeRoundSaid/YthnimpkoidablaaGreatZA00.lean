import Derived.WalkKit
import Derived.RegionTactic
import Derived.BigRegion
import Derived.BigQuiet
import Derived.Deep.QuietTactic
import Derived.ChangeAlike
import Derived.Lib.Hide
import Derived.Deep.Draws
import Derived.Test.YthnimpkoidablaaGreatRows
import Derived.Maps.AppendAt
import Derived.Deep.AppendLies
import Derived.WalkSpells
import Derived.Outline
set_option linter.unusedVariables false
set_option linter.unusedSimpArgs false
set_option maxHeartbeats 400000
namespace Go.Proofs.YthnimpkoidablaaGreat.Z
open Go.RowKit
def Blk(w:World)(b:Nat)(cs:Array Value):Prop:= ∃T,w.heap[b]? =some (.cells cs T (0,0))
structure Touch(S:List Nat)(w w':World):Prop where
 os:w'.os=w.os
 tape:w'.tape=w.tape
 output:w'.output=w.output
 size:w.heap.size≤w'.heap.size
 block: ∀k,k<w.heap.size→k∉S→w'.heap[k]? =w.heap[k]?
theorem Touch.refl(S:List Nat)(w:World):Touch S w w:=⟨rfl,rfl,rfl,Nat.le_refl _,fun _ _ _=>rfl⟩
theorem Touch.trans{S:List Nat}{a b c:World}(h:Touch S a b)(k:Touch S b c):Touch S a c:=
 ⟨k.os.trans h.os,k.tape.trans h.tape,k.output.trans h.output,Nat.le_trans h.size k.size,fun i hi hs=>(k.block i (Nat.lt_of_lt_of_le hi h.size) hs).trans (h.block i hi hs)⟩
theorem Touch.mono{S S':List Nat}{w w':World}(h:Touch S w w')(hS: ∀k,k∈S→k<w.heap.size→k∈S'):Touch S' w w':=
 ⟨h.os,h.tape,h.output,h.size,fun i hi hs=>h.block i hi (fun hm=>hs (hS i hm hi))⟩
theorem Touch.drew{S:List Nat}{a w:World}(h:Touch S a w):Touch S a w.drew:=⟨h.os,h.tape,h.output,h.size,h.block⟩
theorem Touch.drewN{S:List Nat}{a w:World}(h:Touch S a w)(n:Nat):Touch S a (w.drewN n):=⟨h.os,h.tape,h.output,h.size,h.block⟩
theorem Touch.alloc{S:List Nat}{a w:World}(h:Touch S a w)(o:Obj):Touch S a (w.alloc o):=
 h.trans ⟨rfl,rfl,rfl,by simp,fun k hk _=>Below.heap_alloc _ _ _ hk⟩
theorem Touch.set{S:List Nat}{a w:World}(h:Touch S a w){p:Addr}(hp:p.block∈S)(u:Value):Touch S a (w.setCell p u):=
 h.trans ⟨rfl,rfl,rfl,by simp[World.setCell],fun k hk hs=>Below.heap_setCell _ _ _ _ (fun e=>hs (e▸hp))⟩
theorem Touch.Q7E{S:List Nat}{a w:World}(h:Touch S a w){p:Addr}(hp:a.heap.size≤p.block)(u:Value):Touch S a (w.setCell p u):=
 ⟨h.os,h.tape,h.output,by simpa[World.setCell]using h.size,fun k hk hs=>(Below.heap_setCell _ _ _ _ (by omega)).trans (h.block k hk hs)⟩
theorem Touch.cell{S:List Nat}{w w':World}(h:Touch S w w'){p:Addr}(hp:p.block<w.heap.size)(hs:p.block∉S):w'.cell? p=w.cell? p:=
 World.cell?_of_block (w:=w) (h.block p.block hp hs)
theorem Touch.blk{S:List Nat}{w w':World}(h:Touch S w w'){b:Nat}{cs:Array Value}(hb:Blk w b cs)(hs:b∉S):Blk w' b cs:=by
 obtain⟨T,hT⟩:=hb
 have hlt:b<w.heap.size:=by
  rcases Nat.lt_or_ge b w.heap.size with h'|h'
  ·exact h'
  ·simp[Array.getElem?_eq_none h']at hT
 exact⟨T,(h.block b hlt hs).trans hT⟩
theorem Below.touch{B:Nat}{S:List Nat}{a w w':World}(h:Below B a w)(hB:B≤w.heap.size)(t:Touch S w w')(hS: ∀k,k∈S→B≤k):Below B a w':=
 h.trans ⟨t.os,t.tape,t.output,t.size,fun k hk=>t.block k (by omega) (fun hm=>by have:=hS k hm;omega)⟩
theorem Touch.below{S:List Nat}{w w':World}{B:Nat}(t:Touch S w w')(hB:B≤w.heap.size)(hS: ∀k,k∈S→B≤k):Below B w w':=
 ⟨t.os,t.tape,t.output,t.size,fun k hk=>t.block k (by omega) (fun hm=>by have:=hS k hm;omega)⟩
theorem Below.X2h{w w':World}(h:Below w.heap.size w w'):Touch [] w w':=⟨h.os,h.tape,h.output,h.size,fun k hk _=>h.block k hk⟩
theorem Touch.newer{S T:List Nat}{w w' w'':World}(h:Touch S w w')(t:Touch T w' w'')(hT: ∀k,k∈T→w.heap.size≤k):Touch S w w'':=
 ⟨t.os.trans h.os,t.tape.trans h.tape,t.output.trans h.output,Nat.le_trans h.size t.size,fun k hk hs=>(t.block k (Nat.lt_of_lt_of_le hk h.size) (fun hm=>by have:=hT k hm;omega)).trans (h.block k hk hs)⟩
theorem Blk.lt{w:World}{b:Nat}{cs:Array Value}(h:Blk w b cs):b<w.heap.size:=by
 obtain⟨T,hT⟩:=h
 rcases Nat.lt_or_ge b w.heap.size with h'|h'
 ·exact h'
 ·simp[Array.getElem?_eq_none h']at hT
theorem Blk.cell{w:World}{b:Nat}{cs:Array Value}(h:Blk w b cs)(i:Nat):w.cell? ⟨b,i,none⟩=cs[i]? :=by
 obtain⟨T,hT⟩:=h
 simp[World.cell?,hT]
theorem Blk.free{w:World}{b:Nat}{cs:Array Value}(h:Blk w b cs)(i:Nat):w.frozen? ⟨b,i,none⟩=false:=by
 obtain⟨T,hT⟩:=h
 simp[World.frozen?,hT]
theorem Blk.set{w:World}{b:Nat}{cs:Array Value}(h:Blk w b cs)(i:Nat)(v:Value):Blk (w.setCell ⟨b,i,none⟩ v) b (cs.setIfInBounds i v):=by
 obtain⟨T,hT⟩:=h
 refine⟨T,?_⟩
 simp[World.setCell,Array.getElem?_modify,hT]
theorem Blk.X1f{w:World}{b:Nat}{cs:Array Value}(h:Blk w b cs){p:Addr}(hne:b≠p.block)(v:Value):Blk (w.setCell p v) b cs:=by
 obtain⟨T,hT⟩:=h
 exact⟨T,(Below.heap_setCell _ _ _ _ hne).trans hT⟩
theorem Blk.alloc{w:World}{b:Nat}{cs:Array Value}(h:Blk w b cs)(o:Obj):Blk (w.alloc o) b cs:=by
 have hlt:=h.lt
 obtain⟨T,hT⟩:=h
 exact⟨T,(Below.heap_alloc _ _ _ hlt).trans hT⟩
theorem Blk.drew{w:World}{b:Nat}{cs:Array Value}(h:Blk w b cs):Blk w.drew b cs:=h
theorem Blk.drewN{w:World}{b:Nat}{cs:Array Value}(h:Blk w b cs)(n:Nat):Blk (w.drewN n) b cs:=h
theorem Blk.new(w:World)(cs:Array Value)(T:TypeId):Blk (w.alloc (.cells cs T)) w.heap.size cs:=⟨T,by show(w.heap.push _)[w.heap.size]? =_;simp⟩
theorem Blk.eq{w:World}{b:Nat}{cs ds:Array Value}(h:Blk w b cs)(e:cs=ds):Blk w b ds:=e▸h
theorem Blk.ne{w:World}{a b:Nat}{cs ds:Array Value}(h:Blk w a cs)(k:Blk w b ds)(hne:cs≠ds):a≠b:=by
 rintro rfl
 obtain⟨T,hT⟩:=h
 obtain⟨T',hT'⟩:=k
 rw[hT]at hT'
 simp at hT'
 exact hne hT'.1
theorem Blk.own{w:World}{b:Nat}{cs:Array Value}(h:Blk w b cs):b<w.heap.size∧(∀i,w.cell? ⟨b,i,none⟩=cs[i]?)∧ ∀i,w.frozen? ⟨b,i,none⟩=false:=
 ⟨h.lt,h.cell,h.free⟩
theorem Touch.Q5P{S:List Nat}{w w1:World}{c0:Array Value}{t0:TypeId}(t:Touch S (w.alloc (.cells c0 t0)) w1)(hs: ∀k,k∈S→k<w.heap.size):Blk w1 (w.heap.size) c0:=by
 have hn: ∀i,w.heap.size+i∉S:=fun i hm=>by have:=hs _ hm;omega
 have b0:Blk (w.alloc (.cells c0 t0)) (w.heap.size) c0:=by have:=Blk.new w c0 t0;simpa only[World.size_alloc,Nat.add_assoc]using this
 exact t.blk b0 (hn 0)
theorem Touch.Q3U{S:List Nat}{w w1:World}{c0 c1:Array Value}{t0 t1:TypeId}(t:Touch S ((w.alloc (.cells c0 t0)).alloc (.cells c1 t1)) w1)(hs: ∀k,k∈S→k<w.heap.size):Blk w1 (w.heap.size) c0∧Blk w1 (w.heap.size+1) c1:=by
 have hn: ∀i,w.heap.size+i∉S:=fun i hm=>by have:=hs _ hm;omega
 have b0:Blk (w.alloc (.cells c0 t0)) (w.heap.size) c0:=by have:=Blk.new w c0 t0;simpa only[World.size_alloc,Nat.add_assoc]using this
 have b1:Blk ((w.alloc (.cells c0 t0)).alloc (.cells c1 t1)) (w.heap.size+1) c1:=by have:=Blk.new (w.alloc (.cells c0 t0)) c1 t1;simpa only[World.size_alloc,Nat.add_assoc]using this
 exact⟨t.blk (b0.alloc (.cells c1 t1)) (hn 0),t.blk b1 (hn 1)⟩
theorem Touch.Q4F{S:List Nat}{w w1:World}{c0 c1 c2:Array Value}{t0 t1 t2:TypeId}(t:Touch S (((w.alloc (.cells c0 t0)).alloc (.cells c1 t1)).alloc (.cells c2 t2)) w1)(hs: ∀k,k∈S→k<w.heap.size):Blk w1 (w.heap.size) c0∧Blk w1 (w.heap.size+1) c1∧Blk w1 (w.heap.size+2) c2:=by
 have hn: ∀i,w.heap.size+i∉S:=fun i hm=>by have:=hs _ hm;omega
 have b0:Blk (w.alloc (.cells c0 t0)) (w.heap.size) c0:=by have:=Blk.new w c0 t0;simpa only[World.size_alloc,Nat.add_assoc]using this
 have b1:Blk ((w.alloc (.cells c0 t0)).alloc (.cells c1 t1)) (w.heap.size+1) c1:=by have:=Blk.new (w.alloc (.cells c0 t0)) c1 t1;simpa only[World.size_alloc,Nat.add_assoc]using this
 have b2:Blk (((w.alloc (.cells c0 t0)).alloc (.cells c1 t1)).alloc (.cells c2 t2)) (w.heap.size+2) c2:=by have:=Blk.new ((w.alloc (.cells c0 t0)).alloc (.cells c1 t1)) c2 t2;simpa only[World.size_alloc,Nat.add_assoc]using this
 exact⟨t.blk ((b0.alloc (.cells c1 t1)).alloc (.cells c2 t2)) (hn 0),t.blk (b1.alloc (.cells c2 t2)) (hn 1),t.blk b2 (hn 2)⟩
theorem Touch.own4{S:List Nat}{w w1:World}{c0 c1 c2 c3:Array Value}{t0 t1 t2 t3:TypeId}(t:Touch S ((((w.alloc (.cells c0 t0)).alloc (.cells c1 t1)).alloc (.cells c2 t2)).alloc (.cells c3 t3)) w1)(hs: ∀k,k∈S→k<w.heap.size):Blk w1 (w.heap.size) c0∧Blk w1 (w.heap.size+1) c1∧Blk w1 (w.heap.size+2) c2∧Blk w1 (w.heap.size+3) c3:=by
 have hn: ∀i,w.heap.size+i∉S:=fun i hm=>by have:=hs _ hm;omega
 have b0:Blk (w.alloc (.cells c0 t0)) (w.heap.size) c0:=by have:=Blk.new w c0 t0;simpa only[World.size_alloc,Nat.add_assoc]using this
 have b1:Blk ((w.alloc (.cells c0 t0)).alloc (.cells c1 t1)) (w.heap.size+1) c1:=by have:=Blk.new (w.alloc (.cells c0 t0)) c1 t1;simpa only[World.size_alloc,Nat.add_assoc]using this
 have b2:Blk (((w.alloc (.cells c0 t0)).alloc (.cells c1 t1)).alloc (.cells c2 t2)) (w.heap.size+2) c2:=by have:=Blk.new ((w.alloc (.cells c0 t0)).alloc (.cells c1 t1)) c2 t2;simpa only[World.size_alloc,Nat.add_assoc]using this
 have b3:Blk ((((w.alloc (.cells c0 t0)).alloc (.cells c1 t1)).alloc (.cells c2 t2)).alloc (.cells c3 t3)) (w.heap.size+3) c3:=by have:=Blk.new (((w.alloc (.cells c0 t0)).alloc (.cells c1 t1)).alloc (.cells c2 t2)) c3 t3;simpa only[World.size_alloc,Nat.add_assoc]using this
 exact⟨t.blk (((b0.alloc (.cells c1 t1)).alloc (.cells c2 t2)).alloc (.cells c3 t3)) (hn 0),t.blk ((b1.alloc (.cells c2 t2)).alloc (.cells c3 t3)) (hn 1),t.blk (b2.alloc (.cells c3 t3)) (hn 2),t.blk b3 (hn 3)⟩
theorem Touch.Q9j{S:List Nat}{w w1:World}{c0 c1 c2 c3 c4:Array Value}{t0 t1 t2 t3 t4:TypeId}(t:Touch S (((((w.alloc (.cells c0 t0)).alloc (.cells c1 t1)).alloc (.cells c2 t2)).alloc (.cells c3 t3)).alloc (.cells c4 t4)) w1)(hs: ∀k,k∈S→k<w.heap.size):Blk w1 (w.heap.size) c0∧Blk w1 (w.heap.size+1) c1∧Blk w1 (w.heap.size+2) c2∧Blk w1 (w.heap.size+3) c3∧Blk w1 (w.heap.size+4) c4:=by
 have hn: ∀i,w.heap.size+i∉S:=fun i hm=>by have:=hs _ hm;omega
 have b0:Blk (w.alloc (.cells c0 t0)) (w.heap.size) c0:=by have:=Blk.new w c0 t0;simpa only[World.size_alloc,Nat.add_assoc]using this
 have b1:Blk ((w.alloc (.cells c0 t0)).alloc (.cells c1 t1)) (w.heap.size+1) c1:=by have:=Blk.new (w.alloc (.cells c0 t0)) c1 t1;simpa only[World.size_alloc,Nat.add_assoc]using this
 have b2:Blk (((w.alloc (.cells c0 t0)).alloc (.cells c1 t1)).alloc (.cells c2 t2)) (w.heap.size+2) c2:=by have:=Blk.new ((w.alloc (.cells c0 t0)).alloc (.cells c1 t1)) c2 t2;simpa only[World.size_alloc,Nat.add_assoc]using this
 have b3:Blk ((((w.alloc (.cells c0 t0)).alloc (.cells c1 t1)).alloc (.cells c2 t2)).alloc (.cells c3 t3)) (w.heap.size+3) c3:=by have:=Blk.new (((w.alloc (.cells c0 t0)).alloc (.cells c1 t1)).alloc (.cells c2 t2)) c3 t3;simpa only[World.size_alloc,Nat.add_assoc]using this
 have b4:Blk (((((w.alloc (.cells c0 t0)).alloc (.cells c1 t1)).alloc (.cells c2 t2)).alloc (.cells c3 t3)).alloc (.cells c4 t4)) (w.heap.size+4) c4:=by have:=Blk.new ((((w.alloc (.cells c0 t0)).alloc (.cells c1 t1)).alloc (.cells c2 t2)).alloc (.cells c3 t3)) c4 t4;simpa only[World.size_alloc,Nat.add_assoc]using this
 exact⟨t.blk ((((b0.alloc (.cells c1 t1)).alloc (.cells c2 t2)).alloc (.cells c3 t3)).alloc (.cells c4 t4)) (hn 0),t.blk (((b1.alloc (.cells c2 t2)).alloc (.cells c3 t3)).alloc (.cells c4 t4)) (hn 1),t.blk ((b2.alloc (.cells c3 t3)).alloc (.cells c4 t4)) (hn 2),t.blk (b3.alloc (.cells c4 t4)) (hn 3),t.blk b4 (hn 4)⟩
theorem Touch.Q8A{S:List Nat}{w w1:World}{c0 c1 c2 c3 c4 c5:Array Value}{t0 t1 t2 t3 t4 t5:TypeId}(t:Touch S ((((((w.alloc (.cells c0 t0)).alloc (.cells c1 t1)).alloc (.cells c2 t2)).alloc (.cells c3 t3)).alloc (.cells c4 t4)).alloc (.cells c5 t5)) w1)(hs: ∀k,k∈S→k<w.heap.size):Blk w1 (w.heap.size) c0∧Blk w1 (w.heap.size+1) c1∧Blk w1 (w.heap.size+2) c2∧Blk w1 (w.heap.size+3) c3∧Blk w1 (w.heap.size+4) c4∧Blk w1 (w.heap.size+5) c5:=by
 have hn: ∀i,w.heap.size+i∉S:=fun i hm=>by have:=hs _ hm;omega
 have b0:Blk (w.alloc (.cells c0 t0)) (w.heap.size) c0:=by have:=Blk.new w c0 t0;simpa only[World.size_alloc,Nat.add_assoc]using this
 have b1:Blk ((w.alloc (.cells c0 t0)).alloc (.cells c1 t1)) (w.heap.size+1) c1:=by have:=Blk.new (w.alloc (.cells c0 t0)) c1 t1;simpa only[World.size_alloc,Nat.add_assoc]using this
 have b2:Blk (((w.alloc (.cells c0 t0)).alloc (.cells c1 t1)).alloc (.cells c2 t2)) (w.heap.size+2) c2:=by have:=Blk.new ((w.alloc (.cells c0 t0)).alloc (.cells c1 t1)) c2 t2;simpa only[World.size_alloc,Nat.add_assoc]using this
 have b3:Blk ((((w.alloc (.cells c0 t0)).alloc (.cells c1 t1)).alloc (.cells c2 t2)).alloc (.cells c3 t3)) (w.heap.size+3) c3:=by have:=Blk.new (((w.alloc (.cells c0 t0)).alloc (.cells c1 t1)).alloc (.cells c2 t2)) c3 t3;simpa only[World.size_alloc,Nat.add_assoc]using this
 have b4:Blk (((((w.alloc (.cells c0 t0)).alloc (.cells c1 t1)).alloc (.cells c2 t2)).alloc (.cells c3 t3)).alloc (.cells c4 t4)) (w.heap.size+4) c4:=by have:=Blk.new ((((w.alloc (.cells c0 t0)).alloc (.cells c1 t1)).alloc (.cells c2 t2)).alloc (.cells c3 t3)) c4 t4;simpa only[World.size_alloc,Nat.add_assoc]using this
 have b5:Blk ((((((w.alloc (.cells c0 t0)).alloc (.cells c1 t1)).alloc (.cells c2 t2)).alloc (.cells c3 t3)).alloc (.cells c4 t4)).alloc (.cells c5 t5)) (w.heap.size+5) c5:=by have:=Blk.new (((((w.alloc (.cells c0 t0)).alloc (.cells c1 t1)).alloc (.cells c2 t2)).alloc (.cells c3 t3)).alloc (.cells c4 t4)) c5 t5;simpa only[World.size_alloc,Nat.add_assoc]using this
 exact⟨t.blk (((((b0.alloc (.cells c1 t1)).alloc (.cells c2 t2)).alloc (.cells c3 t3)).alloc (.cells c4 t4)).alloc (.cells c5 t5)) (hn 0),t.blk ((((b1.alloc (.cells c2 t2)).alloc (.cells c3 t3)).alloc (.cells c4 t4)).alloc (.cells c5 t5)) (hn 1),t.blk (((b2.alloc (.cells c3 t3)).alloc (.cells c4 t4)).alloc (.cells c5 t5)) (hn 2),t.blk ((b3.alloc (.cells c4 t4)).alloc (.cells c5 t5)) (hn 3),t.blk (b4.alloc (.cells c5 t5)) (hn 4),t.blk b5 (hn 5)⟩
def Q4q(L:List Int):List Value:=L.map (Value.int .u32)
structure Acc where
 kind:Int
 cell:Int
 x:Int
 y:Int
 old:Int
deriving DecidableEq
def Acc.zero:Acc:=⟨0,0,0,0,0⟩
def Acc.cells(a:Acc):Array Value:= #[.int .i64 a.kind, .int .i64 a.cell, .int .u32 a.x, .int .u32 a.y, .int .u32 a.old]
def Words(L:List Int):Prop:=L.length≤1024∧ ∀x,x∈L→0≤x∧x<4294967296
structure Mem(w:World)(m a:Nat)(L:List Int):Prop where
 ne:m≠a
 words:Words L
 head: ∃p cap,Blk w m #[.slice p L.length cap]∧L.length≤cap∧cap≤9223372036854775807∧(0<L.length→p=some ⟨a,0,none⟩)
 body:0<L.length→ ∃rest,Blk w a ((Q4q L)++rest).toArray
def lv(a:Nat)(L:List Int):List Nat:=if 0<L.length then [a]else []
theorem Q6S{k a:Nat}{L:List Int}(h:k∈lv a L):k=a∧0<L.length:=by
 unfold lv at h
 split at h
 ·rename_i h0
  exact⟨by simpa using h,h0⟩
 ·simp at h
def doA(L:List Int)(a:Acc):Acc×Bool×List Int:=
 if 0≤a.cell∧a.cell<L.length then
  let old:=L.getD a.cell.toNat 0
  if a.kind=1 then({a with old:=old},true,L)
  else if a.kind=3 then({a with old:=old},true,L.set a.cell.toNat ((old+a.x)%4294967296))
  else if a.kind=5 then({a with old:=old},true,if old=a.x then L.set a.cell.toNat a.y else L)
  else if a.kind=2∨a.kind=4 then({a with old:=old},true,L.set a.cell.toNat a.x)
  else(Acc.zero,false,L)
 else(Acc.zero,false,L)
theorem X3n{L:List Int}{i:Nat}(h:i<L.length)(rest:List Value):(Q4q L++rest).toArray[i]? =some (.int .u32 (L.getD i 0)):=by
 simp[Q4q,List.getElem?_append,h]
theorem X3l{L:List Int}{i:Nat}(h:i<L.length)(rest:List Value)(v:Int):(Q4q L++rest).toArray.setIfInBounds i (.int .u32 v)=(Q4q (L.set i v)++rest).toArray:=by
 simp[Q4q,List.set_append,h,List.map_set]
theorem Words.set{L:List Int}(h:Words L)(i:Nat)(v:Int)(h0:0≤v)(h1:v<4294967296):Words (L.set i v):=
 ⟨by simpa using h.1,fun x hx=>(List.mem_or_eq_of_mem_set hx).elim (h.2 x) (fun e=>e▸⟨h0,h1⟩)⟩
theorem Words.getD{L:List Int}(h:Words L)(i:Nat):0≤L.getD i 0∧L.getD i 0<4294967296:=by
 by_cases hi:i<L.length
 ·have:=h.2 L[i] (List.getElem_mem hi)
  simpa[List.getD,hi]using this
 ·simp[List.getD,List.getElem?_eq_none (Nat.le_of_not_lt hi)]
theorem Mem.set{w:World}{m a:Nat}{L:List Int}(h:Mem w m a L)(i:Nat)(hi:i<L.length)(v:Int)(h0:0≤v)(h1:v<4294967296):
 Mem (w.setCell ⟨a,i,none⟩ (.int .u32 v)) m a (L.set i v):=by
 obtain⟨p,cap,hb,hc,hm,hp⟩:=h.head
 obtain⟨rest,hr⟩:=h.body (by omega)
 exact⟨h.ne,h.words.set i v h0 h1,⟨p,cap,by simpa using hb.X1f h.ne _,by simpa using hc,hm,by simpa using hp⟩,fun _=>⟨rest,(hr.set i _).eq (X3l hi rest v)⟩⟩
theorem Mem.touch{w w':World}{m a:Nat}{L:List Int}{S:List Nat}(h:Mem w m a L)(t:Touch S w w')(hm:m∉S)(ha:a∉S):Mem w' m a L:=by
 obtain⟨p,cap,hb,r⟩:=h.head
 refine⟨h.ne,h.words,⟨p,cap,t.blk hb hm,r⟩,fun h0=> ?_⟩
 obtain⟨rest,hr⟩:=h.body h0
 exact⟨rest,t.blk hr ha⟩
theorem Mem.lt{w:World}{m a:Nat}{L:List Int}(h:Mem w m a L):m<w.heap.size∧(0<L.length→a<w.heap.size):=by
 obtain⟨p,cap,hb,_⟩:=h.head
 exact⟨hb.lt,fun h0=>by obtain⟨rest,hr⟩:=h.body h0;exact hr.lt⟩
theorem X8F(w:World)(m:Nat)(p:Option Addr)(n c:Nat)(hm:w.cell? ⟨m,0,none⟩=some (.slice p n c)):
 Calls Tryz.prog 183 #[.pointer (some ⟨m,0,none⟩)] w fun e w'=>e= .returned (.int .i64 n)∧w=w':=by
 go_enter Tryz.func183,Tryz.ntmps183
 go_wp2
 go_ret
 exact⟨rfl,rfl⟩
theorem X8G{w:World}{m a:Nat}{L:List Int}(h:Mem w m a L):
 Calls Tryz.prog 183 #[.pointer (some ⟨m,0,none⟩)] w fun e w'=>e= .returned (.int .i64 L.length)∧w=w':=by
 obtain⟨p,cap,hb,_⟩:=h.head
 exact X8F w m p L.length cap (hb.cell 0)
theorem Y1H{w:World}{m a:Nat}{L:List Int}(h:Mem w m a L)(c:Int)(hc: ¬(0≤c∧c<L.length)):
 Calls Tryz.prog 165 #[.pointer (some ⟨m,0,none⟩), .int .i64 c] w fun e w'=>e= .returned (.pointer none)∧w=w':=by
 by_cases h0:c<0
 ·clear hc
  go_enter Tryz.func165,Tryz.ntmps165
  go_wp2
  go_ret
  exact⟨rfl,rfl⟩
 ·have h2:(L.length:Int)≤c:=by omega
  clear hc
  go_enter Tryz.func165,Tryz.ntmps165
  go_wp2_with (go_at_call 183;refine(X8G h).mono ?_;rintro e w' ⟨rfl,rfl⟩)
  go_ret
  exact⟨rfl,rfl⟩
theorem Q6A{w:World}{m a:Nat}{L:List Int}(h:Mem w m a L)(c:Int)(h0:0≤c)(h1:c<L.length):
 Calls Tryz.prog 165 #[.pointer (some ⟨m,0,none⟩), .int .i64 c] w fun e w'=>e= .returned (.pointer (some ⟨a,c.toNat,none⟩))∧w=w':=by
 obtain⟨p,cap,hb,hcap,hmx,hp⟩:=h.head
 obtain rfl:=hp (by omega)
 have hm:=hb.cell 0
 clear hp hb
 have hh: ¬(c<0):=by omega
 have h2: ¬((L.length:Int)≤c):=by omega
 go_enter Tryz.func165,Tryz.ntmps165
 go_wp2_with (go_at_call 183;refine(X8G h).mono ?_;rintro e w' ⟨rfl,rfl⟩)
 go_ret
 exact⟨by simp,rfl⟩
theorem Q8E{w:World}{m a:Nat}{L:List Int}(h:Mem w m a L)(c v:Int)(h0:0≤c)(h1:c<L.length)(hv:L.getD c.toNat 0=v):
 w.cell? ⟨a,c.toNat,none⟩=some (.int .u32 v)∧w.frozen? ⟨a,c.toNat,none⟩=false∧a<w.heap.size∧a≠w.heap.size∧a≠w.heap.size+1:=by
 obtain⟨rest,hr⟩:=h.body (by omega)
 have ha:=hr.lt
 exact⟨by rw[hr.cell,X3n (by omega),hv],hr.free _,ha,by omega,by omega⟩
theorem Mem.Y2A{w:World}{m a:Nat}{L:List Int}(h:Mem w m a L)(o o':Obj):Mem ((w.alloc o).alloc o') m a L:=
 h.touch (((Touch.refl [] _).alloc _).alloc _) (by simp) (by simp)
theorem X2R{w:World}{m a:Nat}{L:List Int}(h:Mem w m a L)(c x y o v:Int)(h0:0≤c)(h1:c<L.length)(hv:L.getD c.toNat 0=v):
 Calls Tryz.prog 127 #[.pointer (some ⟨m,0,none⟩), .agg #[.int .i64 1, .int .i64 c, .int .u32 x, .int .u32 y, .int .u32 o]] w
  fun e w'=>e= .returned (.tuple #[.agg #[.int .i64 1, .int .i64 c, .int .u32 x, .int .u32 y, .int .u32 v], .bool true])∧Touch [] w w':=by
 obtain⟨hc1,hc2,ha,ha2,ha3⟩:=Q8E h c v h0 h1 hv
 clear hv
 go_enter Tryz.func127,Tryz.ntmps127
 go_wp2_with (go_at_call 165;refine(Q6A (h.Y2A _ _) c h0 h1).mono ?_;rintro e w' ⟨rfl,rfl⟩)
 all_goals
  refine bodyPost_ret (v:= .tuple #[.agg #[.int .i64 1, .int .i64 c, .int .u32 x, .int .u32 y, .int .u32 v], .bool true]) (by simp[results,Tryz.results127,go_sem]) rfl ?_
  refine⟨rfl,?_⟩
  repeat(first|exact Touch.refl _ _|apply Touch.drew|apply Touch.alloc)
theorem Y1F{w:World}{m a:Nat}{L:List Int}(h:Mem w m a L)(c x y o v:Int)(hx:0≤x∧x<4294967296)(h0:0≤c)(h1:c<L.length)(hv:L.getD c.toNat 0=v):
 Calls Tryz.prog 127 #[.pointer (some ⟨m,0,none⟩), .agg #[.int .i64 2, .int .i64 c, .int .u32 x, .int .u32 y, .int .u32 o]] w
  fun e w'=>e= .returned (.tuple #[.agg #[.int .i64 2, .int .i64 c, .int .u32 x, .int .u32 y, .int .u32 v], .bool true])∧Mem w' m a (L.set c.toNat x)∧Touch [a] w w':=by
 obtain⟨hc1,hc2,ha,ha2,ha3⟩:=Q8E h c v h0 h1 hv
 clear hv
 go_enter Tryz.func127,Tryz.ntmps127
 go_wp2_with (go_at_call 165;refine(Q6A (h.Y2A _ _) c h0 h1).mono ?_;rintro e w' ⟨rfl,rfl⟩)
 all_goals
  refine bodyPost_ret (v:= .tuple #[.agg #[.int .i64 2, .int .i64 c, .int .u32 x, .int .u32 y, .int .u32 v], .bool true]) (by simp[results,Tryz.results127,go_sem]) rfl ?_
  refine⟨rfl,(h.set c.toNat (by omega) _ hx.1 hx.2).touch (S:=[]) ?_ (by simp) (by simp),?_⟩
  ·repeat(first|exact Touch.refl _ _|apply Touch.drew|apply Touch.alloc)
  ·repeat(first|exact Touch.refl _ _|apply Touch.drew|apply Touch.alloc|refine Touch.set ?_ (by simp) _)
theorem Y4q{w:World}{m a:Nat}{L:List Int}(h:Mem w m a L)(c x y o v:Int)(hx:0≤x∧x<4294967296)(h0:0≤c)(h1:c<L.length)(hv:L.getD c.toNat 0=v):
 Calls Tryz.prog 127 #[.pointer (some ⟨m,0,none⟩), .agg #[.int .i64 4, .int .i64 c, .int .u32 x, .int .u32 y, .int .u32 o]] w
  fun e w'=>e= .returned (.tuple #[.agg #[.int .i64 4, .int .i64 c, .int .u32 x, .int .u32 y, .int .u32 v], .bool true])∧Mem w' m a (L.set c.toNat x)∧Touch [a] w w':=by
 obtain⟨hc1,hc2,ha,ha2,ha3⟩:=Q8E h c v h0 h1 hv
 clear hv
 go_enter Tryz.func127,Tryz.ntmps127
 go_wp2_with (go_at_call 165;refine(Q6A (h.Y2A _ _) c h0 h1).mono ?_;rintro e w' ⟨rfl,rfl⟩)
 all_goals
  refine bodyPost_ret (v:= .tuple #[.agg #[.int .i64 4, .int .i64 c, .int .u32 x, .int .u32 y, .int .u32 v], .bool true]) (by simp[results,Tryz.results127,go_sem]) rfl ?_
  refine⟨rfl,(h.set c.toNat (by omega) _ hx.1 hx.2).touch (S:=[]) ?_ (by simp) (by simp),?_⟩
  ·repeat(first|exact Touch.refl _ _|apply Touch.drew|apply Touch.alloc)
  ·repeat(first|exact Touch.refl _ _|apply Touch.drew|apply Touch.alloc|refine Touch.set ?_ (by simp) _)
theorem Y7q{w:World}{m a:Nat}{L:List Int}(h:Mem w m a L)(c x y o v:Int)(h0:0≤c)(h1:c<L.length)(hv:L.getD c.toNat 0=v):
 Calls Tryz.prog 127 #[.pointer (some ⟨m,0,none⟩), .agg #[.int .i64 3, .int .i64 c, .int .u32 x, .int .u32 y, .int .u32 o]] w
  fun e w'=>e= .returned (.tuple #[.agg #[.int .i64 3, .int .i64 c, .int .u32 x, .int .u32 y, .int .u32 v], .bool true])∧Mem w' m a (L.set c.toNat ((v+x)%4294967296))∧Touch [a] w w':=by
 obtain⟨hc1,hc2,ha,ha2,ha3⟩:=Q8E h c v h0 h1 hv
 clear hv
 go_enter Tryz.func127,Tryz.ntmps127
 go_wp2_with (go_at_call 165;refine(Q6A (h.Y2A _ _) c h0 h1).mono ?_;rintro e w' ⟨rfl,rfl⟩)
 go_region
 all_goals go_wp2
 all_goals
  refine bodyPost_ret (v:= .tuple #[.agg #[.int .i64 3, .int .i64 c, .int .u32 x, .int .u32 y, .int .u32 v], .bool true]) (by simp[results,Tryz.results127,go_sem]) rfl ?_
  refine⟨rfl,(h.set c.toNat (by omega) _ (by omega) (by omega)).touch (S:=[]) ?_ (by simp) (by simp),?_⟩
  ·repeat(first|exact Touch.refl _ _|apply Touch.drew|apply Touch.alloc)
  ·repeat(first|exact Touch.refl _ _|apply Touch.drew|apply Touch.alloc|refine Touch.set ?_ (by simp) _)
theorem Y7p{w:World}{m a:Nat}{L:List Int}(h:Mem w m a L)(c x y o v:Int)(hy:0≤y∧y<4294967296)(he:v=x)(h0:0≤c)(h1:c<L.length)(hv:L.getD c.toNat 0=v):
 Calls Tryz.prog 127 #[.pointer (some ⟨m,0,none⟩), .agg #[.int .i64 5, .int .i64 c, .int .u32 x, .int .u32 y, .int .u32 o]] w
  fun e w'=>e= .returned (.tuple #[.agg #[.int .i64 5, .int .i64 c, .int .u32 x, .int .u32 y, .int .u32 v], .bool true])∧Mem w' m a (L.set c.toNat y)∧Touch [a] w w':=by
 obtain⟨hc1,hc2,ha,ha2,ha3⟩:=Q8E h c v h0 h1 hv
 clear hv
 have he2:(v==x)=true:=by simp[he]
 clear he
 go_enter Tryz.func127,Tryz.ntmps127
 go_wp2_with (go_at_call 165;refine(Q6A (h.Y2A _ _) c h0 h1).mono ?_;rintro e w' ⟨rfl,rfl⟩)
 all_goals
  refine bodyPost_ret (v:= .tuple #[.agg #[.int .i64 5, .int .i64 c, .int .u32 x, .int .u32 y, .int .u32 v], .bool true]) (by simp[results,Tryz.results127,go_sem]) rfl ?_
  refine⟨rfl,(h.set c.toNat (by omega) _ hy.1 hy.2).touch (S:=[]) ?_ (by simp) (by simp),?_⟩
  ·repeat(first|exact Touch.refl _ _|apply Touch.drew|apply Touch.alloc)
  ·repeat(first|exact Touch.refl _ _|apply Touch.drew|apply Touch.alloc|refine Touch.set ?_ (by simp) _)
theorem X9t{w:World}{m a:Nat}{L:List Int}(h:Mem w m a L)(c x y o v:Int)(he:v≠x)(h0:0≤c)(h1:c<L.length)(hv:L.getD c.toNat 0=v):
 Calls Tryz.prog 127 #[.pointer (some ⟨m,0,none⟩), .agg #[.int .i64 5, .int .i64 c, .int .u32 x, .int .u32 y, .int .u32 o]] w
  fun e w'=>e= .returned (.tuple #[.agg #[.int .i64 5, .int .i64 c, .int .u32 x, .int .u32 y, .int .u32 v], .bool true])∧Touch [] w w':=by
 obtain⟨hc1,hc2,ha,ha2,ha3⟩:=Q8E h c v h0 h1 hv
 clear hv
 have he2:(v==x)=false:=by simpa using he
 clear he
 go_enter Tryz.func127,Tryz.ntmps127
 go_wp2_with (go_at_call 165;refine(Q6A (h.Y2A _ _) c h0 h1).mono ?_;rintro e w' ⟨rfl,rfl⟩)
 all_goals
  refine bodyPost_ret (v:= .tuple #[.agg #[.int .i64 5, .int .i64 c, .int .u32 x, .int .u32 y, .int .u32 v], .bool true]) (by simp[results,Tryz.results127,go_sem]) rfl ?_
  refine⟨rfl,?_⟩
  repeat(first|exact Touch.refl _ _|apply Touch.drew|apply Touch.alloc)
theorem Y1G{w:World}{m a:Nat}{L:List Int}(h:Mem w m a L)(k c x y o v:Int)(k1:k≠1)(k2:k≠2)(k3:k≠3)(k4:k≠4)(k5:k≠5)(h0:0≤c)(h1:c<L.length)(hv:L.getD c.toNat 0=v):
 Calls Tryz.prog 127 #[.pointer (some ⟨m,0,none⟩), .agg #[.int .i64 k, .int .i64 c, .int .u32 x, .int .u32 y, .int .u32 o]] w
  fun e w'=>e= .returned (.tuple #[Value.agg Acc.zero.cells, .bool false])∧Touch [] w w':=by
 obtain⟨hc1,hc2,ha,ha2,ha3⟩:=Q8E h c v h0 h1 hv
 clear hv
 have e1:(k==1)=false:=by simpa using k1
 have e2:(k==2)=false:=by simpa using k2
 have e3:(k==3)=false:=by simpa using k3
 have e4:(k==4)=false:=by simpa using k4
 have e5:(k==5)=false:=by simpa using k5
 clear k1 k2 k3 k4 k5
 go_enter Tryz.func127,Tryz.ntmps127
 go_wp2_with (go_at_call 165;refine(Q6A (h.Y2A _ _) c h0 h1).mono ?_;rintro e w' ⟨rfl,rfl⟩)
 refine bodyPost_ret (v:= .tuple #[Value.agg Acc.zero.cells, .bool false]) (by simp[results,Tryz.results127,go_sem,Acc.zero,Acc.cells]) rfl ⟨rfl,?_⟩
 repeat(first|exact Touch.refl _ _|apply Touch.drew|apply Touch.alloc)
theorem X9s{w:World}{m a:Nat}{L:List Int}(h:Mem w m a L)(k c x y o:Int)(hc: ¬(0≤c∧c<L.length)):
 Calls Tryz.prog 127 #[.pointer (some ⟨m,0,none⟩), .agg #[.int .i64 k, .int .i64 c, .int .u32 x, .int .u32 y, .int .u32 o]] w
  fun e w'=>e= .returned (.tuple #[Value.agg Acc.zero.cells, .bool false])∧Touch [] w w':=by
 have H:=Lib.hid hc
 clear hc
 go_enter Tryz.func127,Tryz.ntmps127
 go_wp2_with (go_at_call 165;refine(Y1H (h.Y2A _ _) c H.out).mono ?_;rintro e w' ⟨rfl,rfl⟩)
 refine bodyPost_ret (v:= .tuple #[Value.agg Acc.zero.cells, .bool false]) (by simp[results,Tryz.results127,go_sem,Acc.zero,Acc.cells]) rfl ⟨rfl,?_⟩
 repeat(first|exact Touch.refl _ _|apply Touch.drew|apply Touch.alloc)
theorem X1U{w:World}{m a:Nat}{L:List Int}(h:Mem w m a L)(b:Acc)(hx:0≤b.x∧b.x<4294967296)(hy:0≤b.y∧b.y<4294967296):
 Calls Tryz.prog 127 #[.pointer (some ⟨m,0,none⟩), .agg b.cells] w
  fun e w'=>e= .returned (.tuple #[.agg (doA L b).1.cells, .bool (doA L b).2.1])∧Mem w' m a (doA L b).2.2∧Touch (lv a L) w w':=by
 obtain⟨k,c,x,y,o⟩:=b
 have none: ∀(e:Ending) (w':World),(e= .returned (.tuple #[Value.agg Acc.zero.cells, .bool false])∧Touch [] w w')→e= .returned (.tuple #[.agg Acc.zero.cells, .bool false])∧Mem w' m a L∧Touch (lv a L) w w':=
  fun e w' ⟨he,ht⟩=>⟨he,h.touch ht (by simp) (by simp),ht.mono (by simp)⟩
 by_cases hc:0≤c∧c<L.length
 ·have hd: ∀k,doA L ⟨k,c,x,y,o⟩=(let old:=L.getD c.toNat 0
   if k=1 then((⟨k,c,x,y,old⟩:Acc),true,L)
   else if k=3 then(⟨k,c,x,y,old⟩,true,L.set c.toNat ((old+x)%4294967296))
   else if k=5 then(⟨k,c,x,y,old⟩,true,if old=x then L.set c.toNat y else L)
   else if k=2∨k=4 then(⟨k,c,x,y,old⟩,true,L.set c.toNat x)
   else(Acc.zero,false,L)):=fun k=>if_pos hc
  rw[hd k,show lv a L=[a]from if_pos (by omega)]
  clear hd
  by_cases k1:k=1
  ·subst k1
   exact(X2R h c x y o _ hc.1 hc.2 rfl).mono fun e w' ⟨he,ht⟩=>⟨he,h.touch ht (by simp) (by simp),ht.mono (by simp)⟩
  by_cases k3:k=3
  ·subst k3
   exact Y7q h c x y o _ hc.1 hc.2 rfl
  by_cases k5:k=5
  ·subst k5
   by_cases he:L.getD c.toNat 0=x
   ·simp only[he,if_true]
    exact Y7p h c x y o x hy rfl hc.1 hc.2 he
   ·simp only[he,if_false]
    exact(X9t h c x y o _ he hc.1 hc.2 rfl).mono fun e w' ⟨he,ht⟩=>⟨he,h.touch ht (by simp) (by simp),ht.mono (by simp)⟩
  by_cases k2:k=2
  ·subst k2
   exact Y1F h c x y o _ hx hc.1 hc.2 rfl
  by_cases k4:k=4
  ·subst k4
   exact Y4q h c x y o _ hx hc.1 hc.2 rfl
  simp only[k1,k2,k3,k4,k5,if_false,or_self]
  exact(Y1G h k c x y o _ k1 k2 k3 k4 k5 hc.1 hc.2 rfl).mono fun e w' ⟨he,ht⟩=>⟨he,h.touch ht (by simp) (by simp),ht.mono (by simp)⟩
 ·rw[show doA L ⟨k,c,x,y,o⟩=(Acc.zero,false,L)from if_neg hc]
  exact(X9s h k c x y o hc).mono none
theorem Q6e(a:Addr)(n:Nat):(a.add n).block=a.block:=by unfold Addr.add;split<;>rfl
def Rd(w:World)(size:Nat)(A:Option Addr)(n:Nat)(xs:List Value):Prop:=
 xs.length=n*size∧(0<n→ ∃ad,A=some ad∧ad.block<w.heap.size∧ ∀j u,xs[j]? =some u→w.cell? (ad.add j)=some u)
theorem Rd.nil(w:World)(size:Nat)(A:Option Addr):Rd w size A 0 []:=⟨by simp,fun h=>absurd h (by omega)⟩
theorem Rd.touch{w w':World}{size n:Nat}{A:Option Addr}{xs:List Value}{S:List Nat}(h:Rd w size A n xs)(t:Touch S w w')(hs: ∀ad,A=some ad→ad.block∉S):Rd w' size A n xs:=
 ⟨h.1,fun hn=>by
  obtain⟨ad,e,hb,hc⟩:=h.2 hn
  exact⟨ad,e,Nat.lt_of_lt_of_le hb t.size,fun j u hu=>(t.cell (by rw[Q6e];exact hb) (by rw[Q6e];exact hs ad e)).trans (hc j u hu)⟩⟩
theorem Rd.below{w w':World}{size n:Nat}{A:Option Addr}{xs:List Value}(h:Rd w size A n xs)(t:Below w.heap.size w w'):Rd w' size A n xs:=
 ⟨h.1,fun hn=>by
  obtain⟨ad,e,hb,hc⟩:=h.2 hn
  exact⟨ad,e,Nat.lt_of_lt_of_le hb t.size,fun j u hu=>(t.cell (p:=ad.add j) (by rw[Q6e];exact hb)).trans (hc j u hu)⟩⟩
theorem Rd.at_{w:World}{n i:Nat}{A:Option Addr}{xs:List Value}(h:Rd w 1 A n xs)(hi:i<n): ∃ad u,A=some ad∧xs[i]? =some u∧ad.block<w.heap.size∧w.cell? (ad.add i)=some u:=by
 obtain⟨ad,e,hb,hc⟩:=h.2 (by omega)
 have hl:i<xs.length:=by have:=h.1;omega
 exact⟨ad,xs[i],e,List.getElem?_eq_getElem hl,hb,hc i _ (List.getElem?_eq_getElem hl)⟩
theorem Rd.lit{w:World}{size n:Nat}{A:Option Addr}{xs:List Value}(h:Rd w size A n xs)(h0:0<n)(hz:0<size):
 ∃b off,A=some ⟨b,off,none⟩∧b<w.heap.size∧ ∀j u,xs[j]? =some u→w.cell? ⟨b,off+j,none⟩=some u:=by
 obtain⟨⟨b,off,sp⟩,hA,hb,hc⟩:=h.2 h0
 have hl:0<xs.length:=by rw[h.1];exact Nat.mul_pos h0 hz
 have h1:=hc 0 _ (List.getElem?_eq_getElem hl)
 have hs:sp=none:=by
  cases sp with
  |none=>rfl
  |some s=>
   simp only[Addr.add,if_true]at h1
   unfold World.cell? at h1
   split at h1<;>simp at h1
 subst hs
 exact⟨b,off,hA,hb,fun j u hu=>by rw[←Addr.add_lit];exact hc j u hu⟩
theorem Rd.own{w:World}{base:Nat}{e:TypeId}{size n:Nat}{A:Option Addr}{c:Nat}{xs:List Value}(h:w.ownsRow base e size (.slice A n c) n xs):Rd w size A n xs:=by
 refine⟨h.1,fun hn=> ?_⟩
 rcases h.2 with⟨_,hz⟩|⟨g,cap,cur,hv,hb,hg,_⟩
 ·omega
 ·simp only[Value.slice.injEq]at hv
  obtain⟨hA,_,_⟩:=hv
  subst hA
  refine⟨_,rfl,?_,h.cells (g:=g) rfl⟩
  rcases Nat.lt_or_ge g w.heap.size with h'|h'
  ·exact h'
  ·simp[Array.getElem?_eq_none h']at hg
theorem owns_block{w:World}{base:Nat}{e:TypeId}{size n:Nat}{v:Value}{xs:List Value}(h:w.ownsRow base e size v n xs):
 v= .slice none 0 0∨ ∃g cap,v= .slice (some ⟨g,0,none⟩) n cap∧base≤g∧g<w.heap.size∧n≤cap∧cap≤9223372036854775807:=by
 rcases h.2 with⟨hv,_⟩|⟨g,cap,cur,hv,hb,hg,h1,h2,_⟩
 ·exact .inl hv
 ·refine .inr ⟨g,cap,hv,hb,?_,h1,by unfold maxLen at h2;omega⟩
  rcases Nat.lt_or_ge g w.heap.size with h'|h'
  ·exact h'
  ·simp[Array.getElem?_eq_none h']at hg
theorem Q2p{w:World}{base:Nat}{e:TypeId}{size n:Nat}{v:Value}{xs:List Value}(h:w.ownsRow base e size v n xs): ∃p cap,v= .slice p n cap:=by
 rcases h.2 with⟨hv,h0⟩|⟨g,cap,cur,hv,_⟩
 ·exact⟨none,0,by rw[hv,h0]⟩
 ·exact⟨_,cap,hv⟩
theorem X5v{w w':World}{base:Nat}{e:TypeId}{size n:Nat}{v:Value}{xs:List Value}{S:List Nat}(h:w.ownsRow base e size v n xs)(t:Touch S w w')(hs: ∀g,v.ownBlock=some g→g∉S):w'.ownsRow base e size v n xs:=by
 refine⟨h.1,?_⟩
 rcases h.2 with hz|⟨g,cap,cur,hv,hb,hg,r⟩
 ·exact .inl hz
 ·refine .inr ⟨g,cap,cur,hv,hb,?_,r⟩
  have hlt:g<w.heap.size:=by
   rcases Nat.lt_or_ge g w.heap.size with h'|h'
   ·exact h'
   ·simp[Array.getElem?_eq_none h']at hg
  exact(t.block g hlt (hs g (by rw[hv];rfl))).trans hg
theorem X1A(w:World)(e:TypeId)(size:Nat):(w.alloc (.cells #[] e)).ownsRow w.heap.size e size (.slice (some ⟨w.heap.size,0,none⟩) 0 0) 0 []:=by
 refine⟨by simp, .inr ⟨w.heap.size,0, #[],rfl,Nat.le_refl _,?_,Nat.le_refl _,Nat.zero_le _,by simp,by simp⟩⟩
 show(w.heap.push _)[w.heap.size]? =_
 simp
theorem Touch.grown{S:List Nat}{a w w':World}{row:Option Nat}(h:Touch S a w)(hg:w.grownBy w' row)(hr: ∀k,row=some k→k∈S):Touch S a w':=
 h.trans ⟨hg.os,hg.tape,hg.output,hg.size,fun k hk hs=>hg.block k hk (fun e=>hs (hr k e.symm))⟩
section
variable {P:Program}(w:World)
theorem Q6J(base:Nat)(t ty e:TypeId)(i:TypeInfo)(z:Value)(size bytes:Nat)(ht:P.underlying t=some (.slice e))(hi:P.info? e=some i)(hz:i.zero=some z)
 (hsize:i.size=size) (hby:i.bytes=bytes) (hzs:z.cells.size=size) (hsz:0<size)
 (v:Value) (n:Nat) (xs:List Value) (hown:w.ownsRow base e size v n xs)
 (A:Option Addr) (m c:Nat) (news:List Value) (hr:Rd w size A m news) (h1: ∀u∈news,u.oneCell'=true)
 (h63:n+m≤maxLen) (hbytes:(n+m)*bytes≤140737488355328) (hbase:base≤w.heap.size):
 ∃v' w',(Builtin.append_ #[t,t] ty #[v, .slice A m c]).run P w= .ok v' w'∧w'.ownsRow base e size v' (n+m) (xs++news)∧w.grownBy w' v.ownBlock∧
  (v'.ownBlock=v.ownBlock∨v'.ownBlock=some w.heap.size):=by
 rcases Nat.eq_zero_or_pos m with h0|h0
 ·subst h0
  obtain rfl:news=[]:=List.eq_nil_of_length_eq_zero (by simpa using hr.1)
  rcases A with _|ad
  ·refine⟨v,w,?_,by simpa using hown,World.grownBy.refl w _, .inl rfl⟩
   rcases hown.2 with⟨rfl,rfl⟩|⟨g,cap,cur,rfl,_,_,hnc,_⟩
   ·simp[Builtin.append_,run_underlying ht,sizeOf,typeInfo,hi,Builtin.lenOf,Builtin.firstCells]
   ·simp[Builtin.append_,run_underlying ht,sizeOf,typeInfo,hi,Builtin.lenOf,Builtin.firstCells,hnc,storeCells]
  ·obtain⟨v',w',hrun,h2,h3,_,h5⟩:=run_append_own_at (P:=P) w base t ty e i z size bytes ht hi hz hsize hby hzs hsz v n xs hown ad 0 c [] (by simp) (by simp) h1 h63 hbytes hbase
   exact⟨v',w',hrun,h2,h3,h5⟩
 ·obtain⟨ad,rfl,_,hcells⟩:=hr.2 h0
  obtain⟨v',w',hrun,h2,h3,_,h5⟩:=run_append_own_at (P:=P) w base t ty e i z size bytes ht hi hz hsize hby hzs hsz v n xs hown ad m c news hr.1 hcells h1 h63 hbytes hbase
  exact⟨v',w',hrun,h2,h3,h5⟩
theorem Q2q{ops:Array Oper}{rest:List Oper}{o:Oper}{a:Act}{Q:Exit→Act→World→Prop}(hgd:o.guard=none)(s x:Operand)(t:TypeId)
 (ho:o.op= .call {callee:= .builtin .append,args:= #[s,x],argTypes:= #[t,t]})
 (base:Nat) (e:TypeId) (i:TypeInfo) (z:Value) (size bytes:Nat) (ht:P.underlying t=some (.slice e)) (hi:P.info? e=some i) (hz:i.zero=some z)
 (hsize:i.size=size) (hby:i.bytes=bytes) (hzs:z.cells.size=size) (hsz:0<size)
 (v:Value) (n:Nat) (xs:List Value) (hs:a.eval s=v) (hown:w.ownsRow base e size v n xs)
 (A:Option Addr) (m c:Nat) (news:List Value) (hx:a.eval x= .slice A m c) (hr:Rd w size A m news) (h1: ∀u∈news,u.oneCell'=true)
 (h63:n+m≤maxLen) (hbytes:(n+m)*bytes≤140737488355328) (hbase:base≤w.heap.size)
 (h: ∀v' w',w'.ownsRow base e size v' (n+m) (xs++news)→w.grownBy w' v.ownBlock→(v'.ownBlock=v.ownBlock∨v'.ownBlock=some w.heap.size)→wpList P ops Q rest (a.put o.dst v') w'):wpList P ops Q (o::rest) a w:=by
 refine wpList_plain hgd fun K hK=> ?_
 obtain⟨v',w',hrun,h2,h3,h4⟩:=Q6J (P:=P) w base t o.type e i z size bytes ht hi hz hsize hby hzs hsz v n xs hown A m c news hr h1 h63 hbytes hbase
 unfold Oper.wp execOp
 simp only[ho,resolve,invoke,builtin,Sem.run_bind,Sem.run_pure,Result.andThen_ok,List.map_toArray,List.map_cons,List.map_nil,hs,hx,hrun]
 exact hK _ _ (h v' w' h2 h3 h4)
end
theorem X1D{k:IntKind}{L:List Int}: ∀u∈L.map (Value.int k),u.oneCell'=true:=by
 intro u hu
 obtain⟨x,_,rfl⟩:=List.mem_map.1 hu
 rfl
theorem Q5o:(Tryz.prog.info? 22).map (fun i=>(i.zero,i.size,i.bytes))=some (some (.int .u32 0),1,4):=by kernel_rfl
theorem clone_any{A:Option Addr}{n c:Nat}{xs:List Value}(w:World)(hr:Rd w 1 A n xs)(h1: ∀u∈xs,u.oneCell'=true)(hn:n≤1048576):
 Calls Tryz.prog 66 #[.slice A n c] w fun e w'=> ∃v,e= .returned v∧w'.ownsRow w.heap.size 22 1 v n xs∧Below w.heap.size w w':=by
 obtain⟨i0,hi0,hz0,hz1,hz2⟩:=info_parts Q5o
 rcases A with _|ad
 ·have hnil:=fun(w:World)=>Lib.run_eql_slice_nil (P:=Tryz.prog) w 65 22 none n c 0 0 Tryz.underlying65
  have hn0:n=0:=by
   rcases Nat.eq_zero_or_pos n with h0|h0
   ·exact h0
   ·obtain⟨ad,h,_⟩:=hr.2 h0
    cases h
  subst hn0
  obtain rfl:xs=[]:=List.eq_nil_of_length_eq_zero (by simpa using hr.1)
  go_enter Tryz.func66,Tryz.ntmps66
  go_wp2_with fail
  go_ret
  exact⟨_,rfl,World.ownsRow_nil _ _ _ _,Below.refl _ _⟩
 ·have hnil:=fun(w:World)=>Lib.run_eql_slice_nil (P:=Tryz.prog) w 65 22 (some ad) n c 0 0 Tryz.underlying65
  go_enter Tryz.func66,Tryz.ntmps66
  have hrd:=hr.touch (((Touch.refl [] w).alloc (.cells #[] 22))) (by simp)
  go_wp2_with (at_builtin;refine Q2q _ rfl (.tmp 5) (.tmp 6) _ rfl w.heap.size 22 i0 _ 1 4 Tryz.underlying65 hi0 hz0 hz1 hz2 rfl (by omega) (.slice (some ⟨w.heap.size,0,none⟩) 0 0) 0 [] rfl (X1A w _ _) (some ad) n c xs rfl hrd h1 (by simp only[maxLen];omega) (by omega) (by simp) ?_;intro v' w' hown hg hat)
  go_ret
  refine⟨v',rfl,by simpa using hown,?_⟩
  exact((Below.refl _ _).alloc (Nat.le_refl _) _).grown hg (by simp) (by intro k hk;simp[Value.ownBlock]at hk;omega)
def ldA(L:List Int)(c:Int):Int:=if 0≤c∧c<L.length then L.getD c.toNat 0 else 0
theorem z32:(0:Int)≤0∧(0:Int)<4294967296:=by decide
theorem do_ld{w:World}{m a:Nat}{L:List Int}(h:Mem w m a L)(c:Int):
 Calls Tryz.prog 127 #[.pointer (some ⟨m,0,none⟩), .agg #[.int .i64 1, .int .i64 c, .int .u32 0, .int .u32 0, .int .u32 0]] w
  fun e w'=> ∃(k c' x y:Int) (b:Bool),e= .returned (.tuple #[.agg #[.int .i64 k, .int .i64 c', .int .u32 x, .int .u32 y, .int .u32 (ldA L c)], .bool b])∧Touch [] w w':=by
 by_cases hc:0≤c∧c<L.length
 ·refine(X2R h c 0 0 0 _ hc.1 hc.2 rfl).mono ?_
  rintro e w' ⟨rfl,ht⟩
  refine⟨1,c,0,0,true,by rw[show ldA L c=_ from if_pos hc],?_⟩
  exact ht
 ·refine(X9s h 1 c 0 0 0 hc).mono ?_
  rintro e w' ⟨rfl,ht⟩
  exact⟨0,0,0,0,false,by rw[show ldA L c=0 from if_neg hc];rfl,ht⟩
theorem X3Z{w:World}{m a:Nat}{L:List Int}(h:Mem w m a L)(c:Int):
 Calls Tryz.prog 129 #[.pointer (some ⟨m,0,none⟩), .int .i64 c] w fun e w'=>e= .returned (.int .u32 (ldA L c))∧Touch [] w w':=by
 go_enter Tryz.func129,Tryz.ntmps129
 go_wp2_with (go_at_call 127;refine(do_ld h c).mono ?_;rintro e w' ⟨k,c',x,y,b,rfl,ht⟩)
 go_ret
 exact⟨rfl,ht.alloc _⟩
end Go.Proofs.YthnimpkoidablaaGreat.Z
