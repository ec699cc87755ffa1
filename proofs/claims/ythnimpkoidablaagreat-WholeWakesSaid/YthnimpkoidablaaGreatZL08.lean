import Derived.Test.YthnimpkoidablaaGreatZL02
import Derived.Test.YthnimpkoidablaaGreatZL03
import Derived.Test.YthnimpkoidablaaGreatZL04
import Derived.Test.YthnimpkoidablaaGreatZL05
import Derived.Test.YthnimpkoidablaaGreatZL06
import Derived.Test.YthnimpkoidablaaGreatZL07
import Derived.Test.YthnimpkoidablaaGreatZB09
set_option linter.unusedVariables false
set_option linter.unusedSimpArgs false
namespace Go.Proofs.YthnimpkoidablaaGreat.Z
open Go.RowKit
theorem X9Z(k:Nat)(d base:Int)(h1:1≤k)(h2:k≤64)(hd:d=1∨d=2)(hb:0≤base∧base<4294967296)(B:Nat)(hB:B≤100000): ∃ps,MI tfK (tfI base k) k B (Mt.start k d (Q5P base++List.replicate ((8+4*(k:Int)).toNat-3) 0)) ps:=
 ⟨_,Q3x (X3q base k d) _ (by simp[Q5P];omega) (Y3b k base h1 h2 hb B hB)⟩
theorem X6B(k:Nat)(d base:Int)(h1:1≤k)(h2:k≤64)(hd:d=1∨d=2)(hb:0≤base∧base<4294967296):Q7e tfA (X0N Q5P 3 k base) k d:=
 ⟨_,tfK,(tfI base k),_,_,_,_,_,_,rfl,X3q base k d,fun h8=>by
  rcases(show k=1∨k=2∨k=3∨k=4∨k=5∨k=6∨k=7∨k=8 by omega)with rfl|rfl|rfl|rfl|rfl|rfl|rfl|rfl<;>decide,fun B hB=>X9Z k d base h1 h2 hd hb B hB⟩
theorem Y0U(k:Nat)(d base:Int)(h1:1≤k)(h2:k≤64)(hd:d=1∨d=2)(hb:0≤base∧base<4294967296)(B:Nat)(hB:B≤100000): ∃ps,MI pfK (pfI base k) k B (Mt.start k d (Q3U base++List.replicate ((8+4*(k:Int)).toNat-5) 0)) ps:=
 ⟨_,Q3x (X3M base k d) _ (by simp[Q3U];omega) (Y3S k base h1 h2 hb B hB)⟩
theorem X8h(k:Nat)(d base:Int)(h1:1≤k)(h2:k≤64)(hd:d=1∨d=2)(hb:0≤base∧base<4294967296):Q7e pfA (X0N Q3U 5 k base) k d:=
 ⟨_,pfK,(pfI base k),_,_,_,_,_,_,rfl,X3M base k d,fun h8=>by
  rcases(show k=1∨k=2∨k=3∨k=4∨k=5∨k=6∨k=7∨k=8 by omega)with rfl|rfl|rfl|rfl|rfl|rfl|rfl|rfl<;>decide,fun B hB=>Y0U k d base h1 h2 hd hb B hB⟩
theorem Y0E(k:Nat)(d base:Int)(h1:1≤k)(h2:k≤64)(hd:d=1∨d=2)(hb:0≤base∧base<4294967296)(B:Nat)(hB:B≤100000): ∃ps,MI (pqK k) (pqI k) k B (Mt.start k d (Q4F base++List.replicate ((8+4*(k:Int)).toNat-4) 0)) ps:=
 ⟨_,Q3x (X3I k d h1 h2) _ (by simp[Q4F];omega) (Y3N k base h1 h2 hb B hB)⟩
theorem X7N(k:Nat)(d base:Int)(h1:1≤k)(h2:k≤64)(hd:d=1∨d=2)(hb:0≤base∧base<4294967296):Q7e pqA (X0N Q4F 4 k base) k d:=
 ⟨_,(pqK k),(pqI k),_,_,_,_,_,_,rfl,X3I k d h1 h2,fun h8=>by
  rcases(show k=1∨k=2∨k=3∨k=4∨k=5∨k=6∨k=7∨k=8 by omega)with rfl|rfl|rfl|rfl|rfl|rfl|rfl|rfl<;>decide,fun B hB=>Y0E k d base h1 h2 hd hb B hB⟩
theorem Y1A(k:Nat)(d base:Int)(h1:1≤k)(h2:k≤64)(hd:d=1∨d=2)(hb:0≤base∧base<4294967296)(B:Nat)(hB:B≤100000): ∃ps,MI (fqK k) (fqI k) k B (Mt.start k d (own4 base++List.replicate ((8+4*(k:Int)).toNat-2) 0)) ps:=
 ⟨_,Q3x (X4e k d h1 h2) _ (by simp[own4];omega) (Y4f k base h1 h2 hb B hB)⟩
theorem X8Y(k:Nat)(d base:Int)(h1:1≤k)(h2:k≤64)(hd:d=1∨d=2)(hb:0≤base∧base<4294967296):Q7e fqA (X0N own4 2 k base) k d:=
 ⟨_,(fqK k),(fqI k),_,_,_,_,_,_,rfl,X4e k d h1 h2,fun h8=>by
  rcases(show k=1∨k=2∨k=3∨k=4∨k=5∨k=6∨k=7∨k=8 by omega)with rfl|rfl|rfl|rfl|rfl|rfl|rfl|rfl<;>decide,fun B hB=>Y1A k d base h1 h2 hd hb B hB⟩
theorem Y0t(k:Nat)(d base:Int)(h1:1≤k)(h2:k≤64)(hd:d=1∨d=2)(hb:0≤base∧base<4294967296)(B:Nat)(hB:B≤100000): ∃ps,MI rfK (rfI k) k B (Mt.start k d (Q9j base++List.replicate ((8+4*(k:Int)).toNat-1) 0)) ps:=
 ⟨_,Q3x (X3A k d) _ (by simp[Q9j];omega) (Y3x k base h1 h2 hb B hB)⟩
theorem X7i(k:Nat)(d base:Int)(h1:1≤k)(h2:k≤64)(hd:d=1∨d=2)(hb:0≤base∧base<4294967296):Q7e rfA (X0N Q9j 1 k base) k d:=
 ⟨_,rfK,(rfI k),_,_,_,_,_,_,rfl,X3A k d,fun h8=>by
  rcases(show k=1∨k=2∨k=3∨k=4∨k=5∨k=6∨k=7∨k=8 by omega)with rfl|rfl|rfl|rfl|rfl|rfl|rfl|rfl<;>decide,fun B hB=>Y0t k d base h1 h2 hd hb B hB⟩
theorem X9N(k:Nat)(d base:Int)(h1:1≤k)(h2:k≤64)(hd:d=1∨d=2)(hb:0≤base∧base<4294967296)(B:Nat)(hB:B≤100000): ∃ps,MI wfK (wfI k) k B (Mt.start k d (Q8A base++List.replicate ((8+4*(k:Int)).toNat-1) 0)) ps:=
 ⟨_,Q3x (X3k k d) _ (by simp[Q8A];omega) (Y2R k base h1 h2 hb B hB)⟩
theorem X6c(k:Nat)(d base:Int)(h1:1≤k)(h2:k≤64)(hd:d=1∨d=2)(hb:0≤base∧base<4294967296):Q7e wfA (X0N Q8A 1 k base) k d:=
 ⟨_,wfK,(wfI k),_,_,_,_,_,_,rfl,X3k k d,fun h8=>by
  rcases(show k=1∨k=2∨k=3∨k=4∨k=5∨k=6∨k=7∨k=8 by omega)with rfl|rfl|rfl|rfl|rfl|rfl|rfl|rfl<;>decide,fun B hB=>X9N k d base h1 h2 hd hb B hB⟩
theorem X2E(kind:Int)(h:1≤kind∧kind≤6): ∃fid g Z,Q4W kind fid g Z∧ ∀(k:Nat) (d base:Int),1≤k→k≤64→d=1∨d=2→0≤base∧base<4294967296→Q7e g (Z k base) k d:=by
 have:kind=1∨kind=2∨kind=3∨kind=4∨kind=5∨kind=6:=by omega
 rcases this with rfl|rfl|rfl|rfl|rfl|rfl
 ·exact⟨_,_,_,X8I,X6B⟩
 ·exact⟨_,_,_,X8L,X8h⟩
 ·exact⟨_,_,_,X8K,X7N⟩
 ·exact⟨_,_,_,X0D,X8Y⟩
 ·exact⟨_,_,_,X8J,X7i⟩
 ·exact⟨_,_,_,X8H,X6c⟩
end Go.Proofs.YthnimpkoidablaaGreat.Z
