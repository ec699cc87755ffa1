/- Worlds taken under a name with what is known of them. No program is in sight. -/
import Derived.Test.YtlndihdlodempaaZOwn
import Derived.Test.YtlndihdlodempaaZRef01
set_option linter.unusedVariables false
set_option linter.unusedSimpArgs false
namespace Go.Proofs.Ytlndihdlodempaa.Z
open Go.RowKit

theorem calls_from {P : Program} {f : FuncId} {args : Array Value} {W0 : World} {R : Ending → World → Prop} {Facts : World → Prop} (h : ∀ W, Facts W → Calls P f args W R) (h0 : Facts W0) : Calls P f args W0 R := h _ h0
theorem wp_from {P : Program} {c : Code} {Q : Exit → Act → World → Prop} {a : Act} {W0 : World} {Facts : World → Prop} (h : ∀ W, Facts W → c.wp P Q a W) (h0 : Facts W0) : c.wp P Q a W0 := h _ h0

/-- Five cells are stored, one by one. -/
theorem blk_set5 {w : World} {b : Nat} {c0 c1 c2 c3 c4 v0 v1 v2 v3 v4 : Value} (h : Blk w b #[c0, c1, c2, c3, c4]) :
    Blk (((((w.setCell ⟨b, 0, none⟩ v0).setCell ⟨b, 1, none⟩ v1).setCell ⟨b, 2, none⟩ v2).setCell ⟨b, 3, none⟩ v3).setCell ⟨b, 4, none⟩ v4) b #[v0, v1, v2, v3, v4] :=
  (((((h.set 0 v0).set 1 v1).set 2 v2).set 3 v3).set 4 v4).eq rfl

theorem touch_set5 {w : World} {b : Nat} {v0 v1 v2 v3 v4 : Value} :
    Touch [b] w (((((w.setCell ⟨b, 0, none⟩ v0).setCell ⟨b, 1, none⟩ v1).setCell ⟨b, 2, none⟩ v2).setCell ⟨b, 3, none⟩ v3).setCell ⟨b, 4, none⟩ v4) :=
  ((((((Touch.refl [b] w).set (p := ⟨b, 0, none⟩) (by simp) v0).set (p := ⟨b, 1, none⟩) (by simp) v1).set (p := ⟨b, 2, none⟩) (by simp) v2).set (p := ⟨b, 3, none⟩) (by simp) v3).set (p := ⟨b, 4, none⟩) (by simp) v4)

theorem Row.new {w0 w2 wf : World} {p : Option Addr} {g : Nat} {L0 L2 : List Int} {S : List Nat} (h0 : Row w0 p g L0) (h : Row w2 p g L2) (hl : L2.length = L0.length) (t : Touch S w2 wf) (hS : ∀ k, k ∈ S → w0.heap.size ≤ k) : Row wf p g L2 :=
  ⟨h.words, h.at_, fun hp => by
    obtain ⟨rest, hr⟩ := h.body hp
    exact ⟨rest, t.blk hr (fun hm => by have := hS _ hm; have := h0.lt (by omega); omega)⟩⟩

theorem Mem.new {w0 w2 wf : World} {m a : Nat} {L0 L2 : List Int} {S : List Nat} (h0 : Mem w0 m a L0) (h : Mem w2 m a L2) (hl : L2.length = L0.length) (t : Touch S w2 wf) (hS : ∀ k, k ∈ S → w0.heap.size ≤ k) : Mem wf m a L2 := by
  obtain ⟨p, cap, hb, r⟩ := h.head
  have hlt := h0.lt
  refine ⟨h.ne, h.words, ⟨p, cap, t.blk hb (fun hm => by have := hS _ hm; omega), r⟩, fun hp => ?_⟩
  obtain ⟨rest, hr⟩ := h.body hp
  exact ⟨rest, t.blk hr (fun hm => by have := hS _ hm; have := hlt.2 (by omega); omega)⟩

end Go.Proofs.Ytlndihdlodempaa.Z
