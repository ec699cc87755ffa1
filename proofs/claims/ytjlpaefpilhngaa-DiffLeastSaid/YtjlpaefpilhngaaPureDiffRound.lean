/- Words that are a given way apart are told to be so, wherever they go round: for every word and every int32. -/
import Derived.Test.YtjlpaefpilhngaaPDiffRoundx1
namespace Go.Proofs.Ytjlpaefpilhngaa.Pure
open Go.RowKit Go.Proofs.Ytjlpaefpilhngaa.PDiffRound Go.Proofs.YtjlpaefpilhngaaW.PrintWords Go.Proofs.YtjlpaefpilhngaaW.PrintLast

theorem round_awake : stilemanlaw02_awake.f = some true := by decide +kernel

theorem DiffRound : stilemanlaw02_DiffRound.Pure := by
  intro a0 a1 h0 h1
  simp only [Lit.wf, IntKind.min, IntKind.max, IntKind.signed, IntKind.bits] at h0 h1
  simp at h0 h1
  unfold stilemanlaw02_DiffRound.f diff_Ahead.f
  simp only [Option.bind_some]
  rw [if_pos, round_awake]
  · rfl
  · unfold wrap64 wrap32
    omega

end Go.Proofs.Ytjlpaefpilhngaa.Pure
