import Derived.Test.YthnimpkoidablaaGreatZA16
set_option linter.unusedVariables false
set_option linter.unusedSimpArgs false
set_option maxHeartbeats 800000
namespace Go.Proofs.YthnimpkoidablaaGreat.Z
open Go.RowKit
theorem X5s(s:Rn)(hw:Words s.L)(h:I64 s.n∧(0≤s.f.a∧s.f.a<4294967296)∧(0≤s.f.b∧s.f.b<4294967296)):Fine s (X5t s):=by
 have hold:=fun b=>Q0s s.L hw b
 obtain⟨h1,h2,h3⟩:=h
 unfold X5t
 (try dsimp only)
 (repeat' split)<;>first
  |exact Q0f ⟨⟨h1,h2,h3⟩,by simp[Rn.Q0E,Rn.Q0d,Rn.did,Rn.Q0h,Rn.setB,Rn.note,Rn.goto,Rn.fin,Rn.wake,Rn.waited]⟩
  |exact Q0f ⟨⟨h1,hold _,h3⟩,by simp[Rn.Q0E,Rn.Q0d,Rn.did,Rn.Q0h,Rn.setB,Rn.note,Rn.goto,Rn.fin,Rn.wake,Rn.waited]⟩
  |exact Q0f ⟨⟨h1,h2,hold _⟩,by simp[Rn.Q0E,Rn.Q0d,Rn.did,Rn.Q0h,Rn.setB,Rn.note,Rn.goto,Rn.fin,Rn.wake,Rn.waited]⟩
theorem X5r(s:Rn)(hw:Words s.L)(h:I64 s.n∧(0≤s.f.a∧s.f.a<4294967296)∧(0≤s.f.b∧s.f.b<4294967296)):Fine s (X2x s):=by
 have hold:=fun b=>Q0s s.L hw b
 obtain⟨h1,h2,h3⟩:=h
 unfold X2x
 (try dsimp only)
 (repeat' split)<;>first
  |exact Q0f ⟨⟨h1,h2,h3⟩,by simp[Rn.Q0E,Rn.Q0d,Rn.did,Rn.Q0h,Rn.setB,Rn.note,Rn.goto,Rn.fin,Rn.wake,Rn.waited]⟩
  |exact Q0f ⟨⟨h1,hold _,h3⟩,by simp[Rn.Q0E,Rn.Q0d,Rn.did,Rn.Q0h,Rn.setB,Rn.note,Rn.goto,Rn.fin,Rn.wake,Rn.waited]⟩
  |exact Q0f ⟨⟨h1,h2,hold _⟩,by simp[Rn.Q0E,Rn.Q0d,Rn.did,Rn.Q0h,Rn.setB,Rn.note,Rn.goto,Rn.fin,Rn.wake,Rn.waited]⟩
theorem X5p(s:Rn)(hw:Words s.L)(h:I64 s.n∧(0≤s.f.a∧s.f.a<4294967296)∧(0≤s.f.b∧s.f.b<4294967296)):Fine s (X5q s):=by
 have hold:=fun b=>Q0s s.L hw b
 obtain⟨h1,h2,h3⟩:=h
 unfold X5q
 (try dsimp only)
 (repeat' split)<;>first
  |exact Q0f ⟨⟨h1,h2,h3⟩,by simp[Rn.Q0E,Rn.Q0d,Rn.did,Rn.Q0h,Rn.setB,Rn.note,Rn.goto,Rn.fin,Rn.wake,Rn.waited]⟩
  |exact Q0f ⟨⟨h1,hold _,h3⟩,by simp[Rn.Q0E,Rn.Q0d,Rn.did,Rn.Q0h,Rn.setB,Rn.note,Rn.goto,Rn.fin,Rn.wake,Rn.waited]⟩
  |exact Q0f ⟨⟨h1,h2,hold _⟩,by simp[Rn.Q0E,Rn.Q0d,Rn.did,Rn.Q0h,Rn.setB,Rn.note,Rn.goto,Rn.fin,Rn.wake,Rn.waited]⟩
theorem X5n(s:Rn)(hw:Words s.L)(h:I64 s.n∧(0≤s.f.a∧s.f.a<4294967296)∧(0≤s.f.b∧s.f.b<4294967296)):Fine s (X5o s):=by
 have hold:=fun b=>Q0s s.L hw b
 obtain⟨h1,h2,h3⟩:=h
 unfold X5o
 (try dsimp only)
 (repeat' split)<;>first
  |exact Q0f ⟨⟨h1,h2,h3⟩,by simp[Rn.Q0E,Rn.Q0d,Rn.did,Rn.Q0h,Rn.setB,Rn.note,Rn.goto,Rn.fin,Rn.wake,Rn.waited]⟩
  |exact Q0f ⟨⟨h1,hold _,h3⟩,by simp[Rn.Q0E,Rn.Q0d,Rn.did,Rn.Q0h,Rn.setB,Rn.note,Rn.goto,Rn.fin,Rn.wake,Rn.waited]⟩
  |exact Q0f ⟨⟨h1,h2,hold _⟩,by simp[Rn.Q0E,Rn.Q0d,Rn.did,Rn.Q0h,Rn.setB,Rn.note,Rn.goto,Rn.fin,Rn.wake,Rn.waited]⟩
theorem X5l(s:Rn)(hw:Words s.L)(h:I64 s.n∧(0≤s.f.a∧s.f.a<4294967296)∧(0≤s.f.b∧s.f.b<4294967296)):Fine s (X5m s):=by
 have hold:=fun b=>Q0s s.L hw b
 obtain⟨h1,h2,h3⟩:=h
 unfold X5m
 (try dsimp only)
 (repeat' split)<;>first
  |exact Q0f ⟨⟨h1,h2,h3⟩,by simp[Rn.Q0E,Rn.Q0d,Rn.did,Rn.Q0h,Rn.setB,Rn.note,Rn.goto,Rn.fin,Rn.wake,Rn.waited]⟩
  |exact Q0f ⟨⟨h1,hold _,h3⟩,by simp[Rn.Q0E,Rn.Q0d,Rn.did,Rn.Q0h,Rn.setB,Rn.note,Rn.goto,Rn.fin,Rn.wake,Rn.waited]⟩
  |exact Q0f ⟨⟨h1,h2,hold _⟩,by simp[Rn.Q0E,Rn.Q0d,Rn.did,Rn.Q0h,Rn.setB,Rn.note,Rn.goto,Rn.fin,Rn.wake,Rn.waited]⟩
theorem X8x(s:Rn)(hw:Words s.L)(h:I64 s.n∧(0≤s.f.a∧s.f.a<4294967296)∧(0≤s.f.b∧s.f.b<4294967296)):Fine s (Y5x s):=by
 have hold:=fun b=>Q0s s.L hw b
 obtain⟨h1,h2,h3⟩:=h
 unfold Y5x
 (try dsimp only)
 (repeat' split)<;>first
  |exact Q0f ⟨⟨h1,h2,h3⟩,by simp[Rn.Q0E,Rn.Q0d,Rn.did,Rn.Q0h,Rn.setB,Rn.note,Rn.goto,Rn.fin,Rn.wake,Rn.waited]⟩
  |exact Q0f ⟨⟨h1,hold _,h3⟩,by simp[Rn.Q0E,Rn.Q0d,Rn.did,Rn.Q0h,Rn.setB,Rn.note,Rn.goto,Rn.fin,Rn.wake,Rn.waited]⟩
  |exact Q0f ⟨⟨h1,h2,hold _⟩,by simp[Rn.Q0E,Rn.Q0d,Rn.did,Rn.Q0h,Rn.setB,Rn.note,Rn.goto,Rn.fin,Rn.wake,Rn.waited]⟩
theorem X8w(s:Rn)(hw:Words s.L)(h:I64 s.n∧(0≤s.f.a∧s.f.a<4294967296)∧(0≤s.f.b∧s.f.b<4294967296)):Fine s (Y3W s):=by
 have hold:=fun b=>Q0s s.L hw b
 obtain⟨h1,h2,h3⟩:=h
 unfold Y3W
 (try dsimp only)
 (repeat' split)<;>first
  |exact Q0f ⟨⟨h1,h2,h3⟩,by simp[Rn.Q0E,Rn.Q0d,Rn.did,Rn.Q0h,Rn.setB,Rn.note,Rn.goto,Rn.fin,Rn.wake,Rn.waited]⟩
  |exact Q0f ⟨⟨h1,hold _,h3⟩,by simp[Rn.Q0E,Rn.Q0d,Rn.did,Rn.Q0h,Rn.setB,Rn.note,Rn.goto,Rn.fin,Rn.wake,Rn.waited]⟩
  |exact Q0f ⟨⟨h1,h2,hold _⟩,by simp[Rn.Q0E,Rn.Q0d,Rn.did,Rn.Q0h,Rn.setB,Rn.note,Rn.goto,Rn.fin,Rn.wake,Rn.waited]⟩
theorem X8v(s:Rn)(hw:Words s.L)(h:I64 s.n∧(0≤s.f.a∧s.f.a<4294967296)∧(0≤s.f.b∧s.f.b<4294967296)):Fine s (Y5w s):=by
 have hold:=fun b=>Q0s s.L hw b
 obtain⟨h1,h2,h3⟩:=h
 unfold Y5w
 (try dsimp only)
 (repeat' split)<;>first
  |exact Q0f ⟨⟨h1,h2,h3⟩,by simp[Rn.Q0E,Rn.Q0d,Rn.did,Rn.Q0h,Rn.setB,Rn.note,Rn.goto,Rn.fin,Rn.wake,Rn.waited]⟩
  |exact Q0f ⟨⟨h1,hold _,h3⟩,by simp[Rn.Q0E,Rn.Q0d,Rn.did,Rn.Q0h,Rn.setB,Rn.note,Rn.goto,Rn.fin,Rn.wake,Rn.waited]⟩
  |exact Q0f ⟨⟨h1,h2,hold _⟩,by simp[Rn.Q0E,Rn.Q0d,Rn.did,Rn.Q0h,Rn.setB,Rn.note,Rn.goto,Rn.fin,Rn.wake,Rn.waited]⟩
theorem X8u(s:Rn)(hw:Words s.L)(h:I64 s.n∧(0≤s.f.a∧s.f.a<4294967296)∧(0≤s.f.b∧s.f.b<4294967296)):Fine s (Y5v s):=by
 have hold:=fun b=>Q0s s.L hw b
 obtain⟨h1,h2,h3⟩:=h
 unfold Y5v
 (try dsimp only)
 (repeat' split)<;>first
  |exact Q0f ⟨⟨h1,h2,h3⟩,by simp[Rn.Q0E,Rn.Q0d,Rn.did,Rn.Q0h,Rn.setB,Rn.note,Rn.goto,Rn.fin,Rn.wake,Rn.waited]⟩
  |exact Q0f ⟨⟨h1,hold _,h3⟩,by simp[Rn.Q0E,Rn.Q0d,Rn.did,Rn.Q0h,Rn.setB,Rn.note,Rn.goto,Rn.fin,Rn.wake,Rn.waited]⟩
  |exact Q0f ⟨⟨h1,h2,hold _⟩,by simp[Rn.Q0E,Rn.Q0d,Rn.did,Rn.Q0h,Rn.setB,Rn.note,Rn.goto,Rn.fin,Rn.wake,Rn.waited]⟩
theorem X8t(s:Rn)(hw:Words s.L)(h:I64 s.n∧(0≤s.f.a∧s.f.a<4294967296)∧(0≤s.f.b∧s.f.b<4294967296)):Fine s (Y3V s):=by
 have hold:=fun b=>Q0s s.L hw b
 obtain⟨h1,h2,h3⟩:=h
 unfold Y3V
 (try dsimp only)
 (repeat' split)<;>first
  |exact Q0f ⟨⟨h1,h2,h3⟩,by simp[Rn.Q0E,Rn.Q0d,Rn.did,Rn.Q0h,Rn.setB,Rn.note,Rn.goto,Rn.fin,Rn.wake,Rn.waited]⟩
  |exact Q0f ⟨⟨h1,hold _,h3⟩,by simp[Rn.Q0E,Rn.Q0d,Rn.did,Rn.Q0h,Rn.setB,Rn.note,Rn.goto,Rn.fin,Rn.wake,Rn.waited]⟩
  |exact Q0f ⟨⟨h1,h2,hold _⟩,by simp[Rn.Q0E,Rn.Q0d,Rn.did,Rn.Q0h,Rn.setB,Rn.note,Rn.goto,Rn.fin,Rn.wake,Rn.waited]⟩
theorem X8s(s:Rn)(hw:Words s.L)(h:I64 s.n∧(0≤s.f.a∧s.f.a<4294967296)∧(0≤s.f.b∧s.f.b<4294967296)):Fine s (Y5u s):=by
 have hold:=fun b=>Q0s s.L hw b
 obtain⟨h1,h2,h3⟩:=h
 unfold Y5u
 (try dsimp only)
 (repeat' split)<;>first
  |exact Q0f ⟨⟨h1,h2,h3⟩,by simp[Rn.Q0E,Rn.Q0d,Rn.did,Rn.Q0h,Rn.setB,Rn.note,Rn.goto,Rn.fin,Rn.wake,Rn.waited]⟩
  |exact Q0f ⟨⟨h1,hold _,h3⟩,by simp[Rn.Q0E,Rn.Q0d,Rn.did,Rn.Q0h,Rn.setB,Rn.note,Rn.goto,Rn.fin,Rn.wake,Rn.waited]⟩
  |exact Q0f ⟨⟨h1,h2,hold _⟩,by simp[Rn.Q0E,Rn.Q0d,Rn.did,Rn.Q0h,Rn.setB,Rn.note,Rn.goto,Rn.fin,Rn.wake,Rn.waited]⟩
theorem X8o(s:Rn)(hw:Words s.L)(h:I64 s.n∧(0≤s.f.a∧s.f.a<4294967296)∧(0≤s.f.b∧s.f.b<4294967296)):Fine s (Y5q s):=by
 have hold:=fun b=>Q0s s.L hw b
 obtain⟨h1,h2,h3⟩:=h
 unfold Y5q
 (try dsimp only)
 (repeat' split)<;>first
  |exact Q0f ⟨⟨h1,h2,h3⟩,by simp[Rn.Q0E,Rn.Q0d,Rn.did,Rn.Q0h,Rn.setB,Rn.note,Rn.goto,Rn.fin,Rn.wake,Rn.waited]⟩
  |exact Q0f ⟨⟨h1,hold _,h3⟩,by simp[Rn.Q0E,Rn.Q0d,Rn.did,Rn.Q0h,Rn.setB,Rn.note,Rn.goto,Rn.fin,Rn.wake,Rn.waited]⟩
  |exact Q0f ⟨⟨h1,h2,hold _⟩,by simp[Rn.Q0E,Rn.Q0d,Rn.did,Rn.Q0h,Rn.setB,Rn.note,Rn.goto,Rn.fin,Rn.wake,Rn.waited]⟩
theorem X8r(s:Rn)(hw:Words s.L)(h:I64 s.n∧(0≤s.f.a∧s.f.a<4294967296)∧(0≤s.f.b∧s.f.b<4294967296)):Fine s (Y5t s):=by
 have hold:=fun b=>Q0s s.L hw b
 obtain⟨h1,h2,h3⟩:=h
 unfold Y5t
 (try dsimp only)
 (repeat' split)<;>first
  |exact Q0f ⟨⟨h1,h2,h3⟩,by simp[Rn.Q0E,Rn.Q0d,Rn.did,Rn.Q0h,Rn.setB,Rn.note,Rn.goto,Rn.fin,Rn.wake,Rn.waited]⟩
  |exact Q0f ⟨⟨h1,hold _,h3⟩,by simp[Rn.Q0E,Rn.Q0d,Rn.did,Rn.Q0h,Rn.setB,Rn.note,Rn.goto,Rn.fin,Rn.wake,Rn.waited]⟩
  |exact Q0f ⟨⟨h1,h2,hold _⟩,by simp[Rn.Q0E,Rn.Q0d,Rn.did,Rn.Q0h,Rn.setB,Rn.note,Rn.goto,Rn.fin,Rn.wake,Rn.waited]⟩
theorem X8n(s:Rn)(hw:Words s.L)(h:I64 s.n∧(0≤s.f.a∧s.f.a<4294967296)∧(0≤s.f.b∧s.f.b<4294967296)):Fine s (Y5p s):=by
 have hold:=fun b=>Q0s s.L hw b
 obtain⟨h1,h2,h3⟩:=h
 unfold Y5p
 (try dsimp only)
 (repeat' split)<;>first
  |exact Q0f ⟨⟨h1,h2,h3⟩,by simp[Rn.Q0E,Rn.Q0d,Rn.did,Rn.Q0h,Rn.setB,Rn.note,Rn.goto,Rn.fin,Rn.wake,Rn.waited]⟩
  |exact Q0f ⟨⟨h1,hold _,h3⟩,by simp[Rn.Q0E,Rn.Q0d,Rn.did,Rn.Q0h,Rn.setB,Rn.note,Rn.goto,Rn.fin,Rn.wake,Rn.waited]⟩
  |exact Q0f ⟨⟨h1,h2,hold _⟩,by simp[Rn.Q0E,Rn.Q0d,Rn.did,Rn.Q0h,Rn.setB,Rn.note,Rn.goto,Rn.fin,Rn.wake,Rn.waited]⟩
theorem X8q(s:Rn)(hw:Words s.L)(h:I64 s.n∧(0≤s.f.a∧s.f.a<4294967296)∧(0≤s.f.b∧s.f.b<4294967296)):Fine s (Y5s s):=by
 have hold:=fun b=>Q0s s.L hw b
 obtain⟨h1,h2,h3⟩:=h
 unfold Y5s
 (try dsimp only)
 (repeat' split)<;>first
  |exact Q0f ⟨⟨h1,h2,h3⟩,by simp[Rn.Q0E,Rn.Q0d,Rn.did,Rn.Q0h,Rn.setB,Rn.note,Rn.goto,Rn.fin,Rn.wake,Rn.waited]⟩
  |exact Q0f ⟨⟨h1,hold _,h3⟩,by simp[Rn.Q0E,Rn.Q0d,Rn.did,Rn.Q0h,Rn.setB,Rn.note,Rn.goto,Rn.fin,Rn.wake,Rn.waited]⟩
  |exact Q0f ⟨⟨h1,h2,hold _⟩,by simp[Rn.Q0E,Rn.Q0d,Rn.did,Rn.Q0h,Rn.setB,Rn.note,Rn.goto,Rn.fin,Rn.wake,Rn.waited]⟩
theorem X8m(s:Rn)(hw:Words s.L)(h:I64 s.n∧(0≤s.f.a∧s.f.a<4294967296)∧(0≤s.f.b∧s.f.b<4294967296)):Fine s (Y5o s):=by
 have hold:=fun b=>Q0s s.L hw b
 obtain⟨h1,h2,h3⟩:=h
 unfold Y5o
 (try dsimp only)
 (repeat' split)<;>first
  |exact Q0f ⟨⟨h1,h2,h3⟩,by simp[Rn.Q0E,Rn.Q0d,Rn.did,Rn.Q0h,Rn.setB,Rn.note,Rn.goto,Rn.fin,Rn.wake,Rn.waited]⟩
  |exact Q0f ⟨⟨h1,hold _,h3⟩,by simp[Rn.Q0E,Rn.Q0d,Rn.did,Rn.Q0h,Rn.setB,Rn.note,Rn.goto,Rn.fin,Rn.wake,Rn.waited]⟩
  |exact Q0f ⟨⟨h1,h2,hold _⟩,by simp[Rn.Q0E,Rn.Q0d,Rn.did,Rn.Q0h,Rn.setB,Rn.note,Rn.goto,Rn.fin,Rn.wake,Rn.waited]⟩
theorem X8p(s:Rn)(hw:Words s.L)(h:I64 s.n∧(0≤s.f.a∧s.f.a<4294967296)∧(0≤s.f.b∧s.f.b<4294967296)):Fine s (Y5r s):=by
 have hold:=fun b=>Q0s s.L hw b
 obtain⟨h1,h2,h3⟩:=h
 unfold Y5r
 (try dsimp only)
 (repeat' split)<;>first
  |exact Q0f ⟨⟨h1,h2,h3⟩,by simp[Rn.Q0E,Rn.Q0d,Rn.did,Rn.Q0h,Rn.setB,Rn.note,Rn.goto,Rn.fin,Rn.wake,Rn.waited]⟩
  |exact Q0f ⟨⟨h1,hold _,h3⟩,by simp[Rn.Q0E,Rn.Q0d,Rn.did,Rn.Q0h,Rn.setB,Rn.note,Rn.goto,Rn.fin,Rn.wake,Rn.waited]⟩
  |exact Q0f ⟨⟨h1,h2,hold _⟩,by simp[Rn.Q0E,Rn.Q0d,Rn.did,Rn.Q0h,Rn.setB,Rn.note,Rn.goto,Rn.fin,Rn.wake,Rn.waited]⟩
theorem X8l(s:Rn)(hw:Words s.L)(h:I64 s.n∧(0≤s.f.a∧s.f.a<4294967296)∧(0≤s.f.b∧s.f.b<4294967296)):Fine s (Y5n s):=by
 have hold:=fun b=>Q0s s.L hw b
 obtain⟨h1,h2,h3⟩:=h
 unfold Y5n
 (try dsimp only)
 (repeat' split)<;>first
  |exact Q0f ⟨⟨h1,h2,h3⟩,by simp[Rn.Q0E,Rn.Q0d,Rn.did,Rn.Q0h,Rn.setB,Rn.note,Rn.goto,Rn.fin,Rn.wake,Rn.waited]⟩
  |exact Q0f ⟨⟨h1,hold _,h3⟩,by simp[Rn.Q0E,Rn.Q0d,Rn.did,Rn.Q0h,Rn.setB,Rn.note,Rn.goto,Rn.fin,Rn.wake,Rn.waited]⟩
  |exact Q0f ⟨⟨h1,h2,hold _⟩,by simp[Rn.Q0E,Rn.Q0d,Rn.did,Rn.Q0h,Rn.setB,Rn.note,Rn.goto,Rn.fin,Rn.wake,Rn.waited]⟩
theorem X1x(s:Rn)(hw:Words s.L)(h:I64 s.n∧(0≤s.f.a∧s.f.a<4294967296)∧(0≤s.f.b∧s.f.b<4294967296)):Fine s (Y2s s):=by
 have hold:=fun b=>Q0s s.L hw b
 obtain⟨h1,h2,h3⟩:=h
 unfold Y2s
 (try dsimp only)
 (repeat' split)<;>first
  |exact Q0f ⟨⟨h1,h2,h3⟩,by simp[Rn.Q0E,Rn.Q0d,Rn.did,Rn.Q0h,Rn.setB,Rn.note,Rn.goto,Rn.fin,Rn.wake,Rn.waited]⟩
  |exact Q0f ⟨⟨h1,hold _,h3⟩,by simp[Rn.Q0E,Rn.Q0d,Rn.did,Rn.Q0h,Rn.setB,Rn.note,Rn.goto,Rn.fin,Rn.wake,Rn.waited]⟩
  |exact Q0f ⟨⟨h1,h2,hold _⟩,by simp[Rn.Q0E,Rn.Q0d,Rn.did,Rn.Q0h,Rn.setB,Rn.note,Rn.goto,Rn.fin,Rn.wake,Rn.waited]⟩
theorem X1w(s:Rn)(hw:Words s.L)(h:I64 s.n∧(0≤s.f.a∧s.f.a<4294967296)∧(0≤s.f.b∧s.f.b<4294967296)):Fine s (Y2r s):=by
 have hold:=fun b=>Q0s s.L hw b
 obtain⟨h1,h2,h3⟩:=h
 unfold Y2r
 (try dsimp only)
 (repeat' split)<;>first
  |exact Q0f ⟨⟨h1,h2,h3⟩,by simp[Rn.Q0E,Rn.Q0d,Rn.did,Rn.Q0h,Rn.setB,Rn.note,Rn.goto,Rn.fin,Rn.wake,Rn.waited]⟩
  |exact Q0f ⟨⟨h1,hold _,h3⟩,by simp[Rn.Q0E,Rn.Q0d,Rn.did,Rn.Q0h,Rn.setB,Rn.note,Rn.goto,Rn.fin,Rn.wake,Rn.waited]⟩
  |exact Q0f ⟨⟨h1,h2,hold _⟩,by simp[Rn.Q0E,Rn.Q0d,Rn.did,Rn.Q0h,Rn.setB,Rn.note,Rn.goto,Rn.fin,Rn.wake,Rn.waited]⟩
theorem X1v(s:Rn)(hw:Words s.L)(h:I64 s.n∧(0≤s.f.a∧s.f.a<4294967296)∧(0≤s.f.b∧s.f.b<4294967296)):Fine s (Y2q s):=by
 have hold:=fun b=>Q0s s.L hw b
 obtain⟨h1,h2,h3⟩:=h
 unfold Y2q
 (try dsimp only)
 (repeat' split)<;>first
  |exact Q0f ⟨⟨h1,h2,h3⟩,by simp[Rn.Q0E,Rn.Q0d,Rn.did,Rn.Q0h,Rn.setB,Rn.note,Rn.goto,Rn.fin,Rn.wake,Rn.waited]⟩
  |exact Q0f ⟨⟨h1,hold _,h3⟩,by simp[Rn.Q0E,Rn.Q0d,Rn.did,Rn.Q0h,Rn.setB,Rn.note,Rn.goto,Rn.fin,Rn.wake,Rn.waited]⟩
  |exact Q0f ⟨⟨h1,h2,hold _⟩,by simp[Rn.Q0E,Rn.Q0d,Rn.did,Rn.Q0h,Rn.setB,Rn.note,Rn.goto,Rn.fin,Rn.wake,Rn.waited]⟩
theorem X1u(s:Rn)(hw:Words s.L)(h:I64 s.n∧(0≤s.f.a∧s.f.a<4294967296)∧(0≤s.f.b∧s.f.b<4294967296)):Fine s (Y2p s):=by
 have hold:=fun b=>Q0s s.L hw b
 obtain⟨h1,h2,h3⟩:=h
 unfold Y2p
 (try dsimp only)
 (repeat' split)<;>first
  |exact Q0f ⟨⟨h1,h2,h3⟩,by simp[Rn.Q0E,Rn.Q0d,Rn.did,Rn.Q0h,Rn.setB,Rn.note,Rn.goto,Rn.fin,Rn.wake,Rn.waited]⟩
  |exact Q0f ⟨⟨h1,hold _,h3⟩,by simp[Rn.Q0E,Rn.Q0d,Rn.did,Rn.Q0h,Rn.setB,Rn.note,Rn.goto,Rn.fin,Rn.wake,Rn.waited]⟩
  |exact Q0f ⟨⟨h1,h2,hold _⟩,by simp[Rn.Q0E,Rn.Q0d,Rn.did,Rn.Q0h,Rn.setB,Rn.note,Rn.goto,Rn.fin,Rn.wake,Rn.waited]⟩
theorem X5g(s:Rn)(hw:Words s.L)(h:I64 s.n∧(0≤s.f.a∧s.f.a<4294967296)∧(0≤s.f.b∧s.f.b<4294967296)):Fine s (X5h s):=by
 have hold:=fun b=>Q0s s.L hw b
 obtain⟨h1,h2,h3⟩:=h
 unfold X5h X8k
 (try dsimp only)
 (repeat' split)<;>first
  |exact Q0f ⟨⟨h1,h2,h3⟩,by simp[Rn.Q0E,Rn.Q0d,Rn.did,Rn.Q0h,Rn.setB,Rn.note,Rn.goto,Rn.fin,Rn.wake,Rn.waited]⟩
  |exact Q0f ⟨⟨h1,hold _,h3⟩,by simp[Rn.Q0E,Rn.Q0d,Rn.did,Rn.Q0h,Rn.setB,Rn.note,Rn.goto,Rn.fin,Rn.wake,Rn.waited]⟩
  |exact Q0f ⟨⟨h1,h2,hold _⟩,by simp[Rn.Q0E,Rn.Q0d,Rn.did,Rn.Q0h,Rn.setB,Rn.note,Rn.goto,Rn.fin,Rn.wake,Rn.waited]⟩
theorem X1t(s:Rn)(hw:Words s.L)(h:I64 s.n∧(0≤s.f.a∧s.f.a<4294967296)∧(0≤s.f.b∧s.f.b<4294967296)):Fine s (Y2o s):=by
 have hold:=fun b=>Q0s s.L hw b
 obtain⟨h1,h2,h3⟩:=h
 unfold Y2o
 (try dsimp only)
 (repeat' split)<;>first
  |exact Q0f ⟨⟨h1,h2,h3⟩,by simp[Rn.Q0E,Rn.Q0d,Rn.did,Rn.Q0h,Rn.setB,Rn.note,Rn.goto,Rn.fin,Rn.wake,Rn.waited]⟩
  |exact Q0f ⟨⟨h1,hold _,h3⟩,by simp[Rn.Q0E,Rn.Q0d,Rn.did,Rn.Q0h,Rn.setB,Rn.note,Rn.goto,Rn.fin,Rn.wake,Rn.waited]⟩
  |exact Q0f ⟨⟨h1,h2,hold _⟩,by simp[Rn.Q0E,Rn.Q0d,Rn.did,Rn.Q0h,Rn.setB,Rn.note,Rn.goto,Rn.fin,Rn.wake,Rn.waited]⟩
theorem X1s(s:Rn)(hw:Words s.L)(h:I64 s.n∧(0≤s.f.a∧s.f.a<4294967296)∧(0≤s.f.b∧s.f.b<4294967296)):Fine s (Y2n s):=by
 have hold:=fun b=>Q0s s.L hw b
 obtain⟨h1,h2,h3⟩:=h
 unfold Y2n
 (try dsimp only)
 (repeat' split)<;>first
  |exact Q0f ⟨⟨h1,h2,h3⟩,by simp[Rn.Q0E,Rn.Q0d,Rn.did,Rn.Q0h,Rn.setB,Rn.note,Rn.goto,Rn.fin,Rn.wake,Rn.waited]⟩
  |exact Q0f ⟨⟨h1,hold _,h3⟩,by simp[Rn.Q0E,Rn.Q0d,Rn.did,Rn.Q0h,Rn.setB,Rn.note,Rn.goto,Rn.fin,Rn.wake,Rn.waited]⟩
  |exact Q0f ⟨⟨h1,h2,hold _⟩,by simp[Rn.Q0E,Rn.Q0d,Rn.did,Rn.Q0h,Rn.setB,Rn.note,Rn.goto,Rn.fin,Rn.wake,Rn.waited]⟩
theorem X5d(s:Rn)(hw:Words s.L)(h:I64 s.n∧(0≤s.f.a∧s.f.a<4294967296)∧(0≤s.f.b∧s.f.b<4294967296)):Fine s (X2v s):=by
 have hold:=fun b=>Q0s s.L hw b
 obtain⟨h1,h2,h3⟩:=h
 unfold X2v Q7r
 (try dsimp only)
 (repeat' split)<;>first
  |exact Q0f ⟨⟨h1,h2,h3⟩,by simp[Rn.Q0E,Rn.Q0d,Rn.did,Rn.Q0h,Rn.setB,Rn.note,Rn.goto,Rn.fin,Rn.wake,Rn.waited]⟩
  |exact Q0f ⟨⟨h1,hold _,h3⟩,by simp[Rn.Q0E,Rn.Q0d,Rn.did,Rn.Q0h,Rn.setB,Rn.note,Rn.goto,Rn.fin,Rn.wake,Rn.waited]⟩
  |exact Q0f ⟨⟨h1,h2,hold _⟩,by simp[Rn.Q0E,Rn.Q0d,Rn.did,Rn.Q0h,Rn.setB,Rn.note,Rn.goto,Rn.fin,Rn.wake,Rn.waited]⟩
theorem X5b(s:Rn)(hw:Words s.L)(h:I64 s.n∧(0≤s.f.a∧s.f.a<4294967296)∧(0≤s.f.b∧s.f.b<4294967296)):Fine s (X8c s):=by
 have hold:=fun b=>Q0s s.L hw b
 obtain⟨h1,h2,h3⟩:=h
 unfold X8c
 (try dsimp only)
 (repeat' split)<;>first
  |exact Q0f ⟨⟨h1,h2,h3⟩,by simp[Rn.Q0E,Rn.Q0d,Rn.did,Rn.Q0h,Rn.setB,Rn.note,Rn.goto,Rn.fin,Rn.wake,Rn.waited]⟩
  |exact Q0f ⟨⟨h1,hold _,h3⟩,by simp[Rn.Q0E,Rn.Q0d,Rn.did,Rn.Q0h,Rn.setB,Rn.note,Rn.goto,Rn.fin,Rn.wake,Rn.waited]⟩
  |exact Q0f ⟨⟨h1,h2,hold _⟩,by simp[Rn.Q0E,Rn.Q0d,Rn.did,Rn.Q0h,Rn.setB,Rn.note,Rn.goto,Rn.fin,Rn.wake,Rn.waited]⟩
theorem X1r(s:Rn)(hw:Words s.L)(h:I64 s.n∧(0≤s.f.a∧s.f.a<4294967296)∧(0≤s.f.b∧s.f.b<4294967296)):Fine s (Y2m s):=by
 have hold:=fun b=>Q0s s.L hw b
 obtain⟨h1,h2,h3⟩:=h
 unfold Y2m
 (try dsimp only)
 (repeat' split)<;>first
  |exact Q0f ⟨⟨h1,h2,h3⟩,by simp[Rn.Q0E,Rn.Q0d,Rn.did,Rn.Q0h,Rn.setB,Rn.note,Rn.goto,Rn.fin,Rn.wake,Rn.waited]⟩
  |exact Q0f ⟨⟨h1,hold _,h3⟩,by simp[Rn.Q0E,Rn.Q0d,Rn.did,Rn.Q0h,Rn.setB,Rn.note,Rn.goto,Rn.fin,Rn.wake,Rn.waited]⟩
  |exact Q0f ⟨⟨h1,h2,hold _⟩,by simp[Rn.Q0E,Rn.Q0d,Rn.did,Rn.Q0h,Rn.setB,Rn.note,Rn.goto,Rn.fin,Rn.wake,Rn.waited]⟩
theorem X5e(s:Rn)(hw:Words s.L)(h:I64 s.n∧(0≤s.f.a∧s.f.a<4294967296)∧(0≤s.f.b∧s.f.b<4294967296)):Fine s (X5f s):=by
 have hold:=fun b=>Q0s s.L hw b
 obtain⟨h1,h2,h3⟩:=h
 unfold X5f X8j
 (try dsimp only)
 (repeat' split)<;>first
  |exact Q0f ⟨⟨h1,h2,h3⟩,by simp[Rn.Q0E,Rn.Q0d,Rn.did,Rn.Q0h,Rn.setB,Rn.note,Rn.goto,Rn.fin,Rn.wake,Rn.waited]⟩
  |exact Q0f ⟨⟨h1,hold _,h3⟩,by simp[Rn.Q0E,Rn.Q0d,Rn.did,Rn.Q0h,Rn.setB,Rn.note,Rn.goto,Rn.fin,Rn.wake,Rn.waited]⟩
  |exact Q0f ⟨⟨h1,h2,hold _⟩,by simp[Rn.Q0E,Rn.Q0d,Rn.did,Rn.Q0h,Rn.setB,Rn.note,Rn.goto,Rn.fin,Rn.wake,Rn.waited]⟩
theorem X5c(s:Rn)(hw:Words s.L)(h:I64 s.n∧(0≤s.f.a∧s.f.a<4294967296)∧(0≤s.f.b∧s.f.b<4294967296)):Fine s (X2u s):=by
 have hold:=fun b=>Q0s s.L hw b
 obtain⟨h1,h2,h3⟩:=h
 unfold X2u Q7q
 (try dsimp only)
 (repeat' split)<;>first
  |exact Q0f ⟨⟨h1,h2,h3⟩,by simp[Rn.Q0E,Rn.Q0d,Rn.did,Rn.Q0h,Rn.setB,Rn.note,Rn.goto,Rn.fin,Rn.wake,Rn.waited]⟩
  |exact Q0f ⟨⟨h1,hold _,h3⟩,by simp[Rn.Q0E,Rn.Q0d,Rn.did,Rn.Q0h,Rn.setB,Rn.note,Rn.goto,Rn.fin,Rn.wake,Rn.waited]⟩
  |exact Q0f ⟨⟨h1,h2,hold _⟩,by simp[Rn.Q0E,Rn.Q0d,Rn.did,Rn.Q0h,Rn.setB,Rn.note,Rn.goto,Rn.fin,Rn.wake,Rn.waited]⟩
theorem X4Z(s:Rn)(hw:Words s.L)(h:I64 s.n∧(0≤s.f.a∧s.f.a<4294967296)∧(0≤s.f.b∧s.f.b<4294967296)):Fine s (X5a s):=by
 have hold:=fun b=>Q0s s.L hw b
 obtain⟨h1,h2,h3⟩:=h
 unfold X5a
 (try dsimp only)
 (repeat' split)<;>first
  |exact Q0f ⟨⟨h1,h2,h3⟩,by simp[Rn.Q0E,Rn.Q0d,Rn.did,Rn.Q0h,Rn.setB,Rn.note,Rn.goto,Rn.fin,Rn.wake,Rn.waited]⟩
  |exact Q0f ⟨⟨h1,hold _,h3⟩,by simp[Rn.Q0E,Rn.Q0d,Rn.did,Rn.Q0h,Rn.setB,Rn.note,Rn.goto,Rn.fin,Rn.wake,Rn.waited]⟩
  |exact Q0f ⟨⟨h1,h2,hold _⟩,by simp[Rn.Q0E,Rn.Q0d,Rn.did,Rn.Q0h,Rn.setB,Rn.note,Rn.goto,Rn.fin,Rn.wake,Rn.waited]⟩
theorem Y1g(s:Rn)(hw:Words s.L)(h:I64 s.n∧(0≤s.f.a∧s.f.a<4294967296)∧(0≤s.f.b∧s.f.b<4294967296)):(I64 (pfA s).n∧(0≤(pfA s).f.a∧(pfA s).f.a<4294967296)∧(0≤(pfA s).f.b∧(pfA s).f.b<4294967296))∧(pfA s).notes.length≤s.notes.length+10:=by
 suffices h0:Fine s (pfA s)from h0
 unfold pfA
 by_cases h10:s.f.op=1∧s.f.line=0
 ·rw[if_pos h10];exact X5s s hw h
 rw[if_neg h10]
 by_cases h11:s.f.op=1∧s.f.line=1
 ·rw[if_pos h11];exact X5r s hw h
 rw[if_neg h11]
 by_cases h20:s.f.op=2∧s.f.line=0
 ·rw[if_pos h20];exact X5p s hw h
 rw[if_neg h20]
 by_cases h50:s.f.op=5∧s.f.line=0
 ·rw[if_pos h50];exact X5n s hw h
 rw[if_neg h50]
 by_cases h51:s.f.op=5∧s.f.line=1
 ·rw[if_pos h51];exact X5l s hw h
 rw[if_neg h51]
 by_cases h30:s.f.op=3∧s.f.line=0
 ·rw[if_pos h30];exact X8x s hw h
 rw[if_neg h30]
 by_cases h31:s.f.op=3∧s.f.line=1
 ·rw[if_pos h31];exact X8w s hw h
 rw[if_neg h31]
 by_cases h32:s.f.op=3∧s.f.line=2
 ·rw[if_pos h32];exact X8v s hw h
 rw[if_neg h32]
 by_cases h33:s.f.op=3∧s.f.line=3
 ·rw[if_pos h33];exact X8u s hw h
 rw[if_neg h33]
 by_cases h34:s.f.op=3∧s.f.line=4
 ·rw[if_pos h34];exact X8t s hw h
 rw[if_neg h34]
 by_cases h40:s.f.op=4∧s.f.line=0
 ·rw[if_pos h40];exact X8s s hw h
 rw[if_neg h40]
 by_cases h80:s.f.op=8∧s.f.line=0
 ·rw[if_pos h80];exact X8o s hw h
 rw[if_neg h80]
 by_cases h41:s.f.op=4∧s.f.line=1
 ·rw[if_pos h41];exact X8r s hw h
 rw[if_neg h41]
 by_cases h81:s.f.op=8∧s.f.line=1
 ·rw[if_pos h81];exact X8n s hw h
 rw[if_neg h81]
 by_cases h42:s.f.op=4∧s.f.line=2
 ·rw[if_pos h42];exact X8q s hw h
 rw[if_neg h42]
 by_cases h82:s.f.op=8∧s.f.line=2
 ·rw[if_pos h82];exact X8m s hw h
 rw[if_neg h82]
 by_cases h43:s.f.op=4∧s.f.line=3
 ·rw[if_pos h43];exact X8p s hw h
 rw[if_neg h43]
 by_cases h83:s.f.op=8∧s.f.line=3
 ·rw[if_pos h83];exact X8l s hw h
 rw[if_neg h83]
 by_cases h60:s.f.op=6∧s.f.line=0
 ·rw[if_pos h60];exact X1x s hw h
 rw[if_neg h60]
 by_cases h61:s.f.op=6∧s.f.line=1
 ·rw[if_pos h61];exact X1w s hw h
 rw[if_neg h61]
 by_cases h62:s.f.op=6∧s.f.line=2
 ·rw[if_pos h62];exact X1v s hw h
 rw[if_neg h62]
 by_cases h63:s.f.op=6∧s.f.line=3
 ·rw[if_pos h63];exact X1u s hw h
 rw[if_neg h63]
 by_cases h64:s.f.op=6∧s.f.line=4
 ·rw[if_pos h64];exact X5g s hw h
 rw[if_neg h64]
 by_cases h65:s.f.op=6∧s.f.line=5
 ·rw[if_pos h65];exact X1t s hw h
 rw[if_neg h65]
 by_cases h66:s.f.op=6∧s.f.line=6
 ·rw[if_pos h66];exact X1s s hw h
 rw[if_neg h66]
 by_cases h67:s.f.op=6∧s.f.line=7
 ·rw[if_pos h67];exact X5d s hw h
 rw[if_neg h67]
 by_cases h68:s.f.op=6∧s.f.line=8
 ·rw[if_pos h68];exact X5b s hw h
 rw[if_neg h68]
 by_cases h69:s.f.op=6∧s.f.line=9
 ·rw[if_pos h69];exact X1r s hw h
 rw[if_neg h69]
 by_cases h70:s.f.op=7∧s.f.line=0
 ·rw[if_pos h70];exact X1x s hw h
 rw[if_neg h70]
 by_cases h71:s.f.op=7∧s.f.line=1
 ·rw[if_pos h71];exact X1w s hw h
 rw[if_neg h71]
 by_cases h72:s.f.op=7∧s.f.line=2
 ·rw[if_pos h72];exact X1v s hw h
 rw[if_neg h72]
 by_cases h73:s.f.op=7∧s.f.line=3
 ·rw[if_pos h73];exact X1u s hw h
 rw[if_neg h73]
 by_cases h74:s.f.op=7∧s.f.line=4
 ·rw[if_pos h74];exact X5e s hw h
 rw[if_neg h74]
 by_cases h75:s.f.op=7∧s.f.line=5
 ·rw[if_pos h75];exact X1t s hw h
 rw[if_neg h75]
 by_cases h76:s.f.op=7∧s.f.line=6
 ·rw[if_pos h76];exact X1s s hw h
 rw[if_neg h76]
 by_cases h77:s.f.op=7∧s.f.line=7
 ·rw[if_pos h77];exact X5c s hw h
 rw[if_neg h77]
 by_cases h78:s.f.op=7∧s.f.line=8
 ·rw[if_pos h78];exact X4Z s hw h
 rw[if_neg h78]
 by_cases h79:s.f.op=7∧s.f.line=9
 ·rw[if_pos h79];exact X1r s hw h
 rw[if_neg h79]
 exact Q0f ⟨h,by simp⟩
end Go.Proofs.YthnimpkoidablaaGreat.Z
