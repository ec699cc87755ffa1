/- Package tf: what a line keeps. Written by gentf2.py. -/
import Derived.Test.YtdffdppkdbbdoaaZTfAll
set_option linter.unusedVariables false
set_option linter.unusedSimpArgs false
namespace Go.Proofs.Ytdffdppkdbbdoaa.Z
open Go.RowKit

set_option maxHeartbeats 800000 in
theorem tf10_fine (s : Rn) (hw : Words s.L) (h : I64 s.n ∧ (0 ≤ s.f.a ∧ s.f.a < 4294967296) ∧ (0 ≤ s.f.b ∧ s.f.b < 4294967296)) : Fine s (tf10 s) := by
  have hold := fun b => doA_old s.L hw b
  obtain ⟨h1, h2, h3⟩ := h
  unfold tf10 tfTicket
  (try dsimp only)
  (repeat' split) <;> first
    | exact fine_mk ⟨⟨h1, h2, h3⟩, by simp [tfTicket, tfEnter, Rn.noted, Rn.did, Rn.setA, Rn.setB, Rn.note, Rn.goto, Rn.fin, Rn.wake, Rn.waited]⟩
    | exact fine_mk ⟨⟨h1, hold _, h3⟩, by simp [tfTicket, tfEnter, Rn.noted, Rn.did, Rn.setA, Rn.setB, Rn.note, Rn.goto, Rn.fin, Rn.wake, Rn.waited]⟩
    | exact fine_mk ⟨⟨h1, h2, hold _⟩, by simp [tfTicket, tfEnter, Rn.noted, Rn.did, Rn.setA, Rn.setB, Rn.note, Rn.goto, Rn.fin, Rn.wake, Rn.waited]⟩

set_option maxHeartbeats 800000 in
theorem tf11_fine (s : Rn) (hw : Words s.L) (h : I64 s.n ∧ (0 ≤ s.f.a ∧ s.f.a < 4294967296) ∧ (0 ≤ s.f.b ∧ s.f.b < 4294967296)) : Fine s (tf11 s) := by
  have hold := fun b => doA_old s.L hw b
  obtain ⟨h1, h2, h3⟩ := h
  unfold tf11
  (try dsimp only)
  (repeat' split) <;> first
    | exact fine_mk ⟨⟨h1, h2, h3⟩, by simp [tfTicket, tfEnter, Rn.noted, Rn.did, Rn.setA, Rn.setB, Rn.note, Rn.goto, Rn.fin, Rn.wake, Rn.waited]⟩
    | exact fine_mk ⟨⟨h1, hold _, h3⟩, by simp [tfTicket, tfEnter, Rn.noted, Rn.did, Rn.setA, Rn.setB, Rn.note, Rn.goto, Rn.fin, Rn.wake, Rn.waited]⟩
    | exact fine_mk ⟨⟨h1, h2, hold _⟩, by simp [tfTicket, tfEnter, Rn.noted, Rn.did, Rn.setA, Rn.setB, Rn.note, Rn.goto, Rn.fin, Rn.wake, Rn.waited]⟩

set_option maxHeartbeats 800000 in
theorem tf12_fine (s : Rn) (hw : Words s.L) (h : I64 s.n ∧ (0 ≤ s.f.a ∧ s.f.a < 4294967296) ∧ (0 ≤ s.f.b ∧ s.f.b < 4294967296)) : Fine s (tf12 s) := by
  have hold := fun b => doA_old s.L hw b
  obtain ⟨h1, h2, h3⟩ := h
  unfold tf12 tfEnter
  (try dsimp only)
  (repeat' split) <;> first
    | exact fine_mk ⟨⟨h1, h2, h3⟩, by simp [tfTicket, tfEnter, Rn.noted, Rn.did, Rn.setA, Rn.setB, Rn.note, Rn.goto, Rn.fin, Rn.wake, Rn.waited]⟩
    | exact fine_mk ⟨⟨h1, hold _, h3⟩, by simp [tfTicket, tfEnter, Rn.noted, Rn.did, Rn.setA, Rn.setB, Rn.note, Rn.goto, Rn.fin, Rn.wake, Rn.waited]⟩
    | exact fine_mk ⟨⟨h1, h2, hold _⟩, by simp [tfTicket, tfEnter, Rn.noted, Rn.did, Rn.setA, Rn.setB, Rn.note, Rn.goto, Rn.fin, Rn.wake, Rn.waited]⟩

set_option maxHeartbeats 800000 in
theorem tf53_fine (s : Rn) (hw : Words s.L) (h : I64 s.n ∧ (0 ≤ s.f.a ∧ s.f.a < 4294967296) ∧ (0 ≤ s.f.b ∧ s.f.b < 4294967296)) : Fine s (tf53 s) := by
  have hold := fun b => doA_old s.L hw b
  obtain ⟨h1, h2, h3⟩ := h
  unfold tf53 tfEnter
  (try dsimp only)
  (repeat' split) <;> first
    | exact fine_mk ⟨⟨h1, h2, h3⟩, by simp [tfTicket, tfEnter, Rn.noted, Rn.did, Rn.setA, Rn.setB, Rn.note, Rn.goto, Rn.fin, Rn.wake, Rn.waited]⟩
    | exact fine_mk ⟨⟨h1, hold _, h3⟩, by simp [tfTicket, tfEnter, Rn.noted, Rn.did, Rn.setA, Rn.setB, Rn.note, Rn.goto, Rn.fin, Rn.wake, Rn.waited]⟩
    | exact fine_mk ⟨⟨h1, h2, hold _⟩, by simp [tfTicket, tfEnter, Rn.noted, Rn.did, Rn.setA, Rn.setB, Rn.note, Rn.goto, Rn.fin, Rn.wake, Rn.waited]⟩

set_option maxHeartbeats 800000 in
theorem tf80_fine (s : Rn) (hw : Words s.L) (h : I64 s.n ∧ (0 ≤ s.f.a ∧ s.f.a < 4294967296) ∧ (0 ≤ s.f.b ∧ s.f.b < 4294967296)) : Fine s (tf80 s) := by
  have hold := fun b => doA_old s.L hw b
  obtain ⟨h1, h2, h3⟩ := h
  unfold tf80 tfEnter
  (try dsimp only)
  (repeat' split) <;> first
    | exact fine_mk ⟨⟨h1, h2, h3⟩, by simp [tfTicket, tfEnter, Rn.noted, Rn.did, Rn.setA, Rn.setB, Rn.note, Rn.goto, Rn.fin, Rn.wake, Rn.waited]⟩
    | exact fine_mk ⟨⟨h1, hold _, h3⟩, by simp [tfTicket, tfEnter, Rn.noted, Rn.did, Rn.setA, Rn.setB, Rn.note, Rn.goto, Rn.fin, Rn.wake, Rn.waited]⟩
    | exact fine_mk ⟨⟨h1, h2, hold _⟩, by simp [tfTicket, tfEnter, Rn.noted, Rn.did, Rn.setA, Rn.setB, Rn.note, Rn.goto, Rn.fin, Rn.wake, Rn.waited]⟩

set_option maxHeartbeats 800000 in
theorem tf20_fine (s : Rn) (hw : Words s.L) (h : I64 s.n ∧ (0 ≤ s.f.a ∧ s.f.a < 4294967296) ∧ (0 ≤ s.f.b ∧ s.f.b < 4294967296)) : Fine s (tf20 s) := by
  have hold := fun b => doA_old s.L hw b
  obtain ⟨h1, h2, h3⟩ := h
  unfold tf20
  (try dsimp only)
  (repeat' split) <;> first
    | exact fine_mk ⟨⟨h1, h2, h3⟩, by simp [tfTicket, tfEnter, Rn.noted, Rn.did, Rn.setA, Rn.setB, Rn.note, Rn.goto, Rn.fin, Rn.wake, Rn.waited]⟩
    | exact fine_mk ⟨⟨h1, hold _, h3⟩, by simp [tfTicket, tfEnter, Rn.noted, Rn.did, Rn.setA, Rn.setB, Rn.note, Rn.goto, Rn.fin, Rn.wake, Rn.waited]⟩
    | exact fine_mk ⟨⟨h1, h2, hold _⟩, by simp [tfTicket, tfEnter, Rn.noted, Rn.did, Rn.setA, Rn.setB, Rn.note, Rn.goto, Rn.fin, Rn.wake, Rn.waited]⟩

set_option maxHeartbeats 800000 in
theorem tf30_fine (s : Rn) (hw : Words s.L) (h : I64 s.n ∧ (0 ≤ s.f.a ∧ s.f.a < 4294967296) ∧ (0 ≤ s.f.b ∧ s.f.b < 4294967296)) : Fine s (tf30 s) := by
  have hold := fun b => doA_old s.L hw b
  obtain ⟨h1, h2, h3⟩ := h
  unfold tf30 tfTicket
  (try dsimp only)
  (repeat' split) <;> first
    | exact fine_mk ⟨⟨h1, h2, h3⟩, by simp [tfTicket, tfEnter, Rn.noted, Rn.did, Rn.setA, Rn.setB, Rn.note, Rn.goto, Rn.fin, Rn.wake, Rn.waited]⟩
    | exact fine_mk ⟨⟨h1, hold _, h3⟩, by simp [tfTicket, tfEnter, Rn.noted, Rn.did, Rn.setA, Rn.setB, Rn.note, Rn.goto, Rn.fin, Rn.wake, Rn.waited]⟩
    | exact fine_mk ⟨⟨h1, h2, hold _⟩, by simp [tfTicket, tfEnter, Rn.noted, Rn.did, Rn.setA, Rn.setB, Rn.note, Rn.goto, Rn.fin, Rn.wake, Rn.waited]⟩

set_option maxHeartbeats 800000 in
theorem tf31_fine (s : Rn) (hw : Words s.L) (h : I64 s.n ∧ (0 ≤ s.f.a ∧ s.f.a < 4294967296) ∧ (0 ≤ s.f.b ∧ s.f.b < 4294967296)) : Fine s (tf31 s) := by
  have hold := fun b => doA_old s.L hw b
  obtain ⟨h1, h2, h3⟩ := h
  unfold tf31
  (try dsimp only)
  (repeat' split) <;> first
    | exact fine_mk ⟨⟨h1, h2, h3⟩, by simp [tfTicket, tfEnter, Rn.noted, Rn.did, Rn.setA, Rn.setB, Rn.note, Rn.goto, Rn.fin, Rn.wake, Rn.waited]⟩
    | exact fine_mk ⟨⟨h1, hold _, h3⟩, by simp [tfTicket, tfEnter, Rn.noted, Rn.did, Rn.setA, Rn.setB, Rn.note, Rn.goto, Rn.fin, Rn.wake, Rn.waited]⟩
    | exact fine_mk ⟨⟨h1, h2, hold _⟩, by simp [tfTicket, tfEnter, Rn.noted, Rn.did, Rn.setA, Rn.setB, Rn.note, Rn.goto, Rn.fin, Rn.wake, Rn.waited]⟩

set_option maxHeartbeats 800000 in
theorem tf40_fine (s : Rn) (hw : Words s.L) (h : I64 s.n ∧ (0 ≤ s.f.a ∧ s.f.a < 4294967296) ∧ (0 ≤ s.f.b ∧ s.f.b < 4294967296)) : Fine s (tf40 s) := by
  have hold := fun b => doA_old s.L hw b
  obtain ⟨h1, h2, h3⟩ := h
  unfold tf40
  (try dsimp only)
  (repeat' split) <;> first
    | exact fine_mk ⟨⟨h1, h2, h3⟩, by simp [tfTicket, tfEnter, Rn.noted, Rn.did, Rn.setA, Rn.setB, Rn.note, Rn.goto, Rn.fin, Rn.wake, Rn.waited]⟩
    | exact fine_mk ⟨⟨h1, hold _, h3⟩, by simp [tfTicket, tfEnter, Rn.noted, Rn.did, Rn.setA, Rn.setB, Rn.note, Rn.goto, Rn.fin, Rn.wake, Rn.waited]⟩
    | exact fine_mk ⟨⟨h1, h2, hold _⟩, by simp [tfTicket, tfEnter, Rn.noted, Rn.did, Rn.setA, Rn.setB, Rn.note, Rn.goto, Rn.fin, Rn.wake, Rn.waited]⟩

set_option maxHeartbeats 800000 in
theorem tf41_fine (s : Rn) (hw : Words s.L) (h : I64 s.n ∧ (0 ≤ s.f.a ∧ s.f.a < 4294967296) ∧ (0 ≤ s.f.b ∧ s.f.b < 4294967296)) : Fine s (tf41 s) := by
  have hold := fun b => doA_old s.L hw b
  obtain ⟨h1, h2, h3⟩ := h
  unfold tf41
  (try dsimp only)
  (repeat' split) <;> first
    | exact fine_mk ⟨⟨h1, h2, h3⟩, by simp [tfTicket, tfEnter, Rn.noted, Rn.did, Rn.setA, Rn.setB, Rn.note, Rn.goto, Rn.fin, Rn.wake, Rn.waited]⟩
    | exact fine_mk ⟨⟨h1, hold _, h3⟩, by simp [tfTicket, tfEnter, Rn.noted, Rn.did, Rn.setA, Rn.setB, Rn.note, Rn.goto, Rn.fin, Rn.wake, Rn.waited]⟩
    | exact fine_mk ⟨⟨h1, h2, hold _⟩, by simp [tfTicket, tfEnter, Rn.noted, Rn.did, Rn.setA, Rn.setB, Rn.note, Rn.goto, Rn.fin, Rn.wake, Rn.waited]⟩

set_option maxHeartbeats 800000 in
theorem tf50_fine (s : Rn) (hw : Words s.L) (h : I64 s.n ∧ (0 ≤ s.f.a ∧ s.f.a < 4294967296) ∧ (0 ≤ s.f.b ∧ s.f.b < 4294967296)) : Fine s (tf50 s) := by
  have hold := fun b => doA_old s.L hw b
  obtain ⟨h1, h2, h3⟩ := h
  unfold tf50
  (try dsimp only)
  (repeat' split) <;> first
    | exact fine_mk ⟨⟨h1, h2, h3⟩, by simp [tfTicket, tfEnter, Rn.noted, Rn.did, Rn.setA, Rn.setB, Rn.note, Rn.goto, Rn.fin, Rn.wake, Rn.waited]⟩
    | exact fine_mk ⟨⟨h1, hold _, h3⟩, by simp [tfTicket, tfEnter, Rn.noted, Rn.did, Rn.setA, Rn.setB, Rn.note, Rn.goto, Rn.fin, Rn.wake, Rn.waited]⟩
    | exact fine_mk ⟨⟨h1, h2, hold _⟩, by simp [tfTicket, tfEnter, Rn.noted, Rn.did, Rn.setA, Rn.setB, Rn.note, Rn.goto, Rn.fin, Rn.wake, Rn.waited]⟩

set_option maxHeartbeats 800000 in
theorem tf60_fine (s : Rn) (hw : Words s.L) (h : I64 s.n ∧ (0 ≤ s.f.a ∧ s.f.a < 4294967296) ∧ (0 ≤ s.f.b ∧ s.f.b < 4294967296)) : Fine s (tf60 s) := by
  have hold := fun b => doA_old s.L hw b
  obtain ⟨h1, h2, h3⟩ := h
  unfold tf60
  (try dsimp only)
  (repeat' split) <;> first
    | exact fine_mk ⟨⟨h1, h2, h3⟩, by simp [tfTicket, tfEnter, Rn.noted, Rn.did, Rn.setA, Rn.setB, Rn.note, Rn.goto, Rn.fin, Rn.wake, Rn.waited]⟩
    | exact fine_mk ⟨⟨h1, hold _, h3⟩, by simp [tfTicket, tfEnter, Rn.noted, Rn.did, Rn.setA, Rn.setB, Rn.note, Rn.goto, Rn.fin, Rn.wake, Rn.waited]⟩
    | exact fine_mk ⟨⟨h1, h2, hold _⟩, by simp [tfTicket, tfEnter, Rn.noted, Rn.did, Rn.setA, Rn.setB, Rn.note, Rn.goto, Rn.fin, Rn.wake, Rn.waited]⟩

set_option maxHeartbeats 800000 in
theorem tf70_fine (s : Rn) (hw : Words s.L) (h : I64 s.n ∧ (0 ≤ s.f.a ∧ s.f.a < 4294967296) ∧ (0 ≤ s.f.b ∧ s.f.b < 4294967296)) : Fine s (tf70 s) := by
  have hold := fun b => doA_old s.L hw b
  obtain ⟨h1, h2, h3⟩ := h
  unfold tf70
  (try dsimp only)
  (repeat' split) <;> first
    | exact fine_mk ⟨⟨h1, h2, h3⟩, by simp [tfTicket, tfEnter, Rn.noted, Rn.did, Rn.setA, Rn.setB, Rn.note, Rn.goto, Rn.fin, Rn.wake, Rn.waited]⟩
    | exact fine_mk ⟨⟨h1, hold _, h3⟩, by simp [tfTicket, tfEnter, Rn.noted, Rn.did, Rn.setA, Rn.setB, Rn.note, Rn.goto, Rn.fin, Rn.wake, Rn.waited]⟩
    | exact fine_mk ⟨⟨h1, h2, hold _⟩, by simp [tfTicket, tfEnter, Rn.noted, Rn.did, Rn.setA, Rn.setB, Rn.note, Rn.goto, Rn.fin, Rn.wake, Rn.waited]⟩

set_option maxHeartbeats 800000 in
theorem tf51_fine (s : Rn) (hw : Words s.L) (h : I64 s.n ∧ (0 ≤ s.f.a ∧ s.f.a < 4294967296) ∧ (0 ≤ s.f.b ∧ s.f.b < 4294967296)) : Fine s (tf51 s) := by
  have hold := fun b => doA_old s.L hw b
  obtain ⟨h1, h2, h3⟩ := h
  unfold tf51 tfLook
  (try dsimp only)
  (repeat' split) <;> first
    | exact fine_mk ⟨⟨h1, h2, h3⟩, by simp [tfTicket, tfEnter, Rn.noted, Rn.did, Rn.setA, Rn.setB, Rn.note, Rn.goto, Rn.fin, Rn.wake, Rn.waited]⟩
    | exact fine_mk ⟨⟨h1, hold _, h3⟩, by simp [tfTicket, tfEnter, Rn.noted, Rn.did, Rn.setA, Rn.setB, Rn.note, Rn.goto, Rn.fin, Rn.wake, Rn.waited]⟩
    | exact fine_mk ⟨⟨h1, h2, hold _⟩, by simp [tfTicket, tfEnter, Rn.noted, Rn.did, Rn.setA, Rn.setB, Rn.note, Rn.goto, Rn.fin, Rn.wake, Rn.waited]⟩

set_option maxHeartbeats 800000 in
theorem tf61_fine (s : Rn) (hw : Words s.L) (h : I64 s.n ∧ (0 ≤ s.f.a ∧ s.f.a < 4294967296) ∧ (0 ≤ s.f.b ∧ s.f.b < 4294967296)) : Fine s (tf61 s) := by
  have hold := fun b => doA_old s.L hw b
  obtain ⟨h1, h2, h3⟩ := h
  unfold tf61 tfLook
  (try dsimp only)
  (repeat' split) <;> first
    | exact fine_mk ⟨⟨h1, h2, h3⟩, by simp [tfTicket, tfEnter, Rn.noted, Rn.did, Rn.setA, Rn.setB, Rn.note, Rn.goto, Rn.fin, Rn.wake, Rn.waited]⟩
    | exact fine_mk ⟨⟨h1, hold _, h3⟩, by simp [tfTicket, tfEnter, Rn.noted, Rn.did, Rn.setA, Rn.setB, Rn.note, Rn.goto, Rn.fin, Rn.wake, Rn.waited]⟩
    | exact fine_mk ⟨⟨h1, h2, hold _⟩, by simp [tfTicket, tfEnter, Rn.noted, Rn.did, Rn.setA, Rn.setB, Rn.note, Rn.goto, Rn.fin, Rn.wake, Rn.waited]⟩

set_option maxHeartbeats 800000 in
theorem tf71_fine (s : Rn) (hw : Words s.L) (h : I64 s.n ∧ (0 ≤ s.f.a ∧ s.f.a < 4294967296) ∧ (0 ≤ s.f.b ∧ s.f.b < 4294967296)) : Fine s (tf71 s) := by
  have hold := fun b => doA_old s.L hw b
  obtain ⟨h1, h2, h3⟩ := h
  unfold tf71 tfLook
  (try dsimp only)
  (repeat' split) <;> first
    | exact fine_mk ⟨⟨h1, h2, h3⟩, by simp [tfTicket, tfEnter, Rn.noted, Rn.did, Rn.setA, Rn.setB, Rn.note, Rn.goto, Rn.fin, Rn.wake, Rn.waited]⟩
    | exact fine_mk ⟨⟨h1, hold _, h3⟩, by simp [tfTicket, tfEnter, Rn.noted, Rn.did, Rn.setA, Rn.setB, Rn.note, Rn.goto, Rn.fin, Rn.wake, Rn.waited]⟩
    | exact fine_mk ⟨⟨h1, h2, hold _⟩, by simp [tfTicket, tfEnter, Rn.noted, Rn.did, Rn.setA, Rn.setB, Rn.note, Rn.goto, Rn.fin, Rn.wake, Rn.waited]⟩

set_option maxHeartbeats 800000 in
theorem tf52_fine (s : Rn) (hw : Words s.L) (h : I64 s.n ∧ (0 ≤ s.f.a ∧ s.f.a < 4294967296) ∧ (0 ≤ s.f.b ∧ s.f.b < 4294967296)) : Fine s (tf52 s) := by
  have hold := fun b => doA_old s.L hw b
  obtain ⟨h1, h2, h3⟩ := h
  unfold tf52 tfTake
  (try dsimp only)
  (repeat' split) <;> first
    | exact fine_mk ⟨⟨h1, h2, h3⟩, by simp [tfTicket, tfEnter, Rn.noted, Rn.did, Rn.setA, Rn.setB, Rn.note, Rn.goto, Rn.fin, Rn.wake, Rn.waited]⟩
    | exact fine_mk ⟨⟨h1, hold _, h3⟩, by simp [tfTicket, tfEnter, Rn.noted, Rn.did, Rn.setA, Rn.setB, Rn.note, Rn.goto, Rn.fin, Rn.wake, Rn.waited]⟩
    | exact fine_mk ⟨⟨h1, h2, hold _⟩, by simp [tfTicket, tfEnter, Rn.noted, Rn.did, Rn.setA, Rn.setB, Rn.note, Rn.goto, Rn.fin, Rn.wake, Rn.waited]⟩

set_option maxHeartbeats 800000 in
theorem tf62_fine (s : Rn) (hw : Words s.L) (h : I64 s.n ∧ (0 ≤ s.f.a ∧ s.f.a < 4294967296) ∧ (0 ≤ s.f.b ∧ s.f.b < 4294967296)) : Fine s (tf62 s) := by
  have hold := fun b => doA_old s.L hw b
  obtain ⟨h1, h2, h3⟩ := h
  unfold tf62 tfTake
  (try dsimp only)
  (repeat' split) <;> first
    | exact fine_mk ⟨⟨h1, h2, h3⟩, by simp [tfTicket, tfEnter, Rn.noted, Rn.did, Rn.setA, Rn.setB, Rn.note, Rn.goto, Rn.fin, Rn.wake, Rn.waited]⟩
    | exact fine_mk ⟨⟨h1, hold _, h3⟩, by simp [tfTicket, tfEnter, Rn.noted, Rn.did, Rn.setA, Rn.setB, Rn.note, Rn.goto, Rn.fin, Rn.wake, Rn.waited]⟩
    | exact fine_mk ⟨⟨h1, h2, hold _⟩, by simp [tfTicket, tfEnter, Rn.noted, Rn.did, Rn.setA, Rn.setB, Rn.note, Rn.goto, Rn.fin, Rn.wake, Rn.waited]⟩

set_option maxHeartbeats 800000 in
theorem tf72_fine (s : Rn) (hw : Words s.L) (h : I64 s.n ∧ (0 ≤ s.f.a ∧ s.f.a < 4294967296) ∧ (0 ≤ s.f.b ∧ s.f.b < 4294967296)) : Fine s (tf72 s) := by
  have hold := fun b => doA_old s.L hw b
  obtain ⟨h1, h2, h3⟩ := h
  unfold tf72 tfTake
  (try dsimp only)
  (repeat' split) <;> first
    | exact fine_mk ⟨⟨h1, h2, h3⟩, by simp [tfTicket, tfEnter, Rn.noted, Rn.did, Rn.setA, Rn.setB, Rn.note, Rn.goto, Rn.fin, Rn.wake, Rn.waited]⟩
    | exact fine_mk ⟨⟨h1, hold _, h3⟩, by simp [tfTicket, tfEnter, Rn.noted, Rn.did, Rn.setA, Rn.setB, Rn.note, Rn.goto, Rn.fin, Rn.wake, Rn.waited]⟩
    | exact fine_mk ⟨⟨h1, h2, hold _⟩, by simp [tfTicket, tfEnter, Rn.noted, Rn.did, Rn.setA, Rn.setB, Rn.note, Rn.goto, Rn.fin, Rn.wake, Rn.waited]⟩

set_option maxHeartbeats 800000 in
theorem tf73_fine (s : Rn) (hw : Words s.L) (h : I64 s.n ∧ (0 ≤ s.f.a ∧ s.f.a < 4294967296) ∧ (0 ≤ s.f.b ∧ s.f.b < 4294967296)) : Fine s (tf73 s) := by
  have hold := fun b => doA_old s.L hw b
  obtain ⟨h1, h2, h3⟩ := h
  unfold tf73
  (try dsimp only)
  (repeat' split) <;> first
    | exact fine_mk ⟨⟨h1, h2, h3⟩, by simp [tfTicket, tfEnter, Rn.noted, Rn.did, Rn.setA, Rn.setB, Rn.note, Rn.goto, Rn.fin, Rn.wake, Rn.waited]⟩
    | exact fine_mk ⟨⟨h1, hold _, h3⟩, by simp [tfTicket, tfEnter, Rn.noted, Rn.did, Rn.setA, Rn.setB, Rn.note, Rn.goto, Rn.fin, Rn.wake, Rn.waited]⟩
    | exact fine_mk ⟨⟨h1, h2, hold _⟩, by simp [tfTicket, tfEnter, Rn.noted, Rn.did, Rn.setA, Rn.setB, Rn.note, Rn.goto, Rn.fin, Rn.wake, Rn.waited]⟩

/-- What is kept stays words; few notes come. -/
theorem tfA_fine (s : Rn) (hw : Words s.L) (h : I64 s.n ∧ (0 ≤ s.f.a ∧ s.f.a < 4294967296) ∧ (0 ≤ s.f.b ∧ s.f.b < 4294967296)) : (I64 (tfA s).n ∧ (0 ≤ (tfA s).f.a ∧ (tfA s).f.a < 4294967296) ∧ (0 ≤ (tfA s).f.b ∧ (tfA s).f.b < 4294967296)) ∧ (tfA s).notes.length ≤ s.notes.length + 10 := by
  suffices h0 : Fine s (tfA s) from h0
  unfold tfA
  by_cases h10 : s.f.op = 1 ∧ s.f.line = 0
  · rw [if_pos h10]; exact tf10_fine s hw h
  rw [if_neg h10]
  by_cases h11 : s.f.op = 1 ∧ s.f.line = 1
  · rw [if_pos h11]; exact tf11_fine s hw h
  rw [if_neg h11]
  by_cases h12 : s.f.op = 1 ∧ s.f.line = 2
  · rw [if_pos h12]; exact tf12_fine s hw h
  rw [if_neg h12]
  by_cases h53 : s.f.op = 5 ∧ s.f.line = 3
  · rw [if_pos h53]; exact tf53_fine s hw h
  rw [if_neg h53]
  by_cases h80 : s.f.op = 8 ∧ s.f.line = 0
  · rw [if_pos h80]; exact tf80_fine s hw h
  rw [if_neg h80]
  by_cases h20 : s.f.op = 2 ∧ s.f.line = 0
  · rw [if_pos h20]; exact tf20_fine s hw h
  rw [if_neg h20]
  by_cases h30 : s.f.op = 3 ∧ s.f.line = 0
  · rw [if_pos h30]; exact tf30_fine s hw h
  rw [if_neg h30]
  by_cases h31 : s.f.op = 3 ∧ s.f.line = 1
  · rw [if_pos h31]; exact tf31_fine s hw h
  rw [if_neg h31]
  by_cases h40 : s.f.op = 4 ∧ s.f.line = 0
  · rw [if_pos h40]; exact tf40_fine s hw h
  rw [if_neg h40]
  by_cases h41 : s.f.op = 4 ∧ s.f.line = 1
  · rw [if_pos h41]; exact tf41_fine s hw h
  rw [if_neg h41]
  by_cases h50 : s.f.op = 5 ∧ s.f.line = 0
  · rw [if_pos h50]; exact tf50_fine s hw h
  rw [if_neg h50]
  by_cases h60 : s.f.op = 6 ∧ s.f.line = 0
  · rw [if_pos h60]; exact tf60_fine s hw h
  rw [if_neg h60]
  by_cases h70 : s.f.op = 7 ∧ s.f.line = 0
  · rw [if_pos h70]; exact tf70_fine s hw h
  rw [if_neg h70]
  by_cases h51 : s.f.op = 5 ∧ s.f.line = 1
  · rw [if_pos h51]; exact tf51_fine s hw h
  rw [if_neg h51]
  by_cases h61 : s.f.op = 6 ∧ s.f.line = 1
  · rw [if_pos h61]; exact tf61_fine s hw h
  rw [if_neg h61]
  by_cases h71 : s.f.op = 7 ∧ s.f.line = 1
  · rw [if_pos h71]; exact tf71_fine s hw h
  rw [if_neg h71]
  by_cases h52 : s.f.op = 5 ∧ s.f.line = 2
  · rw [if_pos h52]; exact tf52_fine s hw h
  rw [if_neg h52]
  by_cases h62 : s.f.op = 6 ∧ s.f.line = 2
  · rw [if_pos h62]; exact tf62_fine s hw h
  rw [if_neg h62]
  by_cases h72 : s.f.op = 7 ∧ s.f.line = 2
  · rw [if_pos h72]; exact tf72_fine s hw h
  rw [if_neg h72]
  by_cases h73 : s.f.op = 7 ∧ s.f.line = 3
  · rw [if_pos h73]; exact tf73_fine s hw h
  rw [if_neg h73]
  exact fine_mk ⟨h, by simp⟩

end Go.Proofs.Ytdffdppkdbbdoaa.Z
