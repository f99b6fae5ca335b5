/- The contracts of package pack's methods without loops. -/
import Derived.Test.YtpdgbpoplljpkaaPackBase
namespace Go.Proofs.Ytpdgbpoplljpkaa
open Go.RowKit
set_option linter.unusedVariables false
set_option linter.unusedSimpArgs false

set_option maxHeartbeats 400000 in
theorem outRaw_any (B base : Nat) (p : Option Addr) (n cap : Nat) (xs : List Int) (long : Bool) (q : Option Addr) (m c : Nat) (ys : List Int) (w : World) (h : OutAt w B base p n cap xs long) (hs : Src w q m ys) (hq : q = none → c = 0)
    (hn : n + m ≤ 140737488355328) (hbase : base ≤ w.heap.size) :
    Calls Try.prog 11 #[.pointer (some ⟨B, 0, none⟩), .slice q m c] w fun e w' => ∃ p' cap', e = .returned (.tuple #[]) ∧ OutAt w' B base p' (n + m) cap' (xs ++ ys) long ∧ Fr w w' (fun k => k = B ∨ some k = blk p) ∧ (∀ k, blk p' = some k → blk p = some k ∨ w.heap.size ≤ k) := by
  go_enter Try.func11, Try.ntmps11
  go_wp2_with (go_at_call 25; refine (put_any B base p n cap xs long q m c ys w h hs hq hn hbase).mono ?_; rintro e w' ⟨p', cap', rfl, h1, h2⟩)
  go_end0
  exact ⟨p', cap', rfl, h1, h2⟩

set_option maxHeartbeats 400000 in
theorem end_long (B base : Nat) (p : Option Addr) (n cap : Nat) (xs : List Int) (long : Bool) (w : World) (h : OutAt w B base p n cap xs long) (hl : long = true ∨ 16384 < (n : Int)) :
    Calls Try.prog 12 #[.pointer (some ⟨B, 0, none⟩)] w fun e w' => e = .returned (.tuple #[.slice none 0 0, .int .i64 3]) ∧ w = w' := by
  obtain ⟨hc, ho⟩ := h
  have c0 : w.cell? ⟨B, 0, none⟩ = some (.slice p n cap) := by rw [cell_of_row w B 0 _ _ _ hc]; rfl
  have c1 : w.cell? ⟨B, 1, none⟩ = some (.bool long) := by rw [cell_of_row w B _ _ _ _ hc]; rfl
  clear hc ho
  rcases hl with rfl | hl
  · go_enter Try.func12, Try.ntmps12
    go_wp2
    go_ret2
    exact ⟨rfl, rfl⟩
  · cases long
    · go_enter Try.func12, Try.ntmps12
      go_wp2
      go_ret2
      exact ⟨rfl, rfl⟩
    · go_enter Try.func12, Try.ntmps12
      go_wp2
      go_ret2
      exact ⟨rfl, rfl⟩

set_option maxHeartbeats 400000 in
theorem end_ok (B base : Nat) (p : Option Addr) (n cap : Nat) (xs : List Int) (w : World) (h : OutAt w B base p n cap xs false) (hl : (n : Int) ≤ 16384) :
    Calls Try.prog 12 #[.pointer (some ⟨B, 0, none⟩)] w fun e w' => ∃ p' cap', e = .returned (.tuple #[.slice p' n cap', .int .i64 0]) ∧ Own w' w.heap.size p' n cap' xs ∧ Below w.heap.size w w' := by
  obtain ⟨hc, ho⟩ := h
  have c0 : w.cell? ⟨B, 0, none⟩ = some (.slice p n cap) := by rw [cell_of_row w B 0 _ _ _ hc]; rfl
  have c1 : w.cell? ⟨B, 1, none⟩ = some (.bool false) := by rw [cell_of_row w B _ _ _ _ hc]; rfl
  have HS := Lib.hid ho.src
  have HN := Lib.hid (show p = none → n = 0 ∧ cap = 0 from fun e => by
    rcases ho.cases with ⟨_, h1, h2, _⟩ | ⟨g, _, e', _⟩
    · exact ⟨h1, h2⟩
    · rw [e] at e'; cases e')
  clear hc ho
  go_enter Try.func12, Try.ntmps12
  go_wp2_with (go_at_call 23; refine (clone_any p n cap xs w HS.out HN.out (by omega)).mono ?_; rintro e w' ⟨p', cap', rfl, h1, h2⟩)
  go_ret2
  exact ⟨p', cap', rfl, h1, h2⟩

set_option maxHeartbeats 400000 in
theorem fail_any (B : Nat) (p : Option Addr) (n cap : Nat) (xs : List Int) (bad : Bool) (w : World) (h : InAt w B p n cap xs bad) :
    Calls Try.prog 24 #[.pointer (some ⟨B, 0, none⟩)] w fun e w' => e = .returned (.tuple #[]) ∧ InAt w' B p n cap xs true ∧ Fr w w' (fun k => k = B) := by
  have hc := h.cells
  have c1 : w.cell? ⟨B, 1, none⟩ = some (.bool bad) := by rw [cell_of_row w B _ _ _ _ hc]; rfl
  have f1 : w.frozen? ⟨B, 1, none⟩ = false := frozen_of_row w B 1 _ _ hc
  have HC := Lib.hid hc
  have H := Lib.hid h
  clear hc h
  go_enter Try.func24, Try.ntmps24
  go_wp2
  go_end0
  refine ⟨rfl, ⟨by rw [heap_setCell_same w B 1 _ _ _ HC.out]; rfl, H.out.src.fr (Fr.setCell w ⟨B, 1, none⟩ _) ?_, H.out.le, H.out.nil, H.out.big⟩, Fr.setCell w ⟨B, 1, none⟩ _⟩
  exact fun hn a ha => InAt.ne H.out hn a ha

set_option maxHeartbeats 400000 in
theorem bad_any (B : Nat) (p : Option Addr) (n cap : Nat) (xs : List Int) (bad : Bool) (w : World) (h : InAt w B p n cap xs bad) :
    Calls Try.prog 18 #[.pointer (some ⟨B, 0, none⟩)] w fun e w' => e = .returned (.bool bad) ∧ w = w' := by
  have c1 : w.cell? ⟨B, 1, none⟩ = some (.bool bad) := by rw [cell_of_row w B _ _ _ _ h.cells]; rfl
  go_enter Try.func18, Try.ntmps18
  go_wp2
  go_ret
  exact ⟨rfl, rfl⟩

set_option maxHeartbeats 400000 in
theorem left_any (B : Nat) (p : Option Addr) (n cap : Nat) (xs : List Int) (bad : Bool) (w : World) (h : InAt w B p n cap xs bad) :
    Calls Try.prog 19 #[.pointer (some ⟨B, 0, none⟩)] w fun e w' => e = .returned (.int .i64 n) ∧ w = w' := by
  have c1 : w.cell? ⟨B, 0, none⟩ = some (.slice p n cap) := by rw [cell_of_row w B _ _ _ _ h.cells]; rfl
  go_enter Try.func19, Try.ntmps19
  go_wp2
  go_ret
  exact ⟨rfl, rfl⟩

set_option maxHeartbeats 400000 in
theorem over_any (B : Nat) (p : Option Addr) (n cap : Nat) (xs : List Int) (bad : Bool) (w : World) (h : InAt w B p n cap xs bad) :
    Calls Try.prog 13 #[.pointer (some ⟨B, 0, none⟩)] w fun e w' => e = .returned (.bool (!bad && ((n : Int) == 0))) ∧ w = w' := by
  have c0 : w.cell? ⟨B, 0, none⟩ = some (.slice p n cap) := by rw [cell_of_row w B _ _ _ _ h.cells]; rfl
  have c1 : w.cell? ⟨B, 1, none⟩ = some (.bool bad) := by rw [cell_of_row w B _ _ _ _ h.cells]; rfl
  cases bad
  all_goals
    go_enter Try.func13, Try.ntmps13
    go_wp2
    go_ret
    exact ⟨rfl, rfl⟩
end Go.Proofs.Ytpdgbpoplljpkaa
