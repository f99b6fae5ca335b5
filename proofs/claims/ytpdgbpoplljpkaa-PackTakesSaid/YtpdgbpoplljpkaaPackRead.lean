/- The contracts of pack.Read and In.Raw. -/
import Derived.Test.YtpdgbpoplljpkaaPackIn
namespace Go.Proofs.Ytpdgbpoplljpkaa
open Go.RowKit
set_option linter.unusedVariables false
set_option linter.unusedSimpArgs false

set_option maxHeartbeats 400000 in
theorem read_any (p : Option Addr) (n c : Nat) (xs : List Int) (w : World) (h : Src w p n xs) (hp : p = none → n = 0 ∧ c = 0) (hn : n ≤ 140737488355328) :
    Calls Try.prog 9 #[.slice p n c] w fun e w' => ∃ B p' cap', e = .returned (.pointer (some ⟨B, 0, none⟩)) ∧ InAt w' B p' n cap' xs false ∧ w.heap.size ≤ B ∧ Below w.heap.size w w' := by
  have HS := Lib.hid h
  have HP := Lib.hid hp
  clear h hp
  go_enter Try.func9, Try.ntmps9
  go_wp2_with (go_at_call 23; refine (clone_any p n c xs w HS.out HP.out hn).mono ?_; rintro e w1 ⟨p', cap', rfl, h1, h2⟩)
  go_ret
  refine ⟨_, p', cap', rfl, ⟨heap_alloc_new _ _, (h1.fr (Fr.alloc _ _) (fun _ _ h => h)).src, h1.le, ?_, hn⟩, h2.size, h2.trans ((below_alloc _ _).mono h2.size)⟩
  intro e
  rcases h1.cases with ⟨_, _, h, _⟩ | ⟨g, _, e', _⟩
  · exact h
  · rw [e] at e'; cases e'

set_option maxHeartbeats 400000 in
theorem inRaw_bad (B : Nat) (p : Option Addr) (n cap : Nat) (xs : List Int) (bad : Bool) (k : Int) (w : World) (h : InAt w B p n cap xs bad) (hk : bad = true ∨ k < 0 ∨ (n : Int) < k) :
    Calls Try.prog 10 #[.pointer (some ⟨B, 0, none⟩), .int .i64 k] w fun e w' => e = .returned (.slice none 0 0) ∧ InAt w' B p n cap xs true ∧ Fr w w' (fun k => k = B) := by
  have c0 : w.cell? ⟨B, 0, none⟩ = some (.slice p n cap) := by rw [cell_of_row w B _ _ _ _ h.cells]; rfl
  have c1 : w.cell? ⟨B, 1, none⟩ = some (.bool bad) := by rw [cell_of_row w B _ _ _ _ h.cells]; rfl
  have H := Lib.hid h
  clear h
  rcases (show bad = true ∨ (bad = false ∧ k < 0) ∨ (bad = false ∧ ¬ k < 0 ∧ (n : Int) < k) by cases bad <;> simp at hk ⊢; omega) with rfl | ⟨rfl, h2⟩ | ⟨rfl, h2, h3⟩
  all_goals
    clear hk
    go_enter Try.func10, Try.ntmps10
    go_wp2_with (go_at_call 24; refine (fail_any B p n cap xs _ w H.out).mono ?_; rintro e w1 ⟨rfl, h4, h5⟩)
    go_ret
    exact ⟨rfl, h4, h5⟩

set_option maxHeartbeats 400000 in
theorem inRaw_ok (B : Nat) (p : Option Addr) (n cap : Nat) (xs : List Int) (k : Nat) (w : World) (h : InAt w B p n cap xs false) (hk : k ≤ n) :
    Calls Try.prog 10 #[.pointer (some ⟨B, 0, none⟩), .int .i64 k] w fun e w' => ∃ p' cap' q, e = .returned (.slice p' k cap') ∧ Own w' w.heap.size p' k cap' (xs.take k) ∧ InAt w' B q (n - k) (cap - k) (xs.drop k) false ∧ Fr w w' (fun k => k = B) := by
  have hc := h.cells
  have hbB : B < w.heap.size := (Array.getElem?_eq_some_iff.1 hc).1
  have c0 : w.cell? ⟨B, 0, none⟩ = some (.slice p n cap) := by rw [cell_of_row w B _ _ _ _ hc]; rfl
  have c1 : w.cell? ⟨B, 1, none⟩ = some (.bool false) := by rw [cell_of_row w B _ _ _ _ hc]; rfl
  have hle := h.le
  have hbig := h.big
  have st := slice_to 22 Try.underlying22 Try.sizeOf5 p n cap k (by omega)
  obtain ⟨q, sf, hq1, hq2, hq3⟩ := slice_from 22 Try.underlying22 Try.sizeOf5 h.src k hk hle
  have HT := Lib.hid (h.src.take k hk)
  have HQ1 := Lib.hid hq1
  have HQ2 := Lib.hid hq2
  have HQ3 := Lib.hid hq3
  have H := Lib.hid h
  have HP := Lib.hid (show p = none → k = 0 ∧ cap = 0 from fun e => ⟨by have := h.nil e; omega, h.nil e⟩)
  clear h hc hq1 hq2 hq3
  go_enter Try.func10, Try.ntmps10
  go_wp2_with (go_at_call 23; refine (clone_any p k cap (xs.take k) w HT.out HP.out (by omega)).mono ?_; rintro e w1 ⟨p', cap', rfl, h1, h2⟩; have hc := h2.block B hbB; have d0 : w1.cell? ⟨B, 0, none⟩ = some (.slice p n cap) := (h2.cell (p := ⟨B, 0, none⟩) hbB).trans c0; have f0 : w1.frozen? ⟨B, 0, none⟩ = false := (h2.frozen (p := ⟨B, 0, none⟩) hbB).trans (frozen_of_row w B 0 _ _ H.out.cells); clear c0 c1 hc)
  go_ret
  have hw1 : w1.heap[B]? = some (.cells #[.slice p n cap, .bool false] 55 (0, 0)) := (h2.block B hbB).trans H.out.cells
  refine ⟨p', cap', q, rfl, h1.fr (Fr.setCell w1 ⟨B, 0, none⟩ _) ?_, ⟨?_, ((HQ1.out).below h2).fr (Fr.setCell w1 ⟨B, 0, none⟩ _) ?_, by omega, ?_, by omega⟩, ((Fr.of_below h2).trans (Fr.setCell w1 ⟨B, 0, none⟩ _)).mono ?_⟩
  · intro g hg e
    have := (h1.lt g hg).1
    simp only at e
    omega
  · rw [heap_setCell_same w1 B 0 _ _ _ hw1]; rfl
  · intro hpos a ha
    obtain ⟨b, hb1, hb2⟩ := HQ3.out a ha
    rw [hb2]
    exact H.out.ne (by omega) b hb1
  · intro e
    have := H.out.nil (HQ2.out.1 e)
    omega
  · intro i _ hi
    rcases hi with hi | hi
    · exact hi.elim
    · exact hi
end Go.Proofs.Ytpdgbpoplljpkaa
