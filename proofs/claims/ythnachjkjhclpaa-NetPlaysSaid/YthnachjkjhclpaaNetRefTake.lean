/- The contract of the reference's Take. -/
import Derived.Test.YthnachjkjhclpaaNetTurn
import Derived.Test.YthnachjkjhclpaaNetTake
import Derived.Test.YthnachjkjhclpaaNetWay
namespace Go.Proofs.Ythnachjkjhclpaa
open Go.RowKit
set_option linter.unusedVariables false
set_option linter.unusedSimpArgs false

set_option maxRecDepth 100000 in
set_option maxHeartbeats 800000 in
theorem refTake_none (B : Nat) (p : Option Addr) (cap : Nat) (i : Int) (w : World) (c0 : w.cell? ⟨B, 0, none⟩ = some (.slice p 0 cap)) :
    Calls Try.prog 18 #[.pointer (some ⟨B, 0, none⟩), .int .i64 i] w fun e w' => e = .returned (.tuple #[.agg #[.int .i64 0, .int .i64 0, .slice none 0 0], .bool false]) ∧ Below w.heap.size w w' := by
  have hBlt : B < w.heap.size := block_lt_of_cell c0
  have c1 := (Fr.alloc w (.cells #[.int .i64 0, .int .i64 0, .slice none 0 0] 27)).cell c0 (fun h => h)
  have K := Lib.hid (refPlace_none B p cap i (w.alloc (.cells #[.int .i64 0, .int .i64 0, .slice none 0 0] 27)) c1)
  go_enter Try.func18, Try.ntmps18
  go_wp2_with fail
  refine K.out.mono ?_
  rintro e w' ⟨rfl, rfl⟩
  go_wp2
  refine bodyPost_ret (v := .tuple #[.agg #[.int .i64 0, .int .i64 0, .slice none 0 0], .bool false]) (by simp [results, Try.results18, go_sem]) rfl ⟨rfl, below_alloc _ _⟩

theorem Try.sizeOf27 (w : World) : (sizeOf 27).run Try.prog w = .ok 3 w := by kernel_rfl
theorem slice34_from (g n cap k : Nat) (hk : k ≤ n) (hnc : n ≤ cap) : ∃ ad : Addr, (∀ w', (Instr.slice 34 (.slice (some ⟨g, 0, none⟩) n cap) (some (.int .i64 (k : Int))) none none).run Try.prog w' = .ok (.slice (some ad) (n - k) (cap - k)) w') ∧ (k < cap → ad = ⟨g, k * 3, none⟩) := by
  have he : Try.prog.elem 34 = 27 := by simp [Program.elem, Try.underlying34]
  refine ⟨if cap = k then ⟨g, 0, none⟩ else ⟨g, k * 3, none⟩, fun w' => ?_, fun h => by rw [if_neg (by omega)]⟩
  rw [run_slice_l w' 34 (some ⟨g, 0, none⟩) n cap (by rw [he]; exact Try.underlying34) .i64 (k : Int) (by omega) (by omega), he, Try.sizeOf27 w']
  by_cases h : cap = k
  · simp [Result.andThen, sliced, h]
  · simp [Result.andThen, sliced, h, Addr.add_lit]
theorem slice34_to (g n cap k : Nat) (hk : k ≤ cap) : ∀ w', (Instr.slice 34 (.slice (some ⟨g, 0, none⟩) n cap) none (some (.int .i64 (k : Int))) none).run Try.prog w' = .ok (.slice (some ⟨g, 0, none⟩) k cap) w' := by
  have he : Try.prog.elem 34 = 27 := by simp [Program.elem, Try.underlying34]
  intro w'
  rw [run_slice_h w' 34 (some ⟨g, 0, none⟩) n cap (by rw [he]; exact Try.underlying34) .i64 (k : Int) (by omega) (by omega), he, Try.sizeOf27 w']
  simp [Result.andThen, sliced, Addr.add]

/-- The cells of a stretch of letters, in a world that has left the row as it was. -/
theorem stretch {W : World} {g n : Nat} {cur : Array Value} {ls : List Lt} (hg : W.heap[g]? = some (.cells cur 27 (0, 0))) (hl : ls.length = n) (htk : cur.toList.take (n * 3) = ls.flatMap Lt.cells) (a b : Nat) (hab : a + b ≤ n) :
    ∀ j u, (((ls.drop a).take b).flatMap Lt.cells)[j]? = some u → W.cell? ⟨g, a * 3 + j, none⟩ = some u := by
  have key : ∀ (ls : List Lt) (a b : Nat), a + b ≤ ls.length → ((ls.drop a).take b).flatMap Lt.cells = ((ls.flatMap Lt.cells).drop (a * 3)).take (b * 3) := by
    intro ls
    induction ls with
    | nil => intro a b h; simp at h; simp [h]
    | cons x xs ih =>
      intro a b h
      cases a with
      | succ a =>
        have := ih a b (by simp at h; omega)
        rw [List.drop_succ_cons, this, List.flatMap_cons, show (a + 1) * 3 = x.cells.length + a * 3 by simp [Lt.cells]; omega, List.drop_length_add_append]
      | zero =>
        cases b with
        | zero => simp
        | succ b =>
          have := ih 0 b (by simp at h; omega)
          simp only [List.drop_zero, Nat.zero_mul] at this ⊢
          rw [List.take_succ_cons, List.flatMap_cons, this, List.flatMap_cons, show (b + 1) * 3 = x.cells.length + b * 3 by simp [Lt.cells]; omega, List.take_length_add_append]
  intro j u hj
  have hj2 : j < b * 3 := by
    have := (List.getElem?_eq_some_iff.1 hj).1
    rw [flatMap_len, List.length_take, List.length_drop] at this
    omega
  rw [key ls a b (by omega), List.getElem?_take_of_lt hj2, List.getElem?_drop, ← htk, List.getElem?_take_of_lt (by omega), Array.getElem?_toList] at hj
  rw [cell_of_row _ _ _ _ _ _ hg]
  exact hj
end Go.Proofs.Ythnachjkjhclpaa
