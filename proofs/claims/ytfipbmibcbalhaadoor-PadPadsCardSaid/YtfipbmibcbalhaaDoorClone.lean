/- The contract of bytes.Clone. -/
import Derived.Test.YtfipbmibcbalhaaDoorRows
import Derived.Test.YtfipbmibcbalhaaDoorBuf
import Derived.Test.YtfipbmibcbalhaaDoorRet
namespace Go.Proofs.YtfipbmibcbalhaaDoor
open Go.RowKit
set_option linter.unusedVariables false
set_option linter.unusedSimpArgs false

theorem Tryd.info5 : (Tryd.prog.info? 5).map (fun i => (i.zero, i.size, i.bytes)) = some (some (.int .u8 0), 1, 1) := by kernel_rfl
theorem Tryd.sizeOf5 (w : World) : (sizeOf 5).run Tryd.prog w = .ok 1 w := by kernel_rfl

set_option maxHeartbeats 400000 in
theorem clone_any (p : Option Addr) (n c : Nat) (xs : List Int) (w : World) (h : Src w p n xs) (hp : p = none → n = 0 ∧ c = 0) (hn : n ≤ 140737488355328) :
    Calls Tryd.prog 13 #[.slice p n c] w fun e w' => ∃ p' cap', e = .returned (.slice p' n cap') ∧ Own w' w.heap.size p' n cap' xs ∧ Below w.heap.size w w' := by
  cases p with
  | none =>
    obtain ⟨rfl, rfl⟩ := hp rfl
    obtain rfl : xs = [] := List.eq_nil_of_length_eq_zero h.len
    have q22 := Lib.run_eql_slice_nil (P := Tryd.prog) w 22 5 none 0 0 0 0 Tryd.underlying22
    go_enter Tryd.func13, Tryd.ntmps13
    go_wp2
    go_ret
    exact ⟨none, 0, rfl, Own.nil _ _, Below.refl _ _⟩
  | some a =>
    have q22 := Lib.run_eql_slice_nil (P := Tryd.prog) w 22 5 (some a) n c 0 0 Tryd.underlying22
    have h' := h.below (below_alloc w (.cells #[] 5))
    have ho := Own.empty w
    have hq : some a = none → c = 0 := fun e => by cases e
    clear hp
    go_enter Tryd.func13, Tryd.ntmps13
    go_wp2_with (at_builtin; refine wpList_append_bytes rfl (.tmp 5) (.tmp 6) 22 rfl w.heap.size Tryd.underlying22 Tryd.info5 (some ⟨w.heap.size, 0, none⟩) 0 0 [] rfl ho (some a) n c xs rfl h' hq (by omega) (by simp) ?_)
    intro p' cap' w1 hown hg _ _
    try simp only [Nat.zero_add, List.nil_append] at hown
    try rw [Nat.zero_add]
    have hb : Below w.heap.size w w1 := (below_alloc w (.cells #[] 5)).trans ((Fr.of_grown hg).below (by simp) (fun k hk => by simp [blk]; omega))
    go_wp2
    go_ret
    exact ⟨p', cap', rfl, hown, hb⟩

end Go.Proofs.YtfipbmibcbalhaaDoor
