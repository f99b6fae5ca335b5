/- The contract of pad.Bucket: the bucket and the error number of every length. -/
import Derived.Test.YtfipbmibcbalhaaDoorRows
import Derived.Test.YtfipbmibcbalhaaDoorRet
import Derived.WalkKit
import Derived.WalkSpells
import Derived.WalkLawsBesides
namespace Go.Proofs.YtfipbmibcbalhaaDoor
open Go.RowKit
set_option linter.unusedVariables false
set_option linter.unusedSimpArgs false

def bkt (n : Int) : Int :=
  if n < 0 then 0 else if n < 64 then 64 else if n < 128 then 128 else if n < 256 then 256 else if n < 512 then 512 else if n < 1024 then 1024 else if n < 2048 then 2048 else 0
def bke (n : Int) : Int := if n < 0 then 1 else if n < 2048 then 0 else 3

theorem bk_hit (n : Int) (k : Nat) (h0 : 0 ≤ n) (h1 : n < wrap64 (64 * 2 ^ k)) (h2 : (k : Int) < 6) (hn : k = 0 ∨ (64 * 2 ^ (k - 1) : Nat) ≤ n) :
    Ending.returned (.tuple #[.int .i64 (wrap64 (64 * 2 ^ k)), .int .i64 0]) = .returned (.tuple #[.int .i64 (bkt n), .int .i64 (bke n)]) := by
  have hk : k = 0 ∨ k = 1 ∨ k = 2 ∨ k = 3 ∨ k = 4 ∨ k = 5 := by omega
  refine ret2_int ?_ ?_
  · rcases hk with rfl | rfl | rfl | rfl | rfl | rfl <;> simp [wrap64] at h1 hn ⊢ <;> simp only [bkt] <;> (repeat' split) <;> omega
  · rcases hk with rfl | rfl | rfl | rfl | rfl | rfl <;> simp [wrap64] at h1 hn ⊢ <;> simp only [bke] <;> (repeat' split) <;> omega
theorem bk_miss (n : Int) (k : Nat) (h0 : 0 ≤ n) (h1 : wrap64 (64 * 2 ^ k) ≤ n) (h2 : (k : Int) < 6) : (64 * 2 ^ (k + 1 - 1) : Nat) ≤ n := by
  have hk : k = 0 ∨ k = 1 ∨ k = 2 ∨ k = 3 ∨ k = 4 ∨ k = 5 := by omega
  rcases hk with rfl | rfl | rfl | rfl | rfl | rfl <;> simp [wrap64] at h1 ⊢ <;> omega
theorem bk_end (n : Int) (k : Nat) (h0 : 0 ≤ n) (hk : k ≤ 6) (h2 : 6 ≤ (k : Int)) (hn : k = 0 ∨ (64 * 2 ^ (k - 1) : Nat) ≤ n) :
    Ending.returned (.tuple #[.int .i64 0, .int .i64 3]) = .returned (.tuple #[.int .i64 (bkt n), .int .i64 (bke n)]) := by
  obtain rfl : k = 6 := by omega
  simp at hn
  exact ret2_int (by simp only [bkt]; (repeat' split) <;> omega) (by simp only [bke]; (repeat' split) <;> omega)

set_option maxHeartbeats 400000 in
theorem bucket_any (n : Int) (w : World) :
    Calls Tryd.prog 11 #[.int .i64 n] w fun e w' => e = .returned (.tuple #[.int .i64 (bkt n), .int .i64 (bke n)]) ∧ w = w' := by
  by_cases h0 : n < 0
  · go_enter Tryd.func11, Tryd.ntmps11
    go_wp2
    go_ret2
    exact ⟨ret2_int (by simp [bkt, h0]) (by simp [bke, h0]), rfl⟩
  · go_enter Tryd.func11, Tryd.ntmps11
    go_wp2
    go_loop [7] (fun i => ∃ k : Nat, k ≤ 6 ∧ i = .int .i64 k ∧ (k = 0 ∨ (64 * 2 ^ (k - 1) : Nat) ≤ n)) (fun i => 6 - (intOf i).toNat)
    case atStart => exact ⟨0, by omega, rfl, .inl rfl⟩
    case round =>
      obtain ⟨k, hk, rfl, hn⟩ := hrel
      go_wp2
      · have h1 : n < wrap64 (64 * 2 ^ k) := by assumption
        have h2 : (k : Int) < 6 := by assumption
        go_ret2
        exact ⟨bk_hit n k h0 h1 h2 hn, rfl⟩
      · have h1 : wrap64 (64 * 2 ^ k) ≤ n := by assumption
        have h2 : (k : Int) < 6 := by assumption
        go_round
        case rel => exact ⟨k + 1, by omega, by go_num, .inr (bk_miss n k h0 h1 h2)⟩
        case measure => simp [intOf]; omega
      · have h2 : 6 ≤ (k : Int) := by assumption
        go_ret2
        exact ⟨bk_end n k h0 hk h2 hn, rfl⟩

set_option maxHeartbeats 400000 in
theorem awake_any (w : World) : Calls Tryd.prog 5 #[] w fun e w' => e = .returned (.bool true) ∧ w = w' := by
  have hb : bkt 64 = 128 := by decide
  have he : bke 64 = 0 := by decide
  go_enter Tryd.func5, Tryd.ntmps5
  go_wp2_with (go_at_call 11; refine (bucket_any _ _).mono ?_; rintro e w' ⟨rfl, rfl⟩)
  go_ret
  exact ⟨rfl, rfl⟩
end Go.Proofs.YtfipbmibcbalhaaDoor
