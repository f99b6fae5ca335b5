/- The contract of the reference's Bucket. -/
import Derived.Test.YtfipbmibcbalhaaDoorBucket
import Derived.Test.YtfipbmibcbalhaaDoorBuf
namespace Go.Proofs.YtfipbmibcbalhaaDoor
open Go.RowKit
set_option linter.unusedVariables false
set_option linter.unusedSimpArgs false

def rbk (n : Int) : Int := if n < 64 then 64 else if n < 128 then 128 else if n < 256 then 256 else if n < 512 then 512 else if n < 1024 then 1024 else if n < 2048 then 2048 else 0
def tabAt (k : Nat) : Int := 64 * 2 ^ k

set_option maxHeartbeats 400000 in
theorem refBucket_any (n : Int) (w : World) : Calls Tryd.prog 9 #[.int .i64 n] w fun e w' => e = .returned (.int .i64 (rbk n)) ∧ Below w.heap.size w w' := by
  go_enter Tryd.func9, Tryd.ntmps9
  go_wp2
  go_loop [4] (fun i => ∃ k : Nat, k ≤ 6 ∧ i = .int .i64 k ∧ (k = 0 ∨ (64 * 2 ^ (k - 1) : Nat) ≤ n)) (fun i => 6 - (intOf i).toNat)
  case atStart => exact ⟨0, by omega, rfl, .inl rfl⟩
  case round =>
    obtain ⟨k, hk, rfl, hn⟩ := hrel
    rcases (show k = 0 ∨ k = 1 ∨ k = 2 ∨ k = 3 ∨ k = 4 ∨ k = 5 ∨ k = 6 by omega) with rfl | rfl | rfl | rfl | rfl | rfl | rfl
    · have hn' : (n : Int) ≤ n := by omega
      clear hn
      go_wp2
      · have h1 : n < 64 := by assumption
        go_ret
        exact ⟨ret_int (by simp only [rbk]; (repeat' split) <;> omega), below_alloc _ _⟩
      · have h1 : 64 ≤ n := by assumption
        go_round
        case rel => exact ⟨1, by omega, rfl, .inr (by simp; omega)⟩
        case measure => simp [intOf]
    · have hn' : (64 : Int) ≤ n := by simp at hn; omega
      clear hn
      go_wp2
      · have h1 : n < 128 := by assumption
        go_ret
        exact ⟨ret_int (by simp only [rbk]; (repeat' split) <;> omega), below_alloc _ _⟩
      · have h1 : 128 ≤ n := by assumption
        go_round
        case rel => exact ⟨2, by omega, rfl, .inr (by simp; omega)⟩
        case measure => simp [intOf]
    · have hn' : (128 : Int) ≤ n := by simp at hn; omega
      clear hn
      go_wp2
      · have h1 : n < 256 := by assumption
        go_ret
        exact ⟨ret_int (by simp only [rbk]; (repeat' split) <;> omega), below_alloc _ _⟩
      · have h1 : 256 ≤ n := by assumption
        go_round
        case rel => exact ⟨3, by omega, rfl, .inr (by simp; omega)⟩
        case measure => simp [intOf]
    · have hn' : (256 : Int) ≤ n := by simp at hn; omega
      clear hn
      go_wp2
      · have h1 : n < 512 := by assumption
        go_ret
        exact ⟨ret_int (by simp only [rbk]; (repeat' split) <;> omega), below_alloc _ _⟩
      · have h1 : 512 ≤ n := by assumption
        go_round
        case rel => exact ⟨4, by omega, rfl, .inr (by simp; omega)⟩
        case measure => simp [intOf]
    · have hn' : (512 : Int) ≤ n := by simp at hn; omega
      clear hn
      go_wp2
      · have h1 : n < 1024 := by assumption
        go_ret
        exact ⟨ret_int (by simp only [rbk]; (repeat' split) <;> omega), below_alloc _ _⟩
      · have h1 : 1024 ≤ n := by assumption
        go_round
        case rel => exact ⟨5, by omega, rfl, .inr (by simp; omega)⟩
        case measure => simp [intOf]
    · have hn' : (1024 : Int) ≤ n := by simp at hn; omega
      clear hn
      go_wp2
      · have h1 : n < 2048 := by assumption
        go_ret
        exact ⟨ret_int (by simp only [rbk]; (repeat' split) <;> omega), below_alloc _ _⟩
      · have h1 : 2048 ≤ n := by assumption
        go_round
        case rel => exact ⟨6, by omega, rfl, .inr (by simp; omega)⟩
        case measure => simp [intOf]
    · have hn' : (2048 : Int) ≤ n := by simp at hn; omega
      clear hn
      go_wp2
      go_ret
      exact ⟨ret_int (by simp only [rbk]; (repeat' split) <;> omega), below_alloc _ _⟩
end Go.Proofs.YtfipbmibcbalhaaDoor
