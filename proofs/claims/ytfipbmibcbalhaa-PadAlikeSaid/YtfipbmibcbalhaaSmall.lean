/- The contracts of pad.Is, pad.Batch and the law's awake. -/
import Derived.Test.YtfipbmibcbalhaaBucket
namespace Go.Proofs.Ytfipbmibcbalhaa
open Go.RowKit
set_option linter.unusedVariables false
set_option linter.unusedSimpArgs false

theorem ret_bool {a b : Bool} (h : a = b) : Ending.returned (.bool a) = .returned (.bool b) := by rw [h]
theorem ret_int {k : IntKind} {a b : Int} (h : a = b) : Ending.returned (.int k a) = .returned (.int k b) := by rw [h]

set_option maxHeartbeats 400000 in
theorem awake_any (w : World) : Calls Try.prog 7 #[] w fun e w' => e = .returned (.bool true) ∧ w = w' := by
  have hb : bkt 64 = 128 := by decide
  have he : bke 64 = 0 := by decide
  go_enter Try.func7, Try.ntmps7
  go_wp2_with (go_at_call 6; refine (bucket_any _ _).mono ?_; rintro e w' ⟨rfl, rfl⟩)
  go_ret
  exact ⟨rfl, rfl⟩

def isB (n : Int) : Bool := decide (n = 64 ∨ n = 128 ∨ n = 256 ∨ n = 512 ∨ n = 1024 ∨ n = 2048)

theorem is_fact (n : Int) (h : -9223372036854775808 ≤ n ∧ n ≤ 9223372036854775807) : (bke (wrap64 (n - 1)) == 0 && bkt (wrap64 (n - 1)) == n) = isB n := by
  simp only [bke, bkt, isB, wrap64]
  rw [Bool.eq_iff_iff]
  simp only [Bool.and_eq_true, beq_iff_eq, decide_eq_true_eq]
  repeat' split
  all_goals omega

set_option maxHeartbeats 400000 in
theorem is_any (n : Int) (hn : -9223372036854775808 ≤ n ∧ n ≤ 9223372036854775807) (w : World) : Calls Try.prog 8 #[.int .i64 n] w fun e w' => e = .returned (.bool (isB n)) ∧ w = w' := by
  have H := is_fact n hn
  go_enter Try.func8, Try.ntmps8
  go_wp2_with (go_at_call 6; refine (bucket_any _ _).mono ?_; rintro e w' ⟨rfl, rfl⟩)
  all_goals (go_ret; refine ⟨ret_bool ?_, rfl⟩; rw [← H]; clear H; simp [*])

def top16 : Nat := 65536
/-- What pad.Batch answers: the least power of two that isn't below n, up to 65536. -/
def bat : Nat → Int → Int → Int
  | 0, x, _ => x
  | f + 1, x, n => if x < n ∧ x < 65536 then bat f (2 * x) n else x
def batch (n : Int) : Int := bat 16 1 n

theorem bat_step (k : Nat) (hk : k ≤ 16) (n : Int) (h : ((2 ^ k : Nat) : Int) < n ∧ ((2 ^ k : Nat) : Int) < 65536) : k < 16 ∧ bat (16 - k) (2 ^ k : Nat) n = bat (16 - (k + 1)) (2 ^ (k + 1) : Nat) n := by
  have hk' : k < 16 := by
    rcases Nat.lt_or_ge k 16 with h' | h'
    · exact h'
    · obtain rfl : k = 16 := by omega
      simp at h
  refine ⟨hk', ?_⟩
  obtain ⟨f, hf⟩ : ∃ f, 16 - k = f + 1 := ⟨15 - k, by omega⟩
  rw [hf, show 16 - (k + 1) = f by omega]
  simp only [bat]
  rw [if_pos h]
  congr 1
  rw [Nat.pow_succ]; omega
theorem bat_stop (k : Nat) (n : Int) (h : ¬ (((2 ^ k : Nat) : Int) < n ∧ ((2 ^ k : Nat) : Int) < 65536)) : bat (16 - k) (2 ^ k : Nat) n = (2 ^ k : Nat) := by
  cases hf : 16 - k with
  | zero => rfl
  | succ f => simp only [bat]; rw [if_neg h]
def BatR (n x : Int) : Prop := ∃ k : Nat, k ≤ 16 ∧ x = (2 ^ k : Nat) ∧ batch n = bat (16 - k) x n
theorem batR_next (n x : Int) (h : BatR n x) (h1 : x < n) (h2 : x < 65536) : BatR n (x * 2) := by
  obtain ⟨k, hk, rfl, hb⟩ := h
  obtain ⟨h3, h4⟩ := bat_step k hk n ⟨h1, h2⟩
  exact ⟨k + 1, by omega, by rw [Nat.pow_succ]; omega, by rw [hb, h4, Nat.pow_succ]; rfl⟩
theorem batR_stop (n x : Int) (h : BatR n x) (h1 : ¬ (x < n ∧ x < 65536)) : x = batch n := by
  obtain ⟨k, hk, rfl, hb⟩ := h
  rw [hb, bat_stop k n h1]

set_option maxHeartbeats 400000 in
theorem batch_any (n : Int) (w : World) : Calls Try.prog 9 #[.int .i64 n] w fun e w' => e = .returned (.int .i64 (batch n)) ∧ w = w' := by
  go_enter Try.func9, Try.ntmps9
  go_wp2
  go_loop [3] (fun v => ∃ x : Int, v = .int .i64 x ∧ 1 ≤ x ∧ x ≤ 65536 ∧ BatR n x) (fun x => top16 - (intOf x).toNat)
  case atStart => exact ⟨1, rfl, by omega, by omega, 0, by omega, rfl, rfl⟩
  case round =>
    obtain ⟨x, rfl, hp1, hp2, hn⟩ := hrel
    go_wp2
    · have h1 : x < n := by assumption
      have h2 : x < 65536 := by assumption
      go_round
      case rel => exact ⟨x * 2, rfl, by omega, by obtain ⟨k, hk, hx, _⟩ := batR_next n x hn h1 h2; rw [hx]; have := Nat.pow_le_pow_right (n := 2) (by omega) hk; omega, batR_next n x hn h1 h2⟩
      case measure => simp only [intOf]; unfold top16; omega
    · have h2 : 65536 ≤ x := by assumption
      go_ret
      exact ⟨ret_int (batR_stop n x hn (by omega)), rfl⟩
    · have h2 : n ≤ x := by assumption
      go_ret
      exact ⟨ret_int (batR_stop n x hn (by omega)), rfl⟩
end Go.Proofs.Ytfipbmibcbalhaa
