/- The walk of PadBuckets. -/
import Derived.Test.YtfipbmibcbalhaaRefBucket
import Derived.OpenShut
namespace Go.Proofs.Ytfipbmibcbalhaa
open Go.RowKit Go.ChangeShapes
set_option linter.unusedVariables false
set_option linter.unusedSimpArgs false

theorem bfacts (n : Int) (h : 0 ≤ n) : (n < 2048 ∧ bke n = 0 ∧ ∃ x, bkt n = x ∧ rbk n = x ∧ 64 ≤ x ∧ x ≤ 2048) ∨ (2048 ≤ n ∧ bke n = 3 ∧ bkt n = 0 ∧ rbk n = 0) := by
  by_cases h1 : n < 2048
  · left
    refine ⟨h1, ?_, _, rfl, ?_, ?_, ?_⟩
    case _ => simp only [bke]; (repeat' split) <;> omega
    case _ => simp only [bkt, rbk]; (repeat' split) <;> omega
    case _ => simp only [bkt]; (repeat' split) <;> omega
    case _ => simp only [bkt]; (repeat' split) <;> omega
  · right
    refine ⟨by omega, ?_, ?_, ?_⟩
    case _ => simp only [bke]; (repeat' split) <;> omega
    case _ => simp only [bkt]; (repeat' split) <;> omega
    case _ => simp only [rbk]; (repeat' split) <;> omega

theorem chain (n : Int) : (n == 64 || n == 128 || n == 256 || n == 512 || n == 1024 || n == 2048) = isB n := by
  simp only [isB]; rw [Bool.eq_iff_iff]; simp [or_assoc]

theorem six (n : Int) : (¬ n = 64 ∧ ¬ n = 128 ∧ ¬ n = 256 ∧ ¬ n = 512 ∧ ¬ n = 1024 ∧ ¬ n = 2048) ∨ n = 64 ∨ n = 128 ∨ n = 256 ∨ n = 512 ∨ n = 1024 ∨ n = 2048 := by omega

set_option maxHeartbeats 4000000 in
theorem buckets_walk (a0 : Int) (w0 : (Lit.int .i64 a0).wf = true) (w : World) :
    Calls Try.prog 4 #[.int .i64 a0] w fun e w' => e = .returned (.bool true) ∧ Grown w w' := by
  have b0 := bounds_i64 w0
  clear w0
  obtain ⟨t, ht⟩ : ∃ t, batch a0 = t := ⟨_, rfl⟩
  go_enter Try.func4, Try.ntmps4
  go_wp2_with (first | (go_at_call 6; refine (bucket_any _ _).mono ?_; rintro e w' ⟨rfl, rfl⟩) | (go_at_call 9; refine (batch_any _ _).mono ?_; rintro e w' ⟨rfl, rfl⟩))
  go_loop [6] (fun v => ∃ x : Int, v = .int .i64 x ∧ 1 ≤ x ∧ x ≤ 65536 ∧ BatR a0 x) (fun x => top16 - (intOf x).toNat)
  case atStart => exact ⟨1, rfl, by omega, by omega, 0, by omega, rfl, rfl⟩
  case round =>
    obtain ⟨x, rfl, hp1, hp2, hn⟩ := hrel
    by_cases hc : x < a0 ∧ x < 65536
    · obtain ⟨h1, h2⟩ := hc
      go_wp2_with fail
      go_round
      case rel => exact ⟨x + x, rfl, by omega, by obtain ⟨k, hk, hx, _⟩ := batR_next a0 x hn h1 h2; have := Nat.pow_le_pow_right (n := 2) (by omega) hk; omega, by have := batR_next a0 x hn h1 h2; rwa [show x * 2 = x + x by omega] at this⟩
      case measure => simp only [intOf]; unfold top16; omega
    · have hx := batR_stop a0 x hn hc
      obtain rfl : x = t := hx.trans ht
      clear hx hn
      rcases six a0 with h6 | rfl | rfl | rfl | rfl | rfl | rfl
      · have e4 : isB a0 = false := by simp only [isB, decide_eq_false_iff_not]; omega
        have e5 := (chain a0).trans e4
        obtain ⟨n1, n2, n3, n4, n5, n6⟩ := h6
        by_cases h1 : x < a0
        · have h2 : ¬ x < 65536 := by omega
          clear hc
          obtain ⟨h3, _⟩ | ⟨h3, e1, e2, e3⟩ := bfacts a0 (by omega)
          · omega
          go_wp2_with (first | (go_at_call 7; refine (awake_any _).mono ?_; rintro e w' ⟨rfl, rfl⟩) | (go_at_call 8; refine (is_any _ (by omega) _).mono ?_; rintro e w' ⟨rfl, rfl⟩) | (go_at_call 10; refine (refBucket_any _ _).mono ?_; rintro e w1 ⟨rfl, hg⟩))
          go_ret
          exact ⟨rfl, hg⟩
        · clear hc
          by_cases h0 : a0 < 0
          · have e1 : bke a0 = 1 := by simp [bke, h0]
            have e2 : bkt a0 = 0 := by simp [bkt, h0]
            go_wp2_with (first | (go_at_call 7; refine (awake_any _).mono ?_; rintro e w' ⟨rfl, rfl⟩) | (go_at_call 8; refine (is_any _ (by omega) _).mono ?_; rintro e w' ⟨rfl, rfl⟩) | (go_at_call 10; refine (refBucket_any _ _).mono ?_; rintro e w1 ⟨rfl, hg⟩))
            go_ret
            exact ⟨rfl, Grown.refl _⟩
          · obtain ⟨h3, e1, y, e2, e3, e5, e6⟩ | ⟨h3, e1, e2, e3⟩ := bfacts a0 (by omega)
            all_goals
              go_wp2_with (first | (go_at_call 7; refine (awake_any _).mono ?_; rintro e w' ⟨rfl, rfl⟩) | (go_at_call 8; refine (is_any _ (by omega) _).mono ?_; rintro e w' ⟨rfl, rfl⟩) | (go_at_call 10; refine (refBucket_any _ _).mono ?_; rintro e w1 ⟨rfl, hg⟩))
              go_ret
              exact ⟨rfl, hg⟩
      · have e1 : bke 64 = 0 := by decide
        have e2 : bkt 64 = 128 := by decide
        have e3 : rbk 64 = 128 := by decide
        have e4 : isB 64 = true := by decide
        clear hc
        obtain rfl : x = 64 := ht.symm.trans (by decide)
        go_wp2_with (first | (go_at_call 7; refine (awake_any _).mono ?_; rintro e w' ⟨rfl, rfl⟩) | (go_at_call 8; refine (is_any _ (by omega) _).mono ?_; rintro e w' ⟨rfl, rfl⟩) | (go_at_call 10; refine (refBucket_any _ _).mono ?_; rintro e w1 ⟨rfl, hg⟩))
        go_ret
        exact ⟨rfl, hg⟩
      · have e1 : bke 128 = 0 := by decide
        have e2 : bkt 128 = 256 := by decide
        have e3 : rbk 128 = 256 := by decide
        have e4 : isB 128 = true := by decide
        clear hc
        obtain rfl : x = 128 := ht.symm.trans (by decide)
        go_wp2_with (first | (go_at_call 7; refine (awake_any _).mono ?_; rintro e w' ⟨rfl, rfl⟩) | (go_at_call 8; refine (is_any _ (by omega) _).mono ?_; rintro e w' ⟨rfl, rfl⟩) | (go_at_call 10; refine (refBucket_any _ _).mono ?_; rintro e w1 ⟨rfl, hg⟩))
        go_ret
        exact ⟨rfl, hg⟩
      · have e1 : bke 256 = 0 := by decide
        have e2 : bkt 256 = 512 := by decide
        have e3 : rbk 256 = 512 := by decide
        have e4 : isB 256 = true := by decide
        clear hc
        obtain rfl : x = 256 := ht.symm.trans (by decide)
        go_wp2_with (first | (go_at_call 7; refine (awake_any _).mono ?_; rintro e w' ⟨rfl, rfl⟩) | (go_at_call 8; refine (is_any _ (by omega) _).mono ?_; rintro e w' ⟨rfl, rfl⟩) | (go_at_call 10; refine (refBucket_any _ _).mono ?_; rintro e w1 ⟨rfl, hg⟩))
        go_ret
        exact ⟨rfl, hg⟩
      · have e1 : bke 512 = 0 := by decide
        have e2 : bkt 512 = 1024 := by decide
        have e3 : rbk 512 = 1024 := by decide
        have e4 : isB 512 = true := by decide
        clear hc
        obtain rfl : x = 512 := ht.symm.trans (by decide)
        go_wp2_with (first | (go_at_call 7; refine (awake_any _).mono ?_; rintro e w' ⟨rfl, rfl⟩) | (go_at_call 8; refine (is_any _ (by omega) _).mono ?_; rintro e w' ⟨rfl, rfl⟩) | (go_at_call 10; refine (refBucket_any _ _).mono ?_; rintro e w1 ⟨rfl, hg⟩))
        go_ret
        exact ⟨rfl, hg⟩
      · have e1 : bke 1024 = 0 := by decide
        have e2 : bkt 1024 = 2048 := by decide
        have e3 : rbk 1024 = 2048 := by decide
        have e4 : isB 1024 = true := by decide
        clear hc
        obtain rfl : x = 1024 := ht.symm.trans (by decide)
        go_wp2_with (first | (go_at_call 7; refine (awake_any _).mono ?_; rintro e w' ⟨rfl, rfl⟩) | (go_at_call 8; refine (is_any _ (by omega) _).mono ?_; rintro e w' ⟨rfl, rfl⟩) | (go_at_call 10; refine (refBucket_any _ _).mono ?_; rintro e w1 ⟨rfl, hg⟩))
        go_ret
        exact ⟨rfl, hg⟩
      · have e1 : bke 2048 = 3 := by decide
        have e2 : bkt 2048 = 0 := by decide
        have e3 : rbk 2048 = 0 := by decide
        have e4 : isB 2048 = true := by decide
        clear hc
        obtain rfl : x = 2048 := ht.symm.trans (by decide)
        go_wp2_with (first | (go_at_call 7; refine (awake_any _).mono ?_; rintro e w' ⟨rfl, rfl⟩) | (go_at_call 8; refine (is_any _ (by omega) _).mono ?_; rintro e w' ⟨rfl, rfl⟩) | (go_at_call 10; refine (refBucket_any _ _).mono ?_; rintro e w1 ⟨rfl, hg⟩))
        go_ret
        exact ⟨rfl, hg⟩
end Go.Proofs.Ytfipbmibcbalhaa
