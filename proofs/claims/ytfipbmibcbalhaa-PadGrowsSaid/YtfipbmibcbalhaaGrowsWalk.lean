/- The walk of PadGrows. -/
import Derived.Test.YtfipbmibcbalhaaSmall
import Derived.OpenShut
namespace Go.Proofs.Ytfipbmibcbalhaa
open Go.RowKit Go.ChangeShapes
set_option linter.unusedVariables false
set_option linter.unusedSimpArgs false

theorem facts (n m : Int) (h0 : 0 ≤ n) (h1 : n ≤ m) (h2 : m < 2048) :
    ∃ x y, bkt n = x ∧ bkt m = y ∧ bke n = 0 ∧ bke m = 0 ∧ x ≤ y ∧ n < x ∧ 64 ≤ x ∧ x ≤ 2048 ∧ (x = 64 ∨ (64 < x ∧ x / 2 ≤ n)) ∧ isB x = true ∧ batch x = x := by
  refine ⟨_, _, rfl, rfl, ?_⟩
  have hx : isB (bkt n) = true → batch (bkt n) = bkt n := by
    intro h
    simp only [isB, decide_eq_true_eq] at h
    rcases h with h | h | h | h | h | h <;> rw [h] <;> decide
  refine ⟨?_, ?_, ?_, ?_, ?_, ?_, ?_, ?_, ?_⟩
  case _ => simp only [bke]; (repeat' split) <;> omega
  case _ => simp only [bke]; (repeat' split) <;> omega
  case _ => simp only [bkt]; (repeat' split) <;> omega
  case _ => simp only [bkt]; (repeat' split) <;> omega
  case _ => simp only [bkt]; (repeat' split) <;> omega
  case _ => simp only [bkt]; (repeat' split) <;> omega
  case _ => simp only [bkt]; (repeat' split) <;> omega
  case _ => simp only [bkt, isB, decide_eq_true_eq]; (repeat' split) <;> first | omega | simp
  case _ => exact hx (by simp only [bkt, isB, decide_eq_true_eq]; (repeat' split) <;> first | omega | simp)

set_option maxHeartbeats 1600000 in
theorem grows_walk (a0 : Int) (a1 : Int) (w0 : (Lit.int .u16 a0).wf = true) (w1 : (Lit.int .u16 a1).wf = true) (w : World) :
    Calls Try.prog 3 #[.int .u16 a0, .int .u16 a1] w fun e w' => e = .returned (.bool true) ∧ Grown w w' := by
  have b0 := bounds_u16 w0
  have b1 := bounds_u16 w1
  clear w0 w1
  rcases Int.lt_trichotomy a0 a1 with h1 | h1 | h1
  · rcases (show a0 % 2048 < a1 % 2048 ∨ a0 % 2048 = a1 % 2048 ∨ a1 % 2048 < a0 % 2048 by omega) with h2 | h2 | h2
    · obtain ⟨x, y, e1, e2, e3, e4, e5, e6, e7, e8, e9, e10, e11⟩ := facts (a0 % 2048) (a1 % 2048) (by omega) (by omega) (by omega)
      rcases e9 with rfl | ⟨e9, e12⟩
      all_goals
        go_enter Try.func3, Try.ntmps3
        go_wp2_with (first | (go_at_call 6; refine (bucket_any _ _).mono ?_; rintro e w' ⟨rfl, rfl⟩) | (go_at_call 7; refine (awake_any _).mono ?_; rintro e w' ⟨rfl, rfl⟩) | (go_at_call 8; refine (is_any _ (by omega) _).mono ?_; rintro e w' ⟨rfl, rfl⟩) | (go_at_call 9; refine (batch_any _ _).mono ?_; rintro e w' ⟨rfl, rfl⟩))
        go_ret
        exact ⟨rfl, Grown.refl _⟩
    · obtain ⟨x, y, e1, e2, e3, e4, e5, e6, e7, e8, e9, e10, e11⟩ := facts (a1 % 2048) (a1 % 2048) (by omega) (by omega) (by omega)
      obtain rfl : x = y := e1.symm.trans e2
      clear e2 e4 e5
      rcases e9 with rfl | ⟨e9, e12⟩
      all_goals
        go_enter Try.func3, Try.ntmps3
        go_wp2_with (first | (go_at_call 6; refine (bucket_any _ _).mono ?_; rintro e w' ⟨rfl, rfl⟩) | (go_at_call 7; refine (awake_any _).mono ?_; rintro e w' ⟨rfl, rfl⟩) | (go_at_call 8; refine (is_any _ (by omega) _).mono ?_; rintro e w' ⟨rfl, rfl⟩) | (go_at_call 9; refine (batch_any _ _).mono ?_; rintro e w' ⟨rfl, rfl⟩))
        go_ret
        exact ⟨rfl, Grown.refl _⟩
    · obtain ⟨x, y, e1, e2, e3, e4, e5, e6, e7, e8, e9, e10, e11⟩ := facts (a1 % 2048) (a0 % 2048) (by omega) (by omega) (by omega)
      rcases e9 with rfl | ⟨e9, e12⟩
      all_goals
        go_enter Try.func3, Try.ntmps3
        go_wp2_with (first | (go_at_call 6; refine (bucket_any _ _).mono ?_; rintro e w' ⟨rfl, rfl⟩) | (go_at_call 7; refine (awake_any _).mono ?_; rintro e w' ⟨rfl, rfl⟩) | (go_at_call 8; refine (is_any _ (by omega) _).mono ?_; rintro e w' ⟨rfl, rfl⟩) | (go_at_call 9; refine (batch_any _ _).mono ?_; rintro e w' ⟨rfl, rfl⟩))
        go_ret
        exact ⟨rfl, Grown.refl _⟩
  · subst h1
    obtain ⟨x, y, e1, e2, e3, e4, e5, e6, e7, e8, e9, e10, e11⟩ := facts (a0 % 2048) (a0 % 2048) (by omega) (by omega) (by omega)
    obtain rfl : x = y := e1.symm.trans e2
    clear e2 e4 e5
    rcases e9 with rfl | ⟨e9, e12⟩
    all_goals
      go_enter Try.func3, Try.ntmps3
      go_wp2_with (first | (go_at_call 6; refine (bucket_any _ _).mono ?_; rintro e w' ⟨rfl, rfl⟩) | (go_at_call 7; refine (awake_any _).mono ?_; rintro e w' ⟨rfl, rfl⟩) | (go_at_call 8; refine (is_any _ (by omega) _).mono ?_; rintro e w' ⟨rfl, rfl⟩) | (go_at_call 9; refine (batch_any _ _).mono ?_; rintro e w' ⟨rfl, rfl⟩))
      go_ret
      exact ⟨rfl, Grown.refl _⟩
  · rcases (show a0 % 2048 < a1 % 2048 ∨ a0 % 2048 = a1 % 2048 ∨ a1 % 2048 < a0 % 2048 by omega) with h2 | h2 | h2
    · obtain ⟨x, y, e1, e2, e3, e4, e5, e6, e7, e8, e9, e10, e11⟩ := facts (a0 % 2048) (a1 % 2048) (by omega) (by omega) (by omega)
      rcases e9 with rfl | ⟨e9, e12⟩
      all_goals
        go_enter Try.func3, Try.ntmps3
        go_wp2_with (first | (go_at_call 6; refine (bucket_any _ _).mono ?_; rintro e w' ⟨rfl, rfl⟩) | (go_at_call 7; refine (awake_any _).mono ?_; rintro e w' ⟨rfl, rfl⟩) | (go_at_call 8; refine (is_any _ (by omega) _).mono ?_; rintro e w' ⟨rfl, rfl⟩) | (go_at_call 9; refine (batch_any _ _).mono ?_; rintro e w' ⟨rfl, rfl⟩))
        go_ret
        exact ⟨rfl, Grown.refl _⟩
    · obtain ⟨x, y, e1, e2, e3, e4, e5, e6, e7, e8, e9, e10, e11⟩ := facts (a1 % 2048) (a1 % 2048) (by omega) (by omega) (by omega)
      obtain rfl : x = y := e1.symm.trans e2
      clear e2 e4 e5
      rcases e9 with rfl | ⟨e9, e12⟩
      all_goals
        go_enter Try.func3, Try.ntmps3
        go_wp2_with (first | (go_at_call 6; refine (bucket_any _ _).mono ?_; rintro e w' ⟨rfl, rfl⟩) | (go_at_call 7; refine (awake_any _).mono ?_; rintro e w' ⟨rfl, rfl⟩) | (go_at_call 8; refine (is_any _ (by omega) _).mono ?_; rintro e w' ⟨rfl, rfl⟩) | (go_at_call 9; refine (batch_any _ _).mono ?_; rintro e w' ⟨rfl, rfl⟩))
        go_ret
        exact ⟨rfl, Grown.refl _⟩
    · obtain ⟨x, y, e1, e2, e3, e4, e5, e6, e7, e8, e9, e10, e11⟩ := facts (a1 % 2048) (a0 % 2048) (by omega) (by omega) (by omega)
      rcases e9 with rfl | ⟨e9, e12⟩
      all_goals
        go_enter Try.func3, Try.ntmps3
        go_wp2_with (first | (go_at_call 6; refine (bucket_any _ _).mono ?_; rintro e w' ⟨rfl, rfl⟩) | (go_at_call 7; refine (awake_any _).mono ?_; rintro e w' ⟨rfl, rfl⟩) | (go_at_call 8; refine (is_any _ (by omega) _).mono ?_; rintro e w' ⟨rfl, rfl⟩) | (go_at_call 9; refine (batch_any _ _).mono ?_; rintro e w' ⟨rfl, rfl⟩))
        go_ret
        exact ⟨rfl, Grown.refl _⟩
end Go.Proofs.Ytfipbmibcbalhaa
