/- The walk of PadAlike. -/
import Derived.Test.YtfipbmibcbalhaaPad
import Derived.Test.YtfipbmibcbalhaaSmall
namespace Go.Proofs.Ytfipbmibcbalhaa
open Go.RowKit
set_option linter.unusedVariables false
set_option linter.unusedSimpArgs false

theorem bk_ok (n : Nat) (h : n < 2048) : bke n = 0 ∧ ∃ m : Nat, bkt n = (m : Int) ∧ n < m ∧ m ≤ 2048 ∧ isB m = true := by
  refine ⟨by simp only [bke]; (repeat' split) <;> omega, (bkt n).toNat, ?_, ?_, ?_, ?_⟩
  case _ => simp only [bkt]; (repeat' split) <;> simp
  case _ => simp only [bkt]; (repeat' split) <;> simp <;> omega
  case _ => simp only [bkt]; (repeat' split) <;> simp
  case _ => simp only [bkt]; (repeat' split) <;> simp [isB] <;> omega

theorem alike_eq (xs ys : List Int) (m0 m1 : Nat) (hx : ∀ x ∈ xs, 0 ≤ x ∧ x ≤ 255) (hy : ∀ x ∈ ys, 0 ≤ x ∧ x ≤ 255) (h : xs = ys → m0 = m1) :
    (((strOfNums (padN xs m0)).toList == (strOfNums (padN ys m1)).toList) == ((strOfNums xs).toList == (strOfNums ys).toList)) = true := by
  rw [strOf_beq (padN_rng xs m0 hx) (padN_rng ys m1 hy), strOf_beq hx hy, beq_iff_eq]
  congr 1
  apply propext
  exact ⟨padN_inj, fun e => by rw [h e, e]⟩

set_option maxRecDepth 100000 in
set_option maxHeartbeats 1600000 in
theorem alike_walk (a0 : Option Addr) (len0 cap0 : Nat) (z0 : List Int) (a1 : Option Addr) (len1 cap1 : Nat) (z1 : List Int) (w : World) (w0 : IsRow .u8 w a0 len0 cap0 z0) (w1 : IsRow .u8 w a1 len1 cap1 z1) :
    Calls Try.prog 5 #[.slice a0 len0 cap0, .slice a1 len1 cap1] w fun e w' => e = .returned (.bool true) ∧ Below w.heap.size w w' := by
  obtain ⟨S0, hc0, hcm0, hn0⟩ := w0.src
  obtain ⟨S1, hc1, hcm1, hn1⟩ := w1.src
  clear w0 w1
  by_cases h0 : 2047 < (len0 : Int)
  · go_enter Try.func5, Try.ntmps5
    go_wp2_with (first | (go_at_call 7; refine (awake_any _).mono ?_; rintro e w' ⟨rfl, rfl⟩))
    go_ret
    exact ⟨rfl, Below.refl _ _⟩
  by_cases h1 : 2047 < (len1 : Int)
  · go_enter Try.func5, Try.ntmps5
    go_wp2_with (first | (go_at_call 7; refine (awake_any _).mono ?_; rintro e w' ⟨rfl, rfl⟩))
    go_ret
    exact ⟨rfl, Below.refl _ _⟩
  obtain ⟨e0, m0, hb0, hlt0, hm0, hi0⟩ := bk_ok len0 (by omega)
  obtain ⟨e1, m1, hb1, hlt1, hm1, hi1⟩ := bk_ok len1 (by omega)
  have j0 : (len0 : Int) ≤ 2047 := by omega
  have j1 : (len1 : Int) ≤ 2047 := by omega
  clear h0 h1
  have k0 : (m0 : Int) ≤ 2048 := by omega
  have k1 : (m1 : Int) ≤ 2048 := by omega
  have HM0 := Lib.hid hm0
  have HM1 := Lib.hid hm1
  clear hm0 hm1
  obtain ⟨xs, hxs⟩ : ∃ xs, z0.take len0 = xs := ⟨_, rfl⟩
  obtain ⟨ys, hys⟩ : ∃ ys, z1.take len1 = ys := ⟨_, rfl⟩
  rw [hxs] at S0
  rw [hys] at S1
  clear hxs hys
  have P0 := (pad_src w xs m0 (by rw [S0.len]; exact hlt0) S0.rng)
  have S1' := S1.below (below_alloc w (.cells (padA xs m0) 5))
  have P1 := (pad_src (w.alloc (.cells (padA xs m0) 5)) ys m1 (by rw [S1.len]; exact hlt1) S1.rng)
  have c1 := (P0.below (below_alloc _ (.cells (padA ys m1) 5))).convert (P := Try.prog) m0 30 5 9 Try.underlying30 Try.underlying5 Try.underlying9
  have c2 := P1.convert (P := Try.prog) m1 30 5 9 Try.underlying30 Try.underlying5 Try.underlying9
  have c3 := ((S0.below (below_alloc w (.cells (padA xs m0) 5))).below (below_alloc _ (.cells (padA ys m1) 5))).convert (P := Try.prog) cap0 30 5 9 Try.underlying30 Try.underlying5 Try.underlying9
  have c4 := (S1'.below (below_alloc _ (.cells (padA ys m1) 5))).convert (P := Try.prog) cap1 30 5 9 Try.underlying30 Try.underlying5 Try.underlying9
  simp only [World.size_alloc] at c2
  go_enter Try.func5, Try.ntmps5
  go_wp2_with (first | (go_at_call 7; refine (awake_any _).mono ?_; rintro e w' ⟨rfl, rfl⟩))
  with_reducible refine (pad_ok a0 len0 cap0 m0 _ _ S0 hb0 e0 hlt0 HM0.out).mono ?_
  rintro e w' ⟨rfl, rfl⟩
  go_wp2_with fail
  with_reducible refine (pad_ok a1 len1 cap1 m1 _ _ S1' hb1 e1 hlt1 HM1.out).mono ?_
  rintro e w' ⟨rfl, rfl⟩
  go_wp2_with (first | (go_at_call 6; refine (bucket_any _ _).mono ?_; rintro e w' ⟨rfl, rfl⟩) | (go_at_call 8; refine (is_any _ (by omega) _).mono ?_; rintro e w' ⟨rfl, rfl⟩))
  go_ret
  refine ⟨ret_bool ?_, (below_alloc _ _).trans ((below_alloc _ _).mono (by simp))⟩
  exact alike_eq xs ys m0 m1 S0.rng S1.rng (by intro e; subst e; have h := S0.len.symm.trans S1.len; subst h; have := hb0.symm.trans hb1; omega)
end Go.Proofs.Ytfipbmibcbalhaa
