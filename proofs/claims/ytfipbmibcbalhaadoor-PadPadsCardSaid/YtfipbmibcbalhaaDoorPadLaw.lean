/- Padded texts: the two ways to say it. Plain laws. -/
import Derived.Test.YtfipbmibcbalhaaDoorRefPad
namespace Go.Proofs.YtfipbmibcbalhaaDoor
open Go.RowKit
set_option linter.unusedVariables false
set_option linter.unusedSimpArgs false

theorem rbk_bkt (k : Nat) : rbk k = bkt k := by
  simp only [rbk, bkt]
  (repeat' split) <;> omega
theorem rbk_le (k : Nat) : 0 ≤ rbk k ∧ rbk k ≤ 2048 := by
  simp only [rbk]
  (repeat' split) <;> omega
theorem padN_getD {xs : List Int} {m i : Nat} (h : xs.length < m) (hi : i < m) : (padN xs m).getD i 0 = if i < xs.length then xs.getD i 0 else if i = xs.length then 128 else 0 := by
  unfold padN
  simp only [List.getD, List.getElem?_append]
  split
  · rfl
  · rename_i h1
    split
    · rename_i h2
      subst h2
      simp
    · rename_i h2
      obtain ⟨j, hj⟩ : ∃ j, i - xs.length = j + 1 := ⟨i - xs.length - 1, by omega⟩
      rw [hj]
      simp only [List.getElem?_cons_succ, List.getElem?_replicate]
      split <;> rfl
theorem isPad_iff {xs : List Int} {i : Nat} (hi : i < xs.length) (h128 : xs.getD i 0 = 128) (hb : bkt i = xs.length) : padN (xs.take i) xs.length = xs ↔ IsPad xs i := by
  have hl : (xs.take i).length = i := by simp; omega
  constructor
  · intro e
    refine ⟨hi, h128, fun j h1 h2 => ?_, hb⟩
    have := padN_getD (xs := xs.take i) (m := xs.length) (i := j) (by omega) h2
    rw [e, hl, if_neg (by omega), if_neg (by omega)] at this
    exact this
  · intro h
    apply List.ext_getElem (by rw [padN_length _ _ (by omega)])
    intro j h1 h2
    have a := padN_getD (xs := xs.take i) (m := xs.length) (i := j) (by omega) h2
    have e1 : (padN (xs.take i) xs.length).getD j 0 = (padN (xs.take i) xs.length)[j] := by simp [List.getD, h1]
    have e2 : xs.getD j 0 = xs[j] := by simp [List.getD, h2]
    rw [← e1, ← e2, a, hl]
    split
    · rename_i h3
      simp [List.getD, List.getElem?_take, h3]
    · split
      · rename_i h4
        subst h4
        exact h128.symm
      · exact (h.zero j (by omega) h2).symm
theorem padN_isPad {xs : List Int} {m : Nat} (h : xs.length < m) (hb : bkt xs.length = (m : Int)) : IsPad (padN xs m) xs.length := by
  have hl := padN_length xs m h
  refine ⟨by omega, ?_, fun i h1 h2 => ?_, by rw [hl]; exact hb⟩
  · rw [padN_getD h h, if_neg (by omega), if_pos rfl]
  · rw [padN_getD h (by omega), if_neg (by omega), if_neg (by omega)]
theorem padN_take (xs : List Int) (m : Nat) : (padN xs m).take xs.length = xs := by simp [padN]
end Go.Proofs.YtfipbmibcbalhaaDoor
