/- The contracts of bytes.TrimRight, at one nought byte, and of pad.Unpad. -/
import Derived.Test.YtfipbmibcbalhaaDoorPad
import Derived.Test.YtfipbmibcbalhaaDoorRefBucket
namespace Go.Proofs.YtfipbmibcbalhaaDoor
open Go.RowKit
set_option linter.unusedVariables false
set_option linter.unusedSimpArgs false

/-- The noughts at the end are gone: k are left. -/
structure Trim (xs : List Int) (k : Nat) : Prop where
  le : k ≤ xs.length
  zero : ∀ i, k ≤ i → i < xs.length → xs.getD i 0 = 0
  last : ∀ j, k = j + 1 → xs.getD j 0 ≠ 0
def TrimPost (w : World) (p : Option Addr) (c : Nat) (xs : List Int) (e : Ending) (w' : World) : Prop := ∃ k, Trim xs k ∧ e = .returned (.slice p k c) ∧ w = w'

set_option maxHeartbeats 800000 in
theorem trimByte_any (p : Option Addr) (n c : Nat) (xs : List Int) (w : World) (h : Src w p n xs) (hnc : n ≤ c) (hn : n ≤ 140737488355328) :
    Calls Tryd.prog 14 #[.slice p n c, .int .u8 0] w (TrimPost w p c xs) := by
  have H := Lib.hid h
  have hl := h.len
  have HL := Lib.hid hl
  clear h hl
  go_enter Tryd.func14, Tryd.ntmps14
  go_wp2_with fail
  go_loop [0] (fun v => ∃ k : Nat, k ≤ n ∧ v = .slice p k c ∧ Hid (∀ i, k ≤ i → i < n → xs.getD i 0 = 0)) (fun v => (match v with | .slice _ k _ => k | _ => 0))
  case atStart => exact ⟨n, Nat.le_refl _, rfl, Lib.hid (fun i h1 h2 => by omega)⟩
  case round =>
    obtain ⟨k, hk, rfl, hz⟩ := hrel
    rcases Nat.eq_zero_or_pos k with rfl | hpos
    · go_wp2
      go_ret
      exact ⟨0, ⟨by omega, fun i h1 h2 => hz.out i h1 (by rw [← HL.out]; exact h2), fun j h => by omega⟩, rfl, rfl⟩
    · have hki : (0 : Int) < k := by omega
      obtain ⟨b, o, rfl, hc⟩ := H.out.mem (by omega)
      have c1 := hc (k - 1) (by omega)
      have sl := slice_to (P := Tryd.prog) 22 Tryd.underlying22 Tryd.sizeOf5 (some ⟨b, o, none⟩) k c (k - 1) (by omega)
      rw [show (((k - 1 : Nat) : Int)) = (k : Int) - 1 by omega] at sl
      obtain ⟨x, hx⟩ : ∃ x, xs.getD (k - 1) 0 = x := ⟨_, rfl⟩
      rw [hx] at c1
      have HX := Lib.hid hx
      clear hc hx
      by_cases h0 : x = 0
      · subst h0
        go_wp2
        go_round
        case rel => exact ⟨k - 1, by omega, rfl, Lib.hid (fun i h1 h2 => by
          rcases Nat.lt_or_ge i k with h | h
          · obtain rfl : i = k - 1 := by omega
            exact HX.out
          · exact hz.out i h h2)⟩
        case measure => simp; omega
      · have hb : (x == 0) = false := by simp [h0]
        go_wp2
        go_ret
        exact ⟨k, ⟨by rw [HL.out]; exact hk, fun i h1 h2 => hz.out i h1 (by rw [← HL.out]; exact h2), fun j h => by
          obtain rfl : j = k - 1 := by omega
          rw [HX.out]; exact h0⟩, rfl, rfl⟩

theorem Trim.uniq {xs : List Int} {k l : Nat} (h : Trim xs k) (h' : Trim xs l) : k = l := by
  have h1 := h.le
  have h2 := h'.le
  rcases Nat.lt_trichotomy k l with e | e | e
  · exact absurd (h.zero (l - 1) (by omega) (by omega)) (h'.last (l - 1) (by omega))
  · exact e
  · exact absurd (h'.zero (k - 1) (by omega) (by omega)) (h.last (k - 1) (by omega))

set_option maxRecDepth 100000 in
set_option maxHeartbeats 800000 in
theorem trim_any (p : Option Addr) (n c : Nat) (xs : List Int) (w : World) (h : Src w p n xs) (hnc : n ≤ c) (hn : n ≤ 140737488355328) :
    Calls Tryd.prog 12 #[.slice p n c, .string ⟨#[0]⟩] w (TrimPost w p c xs) := by
  rcases Nat.eq_zero_or_pos n with rfl | hpos
  · have T : Trim xs 0 := ⟨by omega, fun i h1 h2 => by have := h.len; omega, fun j h => by omega⟩
    have HT := Lib.hid T
    clear T h
    go_enter Tryd.func12, Tryd.ntmps12
    go_wp2
    go_ret
    exact ⟨0, HT.out, rfl, rfl⟩
  · have K := Lib.hid (trimByte_any p n c xs w h hnc hn)
    have hne : ((n : Int) == 0) = false := by simp; omega
    clear h
    go_enter Tryd.func12, Tryd.ntmps12
    go_wp2_with fail
    refine K.out.mono ?_
    rintro e w1 ⟨k, HT, rfl, rfl⟩
    go_wp2
    go_ret
    exact ⟨k, HT, rfl, rfl⟩
end Go.Proofs.YtfipbmibcbalhaaDoor
