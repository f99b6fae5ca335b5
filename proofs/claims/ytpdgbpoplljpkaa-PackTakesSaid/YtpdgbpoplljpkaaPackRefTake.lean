/- The contract of the reference's Take. -/
import Derived.Test.YtpdgbpoplljpkaaPackBackLaw
import Derived.Deep.RegionLaw
import Derived.Test.YtpdgbpoplljpkaaPackNumbersWalk
namespace Go.Proofs.Ytpdgbpoplljpkaa
open Go.RowKit
set_option linter.unusedVariables false
set_option linter.unusedSimpArgs false

/-- The number that the reference has come to, one byte further. -/
def nextX (xs : List Int) (k x : Nat) : Nat := (x + (xs.getD k 0).toNat % 128 * 128 ^ k) % 18446744073709551616

theorem dec_go {xs : List Int} {n k x : Nat} (h : DecR xs n k x) (hn : xs.length = n) (hk : k < n) (hr : 0 ≤ xs.getD k 0 ∧ xs.getD k 0 ≤ 255) (hc : 128 ≤ xs.getD k 0) :
    (k ≤ 8 → DecR xs n (k + 1) (nextX xs k x)) ∧ (k = 9 → dec xs = (0, 0)) := by
  have e := h.eq
  rw [decF_cons (by omega)] at e
  refine ⟨fun h8 => ?_, fun h9 => ?_⟩
  · obtain ⟨_, h1, h2⟩ := num_step k x (xs.getD k 0) hr h.lt h.le9 (fun e => by omega)
    rw [if_neg (fun h => by rcases h with ⟨h, _⟩ | h <;> omega), if_neg (by omega)] at e
    have : nextX xs k x = x + (xs.getD k 0).toNat % 128 * 128 ^ k := Nat.mod_eq_of_lt h2
    rw [this]
    exact ⟨by omega, by omega, h1, e⟩
  · rw [if_pos (.inl ⟨h9, by omega⟩)] at e
    exact e

theorem dec_fin {xs : List Int} {n k x : Nat} (h : DecR xs n k x) (hn : xs.length = n) (hk : k < n) (hrng : ∀ v ∈ xs, 0 ≤ v ∧ v ≤ 255) (hr : 0 ≤ xs.getD k 0 ∧ xs.getD k 0 ≤ 255) (hc : xs.getD k 0 < 128) :
    (enc (nextX xs k x) = xs.take (k + 1) → dec xs = (nextX xs k x, k + 1)) ∧ (enc (nextX xs k x) ≠ xs.take (k + 1) → dec xs = (0, 0)) := by
  have hlt : nextX xs k x < 18446744073709551616 := Nat.mod_lt _ (by omega)
  refine ⟨fun e => ?_, fun e => ?_⟩
  · have h1 := dec_enc_app (nextX xs k x) (xs.drop (k + 1)) hlt
    rw [e, List.take_append_drop, List.length_take] at h1
    rw [h1, Nat.min_eq_left (by omega)]
  · have e1 := h.eq
    rw [decF_cons (by omega)] at e1
    by_cases hbad : (k = 9 ∧ 1 < xs.getD k 0) ∨ 9 < k
    · rw [if_pos hbad] at e1; exact e1
    · rw [if_neg hbad, if_pos hc] at e1
      by_cases hz : xs.getD k 0 = 0 ∧ 0 < k
      · rw [if_pos hz] at e1; exact e1
      · rw [if_neg hz] at e1
        exfalso
        obtain ⟨_, h1, h2⟩ := num_step k x (xs.getD k 0) hr h.lt h.le9 (fun e => by omega)
        have e3 : nextX xs k x = x + (xs.getD k 0).toNat % 128 * 128 ^ k := Nat.mod_eq_of_lt h2
        rw [← e3] at e1
        have := dec_enc xs hrng (by rw [e1]; simp)
        rw [e1] at this
        exact e this

set_option maxRecDepth 100000 in
set_option maxHeartbeats 1600000 in
theorem refTake_any (p : Option Addr) (n c : Nat) (xs : List Int) (w : World) (h : Src w p n xs) (hnc : n ≤ c) :
    Calls Try.prog 32 #[.slice p n c] w fun e w' => e = .returned (.tuple #[.int .u64 (dec xs).1, .int .i64 (dec xs).2]) ∧ Below w.heap.size w w' := by
  have HS := Lib.hid h
  clear h
  go_enter Try.func32, Try.ntmps32
  go_wp2_with fail
  go_loop [4, 5, 6] (fun v4 v5 v6 => ∃ (x k : Nat) (pw : Int), v4 = .int .u64 (x : Int) ∧ v5 = .int .u64 pw ∧ v6 = .int .i64 k ∧ k ≤ n ∧ k ≤ 10 ∧ (k ≤ 9 → pw = ((128 ^ k : Nat) : Int)) ∧ (k ≤ 9 → DecR xs n k x) ∧ (k = 10 → dec xs = (0, 0))) (fun v4 v5 v6 => n - (intOf v6).toNat)
  case atStart => exact ⟨0, 0, 1, rfl, rfl, rfl, Nat.zero_le _, by omega, fun _ => rfl, fun _ => ⟨Nat.zero_le _, by omega, by omega, rfl⟩, fun h => by omega⟩
  case round =>
    obtain ⟨x, k, pw, rfl, rfl, rfl, hk, hk10, hpw, hD, hend⟩ := hrel
    have HD := Lib.hid hD
    have HE := Lib.hid hend
    have HW := Lib.hid hpw
    clear hD hend hpw
    by_cases hlt : (k : Int) < n
    · by_cases h10 : (k : Int) < 10
      · obtain ⟨b, o, rfl, hc⟩ := HS.out.mem (by omega)
        have c0 := hc k (by omega)
        obtain ⟨v, hv⟩ : ∃ v, xs.getD k 0 = v := ⟨_, rfl⟩
        have hr : 0 ≤ v ∧ v ≤ 255 := by
          rw [← hv]
          have : k < xs.length := by have := HS.out.len; omega
          simp only [List.getD, List.getElem?_eq_getElem this, Option.getD_some]
          exact HS.out.rng _ (List.getElem_mem _)
        rw [hv] at c0
        obtain ⟨X, hX⟩ : ∃ X, nextX xs k x = X := ⟨_, rfl⟩
        have hpw := HW.out (by omega)
        have HV := Lib.hid hv
        have HX := Lib.hid hX
        clear hc hv hX
        have hXlt : X < 18446744073709551616 := by rw [← HX.out]; exact Nat.mod_lt _ (by omega)
        have hfx : IntKind.u64.wrap ((x : Int) + IntKind.u64.wrap (v % 128 * pw)) = (X : Int) := by
          have hw : ∀ a : Int, IntKind.u64.wrap a = a % 18446744073709551616 := by intro a; simp [IntKind.wrap, IntKind.signed, IntKind.bits]
          have e1 : v % 128 * pw = ((v.toNat % 128 * 128 ^ k : Nat) : Int) := by
            rw [hpw, Int.natCast_mul]; congr 1; omega
          rw [hw, hw, e1, ← HX.out, nextX, HV.out]
          generalize v.toNat % 128 * 128 ^ k = t
          omega
        by_cases hc128 : v < 128
        · obtain ⟨hy, hn⟩ := dec_fin (HD.out (by omega)) HS.out.len (by omega) HS.out.rng (by rw [HV.out]; exact hr) (by rw [HV.out]; exact hc128)
          rw [HX.out] at hy hn
          obtain ⟨k1, hk1⟩ : ∃ k1, k + 1 = k1 := ⟨_, rfl⟩
          have hwk : IntKind.i64.wrap ((k : Int) + 1) = (k1 : Int) := by rw [IntWalk.i64_in _ (by omega)]; omega
          have hkc : (k1 : Int) ≤ c := by omega
          rw [hk1] at hy hn
          have ST := HS.out.take k1 (by omega)
          have q2 := ST.drew.convert (P := Try.prog) c 22 5 9 Try.underlying22 Try.underlying5 Try.underlying9
          have hbeq := strOf_beq (enc_rng X hXlt) ST.rng
          obtain ⟨s1, hs1⟩ : ∃ s, strOfNums (enc X) = s := ⟨_, rfl⟩
          obtain ⟨s2, hs2⟩ : ∃ s, strOfNums (xs.take k1) = s := ⟨_, rfl⟩
          rw [hs1, hs2] at hbeq
          rw [hs2] at q2
          have HS1 := Lib.hid hs1
          have HS2 := Lib.hid hs2
          have HST := Lib.hid ST.drew
          have K := Lib.hid (refNum_any X hXlt w.drew)
          clear hpw hs1 hs2 ST hXlt hk1
          by_cases heq : enc X = xs.take k1
          · have R : Ending.returned (.tuple #[.int .u64 (X : Int), .int .i64 (k1 : Int)]) = .returned (.tuple #[.int .u64 (dec xs).1, .int .i64 (dec xs).2]) := by rw [hy heq]
            have HR := Lib.hid R
            have hbb : (s1.toList == s2.toList) = true := by rw [hbeq]; simpa using heq
            clear hy hn hbeq R heq
            go_wp2_with fail
            go_region_law (go_simp; go_at_call 28; refine K.out.mono ?_; rintro e w1 ⟨p1, cap1, rfl, h1, h2⟩; have q1 := h1.src.convert (P := Try.prog) cap1 22 5 9 Try.underlying22 Try.underlying5 Try.underlying9; rw [HS1.out] at q1; have q3 := (HST.out.below h2).convert (P := Try.prog) c 22 5 9 Try.underlying22 Try.underlying5 Try.underlying9; rw [HS2.out] at q3; have HB := Lib.hid h2; clear h1 h2)
            all_goals
              go_wp2
              go_ret2
              exact ⟨HR.out, ((Fr.drew w).below (Nat.le_refl _) (fun _ _ h => h)).trans HB.out⟩
          · have R : Ending.returned (.tuple #[.int .u64 0, .int .i64 0]) = .returned (.tuple #[.int .u64 (dec xs).1, .int .i64 (dec xs).2]) := by rw [hn heq]; rfl
            have HR := Lib.hid R
            have hbb : (s1.toList == s2.toList) = false := by rw [hbeq]; simpa using heq
            clear hy hn hbeq R heq
            go_wp2_with fail
            go_region_law (go_simp; go_at_call 28; refine K.out.mono ?_; rintro e w1 ⟨p1, cap1, rfl, h1, h2⟩; have q1 := h1.src.convert (P := Try.prog) cap1 22 5 9 Try.underlying22 Try.underlying5 Try.underlying9; rw [HS1.out] at q1; have q3 := (HST.out.below h2).convert (P := Try.prog) c 22 5 9 Try.underlying22 Try.underlying5 Try.underlying9; rw [HS2.out] at q3; have HB := Lib.hid h2; clear h1 h2)
            all_goals
              go_wp2
              go_ret2
              exact ⟨HR.out, ((Fr.drew w).below (Nat.le_refl _) (fun _ _ h => h)).trans HB.out⟩
        · obtain ⟨hy, hn⟩ := dec_go (HD.out (by omega)) HS.out.len (by omega) (by rw [HV.out]; exact hr) (by rw [HV.out]; omega)
          rw [HX.out] at hy
          have hpw2 : k + 1 ≤ 9 → IntKind.u64.wrap (pw * 128) = ((128 ^ (k + 1) : Nat) : Int) := by
            intro h8
            have : (128 : Nat) ^ (k + 1) ≤ 128 ^ 9 := Nat.pow_le_pow_right (by omega) h8
            have e : (128 : Nat) ^ 9 = 9223372036854775808 := by decide
            rw [hpw, IntWalk.u64_in _ (by rw [Nat.pow_succ] at this; omega), Nat.pow_succ]
            simp
          have HY := Lib.hid hy
          have HN := Lib.hid hn
          have HP := Lib.hid hpw2
          clear hy hn hpw2 hpw
          obtain ⟨pw2, hpw3⟩ : ∃ z, IntKind.u64.wrap (pw * 128) = z := ⟨_, rfl⟩
          have HP3 := Lib.hid hpw3
          go_wp2
          go_round
          case rel => exact ⟨X, k + 1, pw2, rfl, rfl, by go_num, by omega, by omega, fun h => by rw [← HP3.out]; exact HP.out h, fun h => HY.out (by omega), fun h => HN.out (by omega)⟩
          case measure => simp [intOf]; omega
      · obtain rfl : k = 10 := by omega
        have e := HE.out rfl
        have R : Ending.returned (.tuple #[.int .u64 0, .int .i64 0]) = .returned (.tuple #[.int .u64 (dec xs).1, .int .i64 (dec xs).2]) := by rw [e]; rfl
        have HR := Lib.hid R
        clear e R
        go_wp2
        go_ret2
        exact ⟨HR.out, Below.refl _ _⟩
    · obtain rfl : k = n := by omega
      have e : dec xs = (0, 0) := by
        by_cases h9 : k ≤ 9
        · rw [(HD.out h9).eq, List.drop_eq_nil_of_le (by rw [HS.out.len]; omega)]; rfl
        · exact HE.out (by omega)
      have R : Ending.returned (.tuple #[.int .u64 0, .int .i64 0]) = .returned (.tuple #[.int .u64 (dec xs).1, .int .i64 (dec xs).2]) := by rw [e]; rfl
      have HR := Lib.hid R
      clear e R
      go_wp2
      go_ret2
      exact ⟨HR.out, Below.refl _ _⟩
end Go.Proofs.Ytpdgbpoplljpkaa
