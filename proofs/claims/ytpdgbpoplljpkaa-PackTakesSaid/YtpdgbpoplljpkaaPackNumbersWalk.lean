/- The walk of PackNumbers. -/
import Derived.Test.YtpdgbpoplljpkaaPackDec
import Derived.Test.YtpdgbpoplljpkaaPackOwnWalk
import Derived.Deep.QuietTactic
import Derived.BigQuiet
namespace Go.Proofs.Ytpdgbpoplljpkaa
open Go.RowKit
set_option linter.unusedVariables false
set_option linter.unusedSimpArgs false

theorem decF_enc : ∀ (xs : List Int) (n x0 : Nat), (∀ v ∈ xs, 0 ≤ v ∧ v ≤ 255) → n ≤ 9 → (decF n x0 xs).2 ≠ 0 →
    ∃ y, (decF n x0 xs).1 = x0 + y * 128 ^ n ∧ (0 < n → 0 < y) ∧ encF (9 - n) y = xs.take ((decF n x0 xs).2 - n)
  | [], n, x0, _, _, h => by simp [decF] at h
  | c :: cs, n, x0, hr, hn, h => by
    have hc := hr c (by simp)
    obtain ⟨v, rfl⟩ : ∃ v : Nat, c = v := ⟨c.toNat, by omega⟩
    simp only [decF] at h ⊢
    split at h
    · exact absurd rfl h
    · rename_i h1
      rw [if_neg h1]
      split at h
      · rename_i h2
        rw [if_pos h2]
        split at h
        · exact absurd rfl h
        · rename_i h3
          rw [if_neg h3]
          refine ⟨v, ?_, ?_, ?_⟩
          · simp only [Int.toNat_natCast]; rw [Nat.mod_eq_of_lt (by omega)]
          · intro h0; omega
          · rw [encF_stop _ _ (by omega)]
            simp
      · rename_i h2
        rw [if_neg h2]
        have hle := decF_le cs (n + 1) (x0 + (v : Int).toNat % 128 * 128 ^ n)
        have hn8 : n ≤ 8 := by omega
        obtain ⟨y, e1, e2, e3⟩ := decF_enc cs (n + 1) (x0 + (v : Int).toNat % 128 * 128 ^ n) (fun u hu => hr u (by simp [hu])) (by omega) h
        have hy := e2 (by omega)
        refine ⟨v % 128 + 128 * y, ?_, ?_, ?_⟩
        · rw [e1, Nat.pow_succ, Int.toNat_natCast, Nat.add_mul, Nat.add_assoc]
          congr 2
          rw [Nat.mul_comm 128 y, Nat.mul_assoc, Nat.mul_comm 128]
        · intro _; omega
        · obtain ⟨f, hf⟩ : ∃ f, 9 - n = f + 1 := ⟨8 - n, by omega⟩
          rw [hf]
          simp only [encF]
          rw [if_pos (by omega)]
          have a1 : (v % 128 + 128 * y) % 128 + 128 = v := by omega
          have a2 : (v % 128 + 128 * y) / 128 = y := by omega
          rw [a1, a2]
          obtain ⟨m, hm⟩ : ∃ m, (decF (n + 1) (x0 + (v : Int).toNat % 128 * 128 ^ n) cs).2 - n = m + 1 := ⟨(decF (n + 1) (x0 + (v : Int).toNat % 128 * 128 ^ n) cs).2 - n - 1, by omega⟩
          rw [hm, List.take_succ_cons]
          congr 1
          rw [show f = 9 - (n + 1) by omega, e3]
          congr 1
          omega
/-- What was taken as a number was packed just so. -/
theorem dec_enc (xs : List Int) (hr : ∀ v ∈ xs, 0 ≤ v ∧ v ≤ 255) (h : (dec xs).2 ≠ 0) : enc (dec xs).1 = xs.take (dec xs).2 := by
  obtain ⟨y, e1, _, e3⟩ := decF_enc xs 0 0 hr (by omega) h
  unfold dec enc at *
  rw [e1]
  simpa using e3

set_option maxRecDepth 100000 in
set_option maxHeartbeats 1600000 in
theorem numbers_walk (a0 : Option Addr) (len0 cap0 : Nat) (z0 : List Int) (w : World) (w0 : IsRow .u8 w a0 len0 cap0 z0) :
    Calls Try.prog 5 #[.slice a0 len0 cap0] w fun e w' => e = .returned (.bool true) ∧ Below w.heap.size w w' := by
  obtain ⟨S0, hc0, hcm0, hn0⟩ := w0.src
  obtain ⟨xs, hxs⟩ : ∃ xs, z0.take len0 = xs := ⟨_, rfl⟩
  rw [hxs] at S0
  clear w0 hxs
  by_cases h0 : 40 < (len0 : Int)
  · go_enter Try.func5, Try.ntmps5
    go_wp2_with fail
    refine (awake_any _).mono ?_
    rintro e w1 ⟨rfl, hb1⟩
    go_wp2_with fail
    refine (awake_any _).mono ?_
    rintro e w2 ⟨rfl, hb2⟩
    go_wp2_with fail
    go_ret
    exact ⟨rfl, hb1.trans (hb2.mono hb1.size)⟩
  have HP := Lib.hid (show a0 = none → len0 = 0 ∧ cap0 = 0 from fun e => ⟨by have := hn0 e; omega, hn0 e⟩)
  have j0 : (len0 : Int) ≤ 40 := by omega
  have hdl := dec_le xs
  rw [S0.len] at hdl
  have hlt := dec_lt xs S0.rng
  have HENC := Lib.hid (dec_enc xs S0.rng)
  clear hn0 h0
  by_cases hm : (dec xs).2 = 0
  · go_enter Try.func5, Try.ntmps5
    go_wp2_with fail
    refine (awake_any _).mono ?_
    rintro e w1 ⟨rfl, hb1⟩
    go_wp2_with fail
    refine (read_any a0 len0 cap0 xs w1 (S0.below hb1) HP.out (by omega)).mono ?_
    rintro e w2 ⟨B, p1, cap1, rfl, hI, hBge, hb2⟩
    go_wp2_with fail
    refine (inNum_bad B p1 len0 cap1 xs false 18446744073709551615 w2 hI (.inr (.inl hm))).mono ?_
    rintro e w3 ⟨rfl, hI3, hF3⟩
    go_wp2_with fail
    refine (bad_any B p1 len0 cap1 xs true w3 hI3).mono ?_
    rintro e w4 ⟨rfl, rfl⟩
    go_wp2_with fail
    refine (left_any B p1 len0 cap1 xs true w3 hI3).mono ?_
    rintro e w4 ⟨rfl, rfl⟩
    go_wp2_with fail
    go_ret
    refine ⟨rfl, hb1.trans ((hb2.mono hb1.size).trans (hF3.below (by have := hb1.size; have := hb2.size; omega) ?_))⟩
    intro k hk e
    have := hb1.size
    omega
  · have hle : ((dec xs).1 : Int) ≤ 18446744073709551615 := by omega
    go_enter Try.func5, Try.ntmps5
    go_wp2_with fail
    refine (awake_any _).mono ?_
    rintro e w1 ⟨rfl, hb1⟩
    go_wp2_with fail
    refine (read_any a0 len0 cap0 xs w1 (S0.below hb1) HP.out (by omega)).mono ?_
    rintro e w2 ⟨B, p1, cap1, rfl, hI, hBge, hb2⟩
    go_wp2_with fail
    refine (inNum_ok B p1 len0 cap1 xs 18446744073709551615 w2 hI hm hle).mono ?_
    rintro e w3 ⟨q, rfl, hI3, hF3⟩
    go_wp2_with fail
    refine (bad_any B _ _ _ _ _ w3 hI3).mono ?_
    rintro e w4 ⟨rfl, rfl⟩
    go_wp2_with fail
    have hel : (enc (dec xs).1).length = (dec xs).2 := by rw [HENC.out hm, List.length_take, S0.len]; omega
    have O4 : OutAt (w3.alloc (.cells #[.slice none 0 0, .bool false] 30)) w3.heap.size w3.heap.size none 0 0 [] false := ⟨heap_alloc_new _ _, Own.nil _ _⟩
    refine (outNum_any w3.heap.size w3.heap.size none 0 0 [] false (dec xs).1 _ O4 hlt (by omega) (by simp)).mono ?_
    rintro e w5 ⟨p5, cap5, rfl, hO5, hF5, hN5⟩
    rw [Nat.zero_add, List.nil_append, hel] at hO5
    have hF35 : Fr w3 w5 (fun _ => False) := ((Fr.alloc w3 _).trans hF5).mono (fun k hk h => by
      rcases h with h | h | h
      · exact h
      · omega
      · cases h)
    go_wp2_with fail
    refine (end_ok w3.heap.size _ _ (dec xs).2 _ _ _ hO5 (by omega)).mono ?_
    rintro e w6 ⟨pc, capc, rfl, hO6, hB6⟩
    have z01 := hb1.size
    have z12 := hb2.size
    have hF26 : Fr w2 w6 (fun k => k = B) := ((hF3.trans hF35).trans (Fr.of_below hB6)).mono (fun k _ e => by
      rcases e with (e | e) | e
      · exact e
      · exact e.elim
      · exact e.elim)
    have S1 := S0.below hb1
    have S6 : Src w6 a0 len0 xs := (S1.below hb2).fr hF26 (fun hn a ha e => by have := S1.lt hn a ha; omega)
    have I6 : InAt w6 B q (len0 - (dec xs).2) (cap1 - (dec xs).2) (xs.drop (dec xs).2) false := (hI3.fr hF35 (fun h => h) (fun _ _ _ h => h)).fr (Fr.of_below hB6) (fun h => h) (fun _ _ _ h => h)
    obtain ⟨m, hm'⟩ : ∃ m, (dec xs).2 = m := ⟨_, rfl⟩
    rw [hm'] at hO6 I6 hm hdl HENC ⊢
    obtain ⟨r, hr⟩ : ∃ r, len0 - m = r := ⟨_, rfl⟩
    rw [hr] at I6
    have hmr : m + r = len0 := by omega
    have T6 : Src w6 a0 m (enc (dec xs).1) := by rw [HENC.out hm]; exact S6.take m hdl
    have cvb : ∀ N, (convert 22 9 (.slice a0 m cap0)).run Try.prog (w6.drewN N) = .ok (.string (strOfNums (enc (dec xs).1))) (w6.drewN N) := fun N => (show Src (w6.drewN N) a0 m _ from ⟨T6.len, T6.rng, T6.mem⟩).convert (P := Try.prog) cap0 22 5 9 Try.underlying22 Try.underlying5 Try.underlying9
    have S7 := hO6.src
    have cvc : ∀ N, (convert 22 9 (.slice pc m capc)).run Try.prog (w6.drewN N) = .ok (.string (strOfNums (enc (dec xs).1))) (w6.drewN N) := fun N => (show Src (w6.drewN N) pc m _ from ⟨S7.len, S7.rng, S7.mem⟩).convert (P := Try.prog) capc 22 5 9 Try.underlying22 Try.underlying5 Try.underlying9
    have stt := slice_to 22 Try.underlying22 Try.sizeOf5 a0 len0 cap0 m (by omega)
    have hsum : IntKind.i64.wrap ((m : Int) + (r : Int)) = (len0 : Int) := by rw [IntWalk.i64_in _ (by omega)]; omega
    have HI6 : Hid (∀ N, InAt (w6.drewN N) B q r (cap1 - m) (xs.drop m) false) := fun N => ⟨I6.cells, ⟨I6.src.len, I6.src.rng, I6.src.mem⟩, I6.le, I6.nil, I6.big⟩
    have hmc : m ≤ cap0 := by omega
    have HFIN : Hid (Below w.heap.size w w6) := hb1.trans ((hb2.mono z01).trans (hF26.below (by omega) (fun k hk e => by omega)))
    clear hO6 hB6 hF26 S1 S6 T6 S7 I6 hmr hr hm' hO5 hF5 hN5 hF35 O4 hI3 hF3 hI hb1 hb2 hel S0
    go_wp2_with fail
    go_quiet ((go_at_call 19; exact Calls.quiet_of_same ((left_any B q r _ _ false _ (HI6.out _)).mono (fun _ _ h => ⟨h.1, h.2.symm⟩))))
    go_wp2
    go_ret
    exact ⟨rfl, HFIN.out.trans ⟨rfl, rfl, rfl, Nat.le_refl _, fun _ _ => rfl⟩⟩
end Go.Proofs.Ytpdgbpoplljpkaa
