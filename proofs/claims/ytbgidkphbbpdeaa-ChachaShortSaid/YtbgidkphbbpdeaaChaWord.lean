/- The contracts of chacha's little and of the reference's word, at four bytes: one number. -/
import Derived.Test.YtbgidkphbbpdeaaChaRefQuarter
import Derived.Deep.QuietTactic
import Derived.BigQuiet
namespace Go.Proofs.Ytbgidkphbbpdeaa
open Go.RowKit
set_option linter.unusedVariables false
set_option linter.unusedSimpArgs false

/-- Four bytes as one number, the least first. -/
def le4 (b0 b1 b2 b3 : Nat) : Nat := b0 + b1 * 256 + b2 * 65536 + b3 * 16777216
theorem le4_lt (b0 b1 b2 b3 : Nat) (h0 : b0 < 256) (h1 : b1 < 256) (h2 : b2 < 256) (h3 : b3 < 256) : le4 b0 b1 b2 b3 < 4294967296 := by unfold le4; omega
def leK (b0 b1 b2 b3 : Nat) (i : Nat) : Nat := if i = 0 then 0 else if i = 1 then b0 else if i = 2 then b0 + b1 * 256 else if i = 3 then b0 + b1 * 256 + b2 * 65536 else le4 b0 b1 b2 b3

theorem bits_or_u64_nat (a b : Nat) (ha : a < 18446744073709551616) (hb : b < 18446744073709551616) : bits .or .u64 (a : Int) (b : Int) = ((a ||| b : Nat) : Int) := by
  have hx : a ||| b < 2 ^ 64 := Nat.or_lt_two_pow (by omega) (by omega)
  have h1 : (BitVec.ofInt 64 (a : Int)).toNat = a := by
    rw [BitVec.ofInt_natCast, BitVec.toNat_ofNat]; exact Nat.mod_eq_of_lt (by omega)
  have h2 : (BitVec.ofInt 64 (b : Int)).toNat = b := by
    rw [BitVec.ofInt_natCast, BitVec.toNat_ofNat]; exact Nat.mod_eq_of_lt (by omega)
  show IntKind.u64.wrap ((BitVec.ofInt 64 (a : Int) ||| BitVec.ofInt 64 (b : Int)).toNat : Int) = _
  rw [BitVec.toNat_or, h1, h2, IntWalk.u64_in _ (by omega)]
theorem or_low (n a b : Nat) (h : a < 2 ^ n) : a ||| b * 2 ^ n = a + b * 2 ^ n := by
  rw [Nat.or_comm, Nat.mul_comm, ← Nat.two_pow_add_eq_or_of_lt h, Nat.add_comm]

set_option maxHeartbeats 1600000 in
theorem little_any (b o cap : Nat) (b0 b1 b2 b3 : Nat) (h0 : b0 < 256) (h1 : b1 < 256) (h2 : b2 < 256) (h3 : b3 < 256) (w : World)
    (c0 : w.cell? ⟨b, o, none⟩ = some (.int .u8 (b0 : Nat))) (c1 : w.cell? ⟨b, o + 1, none⟩ = some (.int .u8 (b1 : Nat))) (c2 : w.cell? ⟨b, o + 2, none⟩ = some (.int .u8 (b2 : Nat))) (c3 : w.cell? ⟨b, o + 3, none⟩ = some (.int .u8 (b3 : Nat))) :
    Calls Try.prog 21 #[.slice (some ⟨b, o, none⟩) 4 cap] w fun e w' => e = .returned (.int .u64 (le4 b0 b1 b2 b3 : Nat)) ∧ w = w' := by
  go_enter Try.func21, Try.ntmps21
  go_wp2_with fail
  go_loop [3, 8] (fun v u => ∃ (i : Nat), u = .int .i64 i ∧ i ≤ 4 ∧ v = .int .u64 (leK b0 b1 b2 b3 i : Nat)) (fun _ u => 4 - (intOf u).toNat)
  case atStart => exact ⟨0, rfl, by omega, rfl⟩
  case round =>
    obtain ⟨i, rfl, hi, rfl⟩ := hrel
    rcases (by omega : i = 0 ∨ i = 1 ∨ i = 2 ∨ i = 3 ∨ i = 4) with rfl | rfl | rfl | rfl | rfl
    · have HO : Hid (bits BinOp.or IntKind.u64 (0 : Int) (b0 : Int) = ((leK b0 b1 b2 b3 1 : Nat) : Int)) := by
        have e := bits_or_u64_nat 0 b0 (by omega) (by omega)
        rw [Nat.zero_or] at e
        simp only [leK, le4]
        refine Lib.hid (Eq.trans ?_ (e.trans (by simp)))
        first | rfl | (congr 1 <;> simp)
      simp only [leK]
      go_wp2_with fail
      go_round
      case rel => exact ⟨1, by go_num, by omega, by rw [HO.out]; rfl⟩
      case measure => simp [intOf]
    · have HO : Hid (bits BinOp.or IntKind.u64 (b0 : Int) ((b1 : Int) * 256) = ((leK b0 b1 b2 b3 2 : Nat) : Int)) := by
        have e := bits_or_u64_nat b0 (b1 * 2 ^ 8) (by omega) (by omega)
        rw [or_low 8 _ _ (by omega)] at e
        simp only [leK, le4]
        refine Lib.hid (Eq.trans ?_ (e.trans (by simp)))
        first | rfl | (congr 1 <;> simp)
      simp only [leK]
      go_wp2_with fail
      go_round
      case rel => exact ⟨2, by go_num, by omega, by rw [HO.out]; rfl⟩
      case measure => simp [intOf]
    · have HO : Hid (bits BinOp.or IntKind.u64 ((b0 : Int) + (b1 : Int) * 256) ((b2 : Int) * 65536) = ((leK b0 b1 b2 b3 3 : Nat) : Int)) := by
        have e := bits_or_u64_nat (b0 + b1 * 256) (b2 * 2 ^ 16) (by omega) (by omega)
        rw [or_low 16 _ _ (by omega)] at e
        simp only [leK, le4]
        refine Lib.hid (Eq.trans ?_ (e.trans (by simp)))
        first | rfl | (congr 1 <;> simp)
      simp only [leK]
      go_wp2_with fail
      go_round
      case rel => exact ⟨3, by go_num, by omega, by rw [HO.out]; rfl⟩
      case measure => simp [intOf]
    · have HO : Hid (bits BinOp.or IntKind.u64 ((b0 : Int) + (b1 : Int) * 256 + (b2 : Int) * 65536) ((b3 : Int) * 16777216) = ((leK b0 b1 b2 b3 4 : Nat) : Int)) := by
        have e := bits_or_u64_nat (b0 + b1 * 256 + b2 * 65536) (b3 * 2 ^ 24) (by omega) (by omega)
        rw [or_low 24 _ _ (by omega)] at e
        simp only [leK, le4]
        refine Lib.hid (Eq.trans ?_ (e.trans (by simp)))
        first | rfl | (congr 1 <;> simp)
      simp only [leK]
      go_wp2_with fail
      go_round
      case rel => exact ⟨4, by go_num, by omega, by rw [HO.out]; rfl⟩
      case measure => simp [intOf]
    · have HE : Hid (leK b0 b1 b2 b3 4 = le4 b0 b1 b2 b3) := Lib.hid rfl
      go_wp2_with fail
      go_ret
      exact ⟨ret_int (by rw [HE.out]), rfl⟩

set_option maxHeartbeats 1600000 in
theorem word_any (b o cap : Nat) (b0 b1 b2 b3 : Nat) (h0 : b0 < 256) (h1 : b1 < 256) (h2 : b2 < 256) (h3 : b3 < 256) (w : World)
    (c0 : w.cell? ⟨b, o, none⟩ = some (.int .u8 (b0 : Nat))) (c1 : w.cell? ⟨b, o + 1, none⟩ = some (.int .u8 (b1 : Nat))) (c2 : w.cell? ⟨b, o + 2, none⟩ = some (.int .u8 (b2 : Nat))) (c3 : w.cell? ⟨b, o + 3, none⟩ = some (.int .u8 (b3 : Nat))) :
    Calls Try.prog 18 #[.slice (some ⟨b, o, none⟩) 4 cap] w fun e w' => e = .returned (.int .u32 (le4 b0 b1 b2 b3 : Nat)) ∧ Fr w w' (fun _ => False) := by
  go_enter Try.func18, Try.ntmps18
  go_wp2_with fail
  go_quiet (fail)
  go_wp2_with fail
  go_ret
  exact ⟨ret_int (by unfold le4; omega), ⟨rfl, rfl, rfl, Nat.le_refl _, fun _ _ _ => rfl⟩⟩
end Go.Proofs.Ytbgidkphbbpdeaa
