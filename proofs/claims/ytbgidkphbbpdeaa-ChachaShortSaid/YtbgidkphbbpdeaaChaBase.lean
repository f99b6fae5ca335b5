/- The contracts of chacha's smallest functions. -/
import Derived.Test.YtbgidkphbbpdeaaRows
import Derived.Test.YtbgidkphbbpdeaaBuf
import Derived.Test.YtbgidkphbbpdeaaRet
import Derived.Deep.LoopGhost
namespace Go.Proofs.Ytbgidkphbbpdeaa
open Go.RowKit
set_option linter.unusedVariables false
set_option linter.unusedSimpArgs false

/-- The reference's turning to the left by one, n times. -/
def itL : Nat → Nat → Nat
  | 0, x => x
  | n + 1, x => itL n x * 2 % 4294967296 + itL n x / 2147483648
theorem itL_lt (x : Nat) (h : x < 4294967296) : ∀ n, itL n x < 4294967296
  | 0 => h
  | n + 1 => by have := itL_lt x h n; unfold itL; omega

set_option maxHeartbeats 800000 in
theorem left_any (x n : Nat) (hx : x < 4294967296) (hn : n ≤ 32) (w : World) : Calls Try.prog 23 #[.int .u32 (x : Int), .int .i64 (n : Int)] w fun e w' => e = .returned (.int .u32 (itL n x : Nat)) ∧ w = w' := by
  have HX := Lib.hid hx
  clear hx
  go_enter Try.func23, Try.ntmps23
  go_wp2_with fail
  go_loop [0, 5] (fun v u => ∃ (y i : Nat), v = .int .u32 y ∧ u = .int .i64 i ∧ i ≤ n ∧ y = itL i x) (fun v u => n - (intOf u).toNat)
  case atStart => exact ⟨x, 0, rfl, rfl, Nat.zero_le _, rfl⟩
  case round =>
    obtain ⟨y, i, rfl, rfl, hi, hy⟩ := hrel
    have hyl : (y : Int) ≤ 4294967295 := by have := itL_lt x HX.out i; rw [← hy] at this; omega
    have HY := Lib.hid hy
    clear hy
    by_cases hlt : (i : Int) < n
    · have h1 : IntKind.u32.wrap ((y : Int) * 2) = ((y * 2 % 4294967296 : Nat) : Int) := by simp [IntKind.wrap, IntKind.bits, IntKind.signed]; try omega
      have h2 : IntKind.u32.wrap (((y * 2 % 4294967296 : Nat) : Int) + (y : Int) / 2147483648) = ((y * 2 % 4294967296 + y / 2147483648 : Nat) : Int) := by rw [IntWalk.u32_in _ (by omega)]; omega
      obtain ⟨z, hz⟩ : ∃ z, y * 2 % 4294967296 = z := ⟨_, rfl⟩
      have HN : Hid (z + y / 2147483648 = itL (i + 1) x) := by show _ = itL i x * 2 % 4294967296 + itL i x / 2147483648; rw [← HY.out, hz]
      rw [hz] at h1 h2
      clear hz
      go_wp2
      go_round
      case rel => exact ⟨z + y / 2147483648, i + 1, by go_num, by go_num, by omega, HN.out⟩
      case measure => simp [intOf]; omega
    · obtain rfl : i = n := by omega
      go_wp2
      go_ret
      exact ⟨by rw [← HY.out]; rfl, rfl⟩

theorem bits_or_u32_nat (a b : Nat) (ha : a < 4294967296) (hb : b < 4294967296) : bits .or .u32 (a : Int) (b : Int) = ((a ||| b : Nat) : Int) := by
  have hx : a ||| b < 2 ^ 32 := Nat.or_lt_two_pow (by omega) (by omega)
  have h1 : (BitVec.ofInt 32 (a : Int)).toNat = a := by
    rw [BitVec.ofInt_natCast, BitVec.toNat_ofNat]; exact Nat.mod_eq_of_lt (by omega)
  have h2 : (BitVec.ofInt 32 (b : Int)).toNat = b := by
    rw [BitVec.ofInt_natCast, BitVec.toNat_ofNat]; exact Nat.mod_eq_of_lt (by omega)
  show IntKind.u32.wrap ((BitVec.ofInt 32 (a : Int) ||| BitVec.ofInt 32 (b : Int)).toNat : Int) = _
  rw [BitVec.toNat_or, h1, h2, IntWalk.u32_in _ (by omega)]
theorem bits_xor_u32_nat (a b : Nat) (ha : a < 4294967296) (hb : b < 4294967296) : bits .xor .u32 (a : Int) (b : Int) = ((a ^^^ b : Nat) : Int) := by
  have hx : a ^^^ b < 2 ^ 32 := Nat.xor_lt_two_pow (by omega) (by omega)
  have h1 : (BitVec.ofInt 32 (a : Int)).toNat = a := by
    rw [BitVec.ofInt_natCast, BitVec.toNat_ofNat]; exact Nat.mod_eq_of_lt (by omega)
  have h2 : (BitVec.ofInt 32 (b : Int)).toNat = b := by
    rw [BitVec.ofInt_natCast, BitVec.toNat_ofNat]; exact Nat.mod_eq_of_lt (by omega)
  show IntKind.u32.wrap ((BitVec.ofInt 32 (a : Int) ^^^ BitVec.ofInt 32 (b : Int)).toNat : Int) = _
  rw [BitVec.toNat_xor, h1, h2, IntWalk.u32_in _ (by omega)]

set_option maxRecDepth 100000
theorem itL_1 (x : Nat) (hx : x < 4294967296) : itL 1 x = x * 2 % 4294967296 + x / 2147483648 := rfl
theorem itL_2 (x : Nat) (hx : x < 4294967296) : itL 2 x = x * 4 % 4294967296 + x / 1073741824 := by
  show itL 1 x * 2 % 4294967296 + itL 1 x / 2147483648 = _
  rw [itL_1 x hx]
  obtain ⟨h, b, l, e, hb, hl, hh⟩ : ∃ h b l, x = 2147483648 * h + 1073741824 * b + l ∧ b < 2 ∧ l < 1073741824 ∧ h < 2 := ⟨x / 2147483648, x / 1073741824 % 2, x % 1073741824, by omega, by omega, by omega, by omega⟩
  have h1 : x * 2 % 4294967296 = 2147483648 * b + 2 * l := by omega
  have h2 : x / 2147483648 = h := by omega
  have h3 : x * 4 % 4294967296 = 4 * l := by omega
  have h4 : x / 1073741824 = 2 * h + b := by omega
  have hq : 2 * l + h < 2147483648 := by omega
  rw [h1, h2, h3, h4]
  clear h1 h2 h3 h4 e hx
  obtain ⟨z, hz⟩ : ∃ z, z = 2 * l + h := ⟨_, by exact rfl⟩
  rw [show 2147483648 * b + 2 * l + h = 2147483648 * b + z by omega, show 4 * l + (2 * h + b) = 2 * z + b by omega]
  rcases (by omega : b = 0 ∨ b = 1) with rfl | rfl <;> omega
theorem itL_3 (x : Nat) (hx : x < 4294967296) : itL 3 x = x * 8 % 4294967296 + x / 536870912 := by
  show itL 2 x * 2 % 4294967296 + itL 2 x / 2147483648 = _
  rw [itL_2 x hx]
  obtain ⟨h, b, l, e, hb, hl, hh⟩ : ∃ h b l, x = 1073741824 * h + 536870912 * b + l ∧ b < 2 ∧ l < 536870912 ∧ h < 4 := ⟨x / 1073741824, x / 536870912 % 2, x % 536870912, by omega, by omega, by omega, by omega⟩
  have h1 : x * 4 % 4294967296 = 2147483648 * b + 4 * l := by omega
  have h2 : x / 1073741824 = h := by omega
  have h3 : x * 8 % 4294967296 = 8 * l := by omega
  have h4 : x / 536870912 = 2 * h + b := by omega
  have hq : 4 * l + h < 2147483648 := by omega
  rw [h1, h2, h3, h4]
  clear h1 h2 h3 h4 e hx
  obtain ⟨z, hz⟩ : ∃ z, z = 4 * l + h := ⟨_, by exact rfl⟩
  rw [show 2147483648 * b + 4 * l + h = 2147483648 * b + z by omega, show 8 * l + (2 * h + b) = 2 * z + b by omega]
  rcases (by omega : b = 0 ∨ b = 1) with rfl | rfl <;> omega
theorem itL_4 (x : Nat) (hx : x < 4294967296) : itL 4 x = x * 16 % 4294967296 + x / 268435456 := by
  show itL 3 x * 2 % 4294967296 + itL 3 x / 2147483648 = _
  rw [itL_3 x hx]
  obtain ⟨h, b, l, e, hb, hl, hh⟩ : ∃ h b l, x = 536870912 * h + 268435456 * b + l ∧ b < 2 ∧ l < 268435456 ∧ h < 8 := ⟨x / 536870912, x / 268435456 % 2, x % 268435456, by omega, by omega, by omega, by omega⟩
  have h1 : x * 8 % 4294967296 = 2147483648 * b + 8 * l := by omega
  have h2 : x / 536870912 = h := by omega
  have h3 : x * 16 % 4294967296 = 16 * l := by omega
  have h4 : x / 268435456 = 2 * h + b := by omega
  have hq : 8 * l + h < 2147483648 := by omega
  rw [h1, h2, h3, h4]
  clear h1 h2 h3 h4 e hx
  obtain ⟨z, hz⟩ : ∃ z, z = 8 * l + h := ⟨_, by exact rfl⟩
  rw [show 2147483648 * b + 8 * l + h = 2147483648 * b + z by omega, show 16 * l + (2 * h + b) = 2 * z + b by omega]
  rcases (by omega : b = 0 ∨ b = 1) with rfl | rfl <;> omega
theorem itL_5 (x : Nat) (hx : x < 4294967296) : itL 5 x = x * 32 % 4294967296 + x / 134217728 := by
  show itL 4 x * 2 % 4294967296 + itL 4 x / 2147483648 = _
  rw [itL_4 x hx]
  obtain ⟨h, b, l, e, hb, hl, hh⟩ : ∃ h b l, x = 268435456 * h + 134217728 * b + l ∧ b < 2 ∧ l < 134217728 ∧ h < 16 := ⟨x / 268435456, x / 134217728 % 2, x % 134217728, by omega, by omega, by omega, by omega⟩
  have h1 : x * 16 % 4294967296 = 2147483648 * b + 16 * l := by omega
  have h2 : x / 268435456 = h := by omega
  have h3 : x * 32 % 4294967296 = 32 * l := by omega
  have h4 : x / 134217728 = 2 * h + b := by omega
  have hq : 16 * l + h < 2147483648 := by omega
  rw [h1, h2, h3, h4]
  clear h1 h2 h3 h4 e hx
  obtain ⟨z, hz⟩ : ∃ z, z = 16 * l + h := ⟨_, by exact rfl⟩
  rw [show 2147483648 * b + 16 * l + h = 2147483648 * b + z by omega, show 32 * l + (2 * h + b) = 2 * z + b by omega]
  rcases (by omega : b = 0 ∨ b = 1) with rfl | rfl <;> omega
theorem itL_6 (x : Nat) (hx : x < 4294967296) : itL 6 x = x * 64 % 4294967296 + x / 67108864 := by
  show itL 5 x * 2 % 4294967296 + itL 5 x / 2147483648 = _
  rw [itL_5 x hx]
  obtain ⟨h, b, l, e, hb, hl, hh⟩ : ∃ h b l, x = 134217728 * h + 67108864 * b + l ∧ b < 2 ∧ l < 67108864 ∧ h < 32 := ⟨x / 134217728, x / 67108864 % 2, x % 67108864, by omega, by omega, by omega, by omega⟩
  have h1 : x * 32 % 4294967296 = 2147483648 * b + 32 * l := by omega
  have h2 : x / 134217728 = h := by omega
  have h3 : x * 64 % 4294967296 = 64 * l := by omega
  have h4 : x / 67108864 = 2 * h + b := by omega
  have hq : 32 * l + h < 2147483648 := by omega
  rw [h1, h2, h3, h4]
  clear h1 h2 h3 h4 e hx
  obtain ⟨z, hz⟩ : ∃ z, z = 32 * l + h := ⟨_, by exact rfl⟩
  rw [show 2147483648 * b + 32 * l + h = 2147483648 * b + z by omega, show 64 * l + (2 * h + b) = 2 * z + b by omega]
  rcases (by omega : b = 0 ∨ b = 1) with rfl | rfl <;> omega
theorem itL_7 (x : Nat) (hx : x < 4294967296) : itL 7 x = x * 128 % 4294967296 + x / 33554432 := by
  show itL 6 x * 2 % 4294967296 + itL 6 x / 2147483648 = _
  rw [itL_6 x hx]
  obtain ⟨h, b, l, e, hb, hl, hh⟩ : ∃ h b l, x = 67108864 * h + 33554432 * b + l ∧ b < 2 ∧ l < 33554432 ∧ h < 64 := ⟨x / 67108864, x / 33554432 % 2, x % 33554432, by omega, by omega, by omega, by omega⟩
  have h1 : x * 64 % 4294967296 = 2147483648 * b + 64 * l := by omega
  have h2 : x / 67108864 = h := by omega
  have h3 : x * 128 % 4294967296 = 128 * l := by omega
  have h4 : x / 33554432 = 2 * h + b := by omega
  have hq : 64 * l + h < 2147483648 := by omega
  rw [h1, h2, h3, h4]
  clear h1 h2 h3 h4 e hx
  obtain ⟨z, hz⟩ : ∃ z, z = 64 * l + h := ⟨_, by exact rfl⟩
  rw [show 2147483648 * b + 64 * l + h = 2147483648 * b + z by omega, show 128 * l + (2 * h + b) = 2 * z + b by omega]
  rcases (by omega : b = 0 ∨ b = 1) with rfl | rfl <;> omega
theorem itL_8 (x : Nat) (hx : x < 4294967296) : itL 8 x = x * 256 % 4294967296 + x / 16777216 := by
  show itL 7 x * 2 % 4294967296 + itL 7 x / 2147483648 = _
  rw [itL_7 x hx]
  obtain ⟨h, b, l, e, hb, hl, hh⟩ : ∃ h b l, x = 33554432 * h + 16777216 * b + l ∧ b < 2 ∧ l < 16777216 ∧ h < 128 := ⟨x / 33554432, x / 16777216 % 2, x % 16777216, by omega, by omega, by omega, by omega⟩
  have h1 : x * 128 % 4294967296 = 2147483648 * b + 128 * l := by omega
  have h2 : x / 33554432 = h := by omega
  have h3 : x * 256 % 4294967296 = 256 * l := by omega
  have h4 : x / 16777216 = 2 * h + b := by omega
  have hq : 128 * l + h < 2147483648 := by omega
  rw [h1, h2, h3, h4]
  clear h1 h2 h3 h4 e hx
  obtain ⟨z, hz⟩ : ∃ z, z = 128 * l + h := ⟨_, by exact rfl⟩
  rw [show 2147483648 * b + 128 * l + h = 2147483648 * b + z by omega, show 256 * l + (2 * h + b) = 2 * z + b by omega]
  rcases (by omega : b = 0 ∨ b = 1) with rfl | rfl <;> omega
theorem itL_9 (x : Nat) (hx : x < 4294967296) : itL 9 x = x * 512 % 4294967296 + x / 8388608 := by
  show itL 8 x * 2 % 4294967296 + itL 8 x / 2147483648 = _
  rw [itL_8 x hx]
  obtain ⟨h, b, l, e, hb, hl, hh⟩ : ∃ h b l, x = 16777216 * h + 8388608 * b + l ∧ b < 2 ∧ l < 8388608 ∧ h < 256 := ⟨x / 16777216, x / 8388608 % 2, x % 8388608, by omega, by omega, by omega, by omega⟩
  have h1 : x * 256 % 4294967296 = 2147483648 * b + 256 * l := by omega
  have h2 : x / 16777216 = h := by omega
  have h3 : x * 512 % 4294967296 = 512 * l := by omega
  have h4 : x / 8388608 = 2 * h + b := by omega
  have hq : 256 * l + h < 2147483648 := by omega
  rw [h1, h2, h3, h4]
  clear h1 h2 h3 h4 e hx
  obtain ⟨z, hz⟩ : ∃ z, z = 256 * l + h := ⟨_, by exact rfl⟩
  rw [show 2147483648 * b + 256 * l + h = 2147483648 * b + z by omega, show 512 * l + (2 * h + b) = 2 * z + b by omega]
  rcases (by omega : b = 0 ∨ b = 1) with rfl | rfl <;> omega
theorem itL_10 (x : Nat) (hx : x < 4294967296) : itL 10 x = x * 1024 % 4294967296 + x / 4194304 := by
  show itL 9 x * 2 % 4294967296 + itL 9 x / 2147483648 = _
  rw [itL_9 x hx]
  obtain ⟨h, b, l, e, hb, hl, hh⟩ : ∃ h b l, x = 8388608 * h + 4194304 * b + l ∧ b < 2 ∧ l < 4194304 ∧ h < 512 := ⟨x / 8388608, x / 4194304 % 2, x % 4194304, by omega, by omega, by omega, by omega⟩
  have h1 : x * 512 % 4294967296 = 2147483648 * b + 512 * l := by omega
  have h2 : x / 8388608 = h := by omega
  have h3 : x * 1024 % 4294967296 = 1024 * l := by omega
  have h4 : x / 4194304 = 2 * h + b := by omega
  have hq : 512 * l + h < 2147483648 := by omega
  rw [h1, h2, h3, h4]
  clear h1 h2 h3 h4 e hx
  obtain ⟨z, hz⟩ : ∃ z, z = 512 * l + h := ⟨_, by exact rfl⟩
  rw [show 2147483648 * b + 512 * l + h = 2147483648 * b + z by omega, show 1024 * l + (2 * h + b) = 2 * z + b by omega]
  rcases (by omega : b = 0 ∨ b = 1) with rfl | rfl <;> omega
theorem itL_11 (x : Nat) (hx : x < 4294967296) : itL 11 x = x * 2048 % 4294967296 + x / 2097152 := by
  show itL 10 x * 2 % 4294967296 + itL 10 x / 2147483648 = _
  rw [itL_10 x hx]
  obtain ⟨h, b, l, e, hb, hl, hh⟩ : ∃ h b l, x = 4194304 * h + 2097152 * b + l ∧ b < 2 ∧ l < 2097152 ∧ h < 1024 := ⟨x / 4194304, x / 2097152 % 2, x % 2097152, by omega, by omega, by omega, by omega⟩
  have h1 : x * 1024 % 4294967296 = 2147483648 * b + 1024 * l := by omega
  have h2 : x / 4194304 = h := by omega
  have h3 : x * 2048 % 4294967296 = 2048 * l := by omega
  have h4 : x / 2097152 = 2 * h + b := by omega
  have hq : 1024 * l + h < 2147483648 := by omega
  rw [h1, h2, h3, h4]
  clear h1 h2 h3 h4 e hx
  obtain ⟨z, hz⟩ : ∃ z, z = 1024 * l + h := ⟨_, by exact rfl⟩
  rw [show 2147483648 * b + 1024 * l + h = 2147483648 * b + z by omega, show 2048 * l + (2 * h + b) = 2 * z + b by omega]
  rcases (by omega : b = 0 ∨ b = 1) with rfl | rfl <;> omega
theorem itL_12 (x : Nat) (hx : x < 4294967296) : itL 12 x = x * 4096 % 4294967296 + x / 1048576 := by
  show itL 11 x * 2 % 4294967296 + itL 11 x / 2147483648 = _
  rw [itL_11 x hx]
  obtain ⟨h, b, l, e, hb, hl, hh⟩ : ∃ h b l, x = 2097152 * h + 1048576 * b + l ∧ b < 2 ∧ l < 1048576 ∧ h < 2048 := ⟨x / 2097152, x / 1048576 % 2, x % 1048576, by omega, by omega, by omega, by omega⟩
  have h1 : x * 2048 % 4294967296 = 2147483648 * b + 2048 * l := by omega
  have h2 : x / 2097152 = h := by omega
  have h3 : x * 4096 % 4294967296 = 4096 * l := by omega
  have h4 : x / 1048576 = 2 * h + b := by omega
  have hq : 2048 * l + h < 2147483648 := by omega
  rw [h1, h2, h3, h4]
  clear h1 h2 h3 h4 e hx
  obtain ⟨z, hz⟩ : ∃ z, z = 2048 * l + h := ⟨_, by exact rfl⟩
  rw [show 2147483648 * b + 2048 * l + h = 2147483648 * b + z by omega, show 4096 * l + (2 * h + b) = 2 * z + b by omega]
  rcases (by omega : b = 0 ∨ b = 1) with rfl | rfl <;> omega
theorem itL_13 (x : Nat) (hx : x < 4294967296) : itL 13 x = x * 8192 % 4294967296 + x / 524288 := by
  show itL 12 x * 2 % 4294967296 + itL 12 x / 2147483648 = _
  rw [itL_12 x hx]
  obtain ⟨h, b, l, e, hb, hl, hh⟩ : ∃ h b l, x = 1048576 * h + 524288 * b + l ∧ b < 2 ∧ l < 524288 ∧ h < 4096 := ⟨x / 1048576, x / 524288 % 2, x % 524288, by omega, by omega, by omega, by omega⟩
  have h1 : x * 4096 % 4294967296 = 2147483648 * b + 4096 * l := by omega
  have h2 : x / 1048576 = h := by omega
  have h3 : x * 8192 % 4294967296 = 8192 * l := by omega
  have h4 : x / 524288 = 2 * h + b := by omega
  have hq : 4096 * l + h < 2147483648 := by omega
  rw [h1, h2, h3, h4]
  clear h1 h2 h3 h4 e hx
  obtain ⟨z, hz⟩ : ∃ z, z = 4096 * l + h := ⟨_, by exact rfl⟩
  rw [show 2147483648 * b + 4096 * l + h = 2147483648 * b + z by omega, show 8192 * l + (2 * h + b) = 2 * z + b by omega]
  rcases (by omega : b = 0 ∨ b = 1) with rfl | rfl <;> omega
theorem itL_14 (x : Nat) (hx : x < 4294967296) : itL 14 x = x * 16384 % 4294967296 + x / 262144 := by
  show itL 13 x * 2 % 4294967296 + itL 13 x / 2147483648 = _
  rw [itL_13 x hx]
  obtain ⟨h, b, l, e, hb, hl, hh⟩ : ∃ h b l, x = 524288 * h + 262144 * b + l ∧ b < 2 ∧ l < 262144 ∧ h < 8192 := ⟨x / 524288, x / 262144 % 2, x % 262144, by omega, by omega, by omega, by omega⟩
  have h1 : x * 8192 % 4294967296 = 2147483648 * b + 8192 * l := by omega
  have h2 : x / 524288 = h := by omega
  have h3 : x * 16384 % 4294967296 = 16384 * l := by omega
  have h4 : x / 262144 = 2 * h + b := by omega
  have hq : 8192 * l + h < 2147483648 := by omega
  rw [h1, h2, h3, h4]
  clear h1 h2 h3 h4 e hx
  obtain ⟨z, hz⟩ : ∃ z, z = 8192 * l + h := ⟨_, by exact rfl⟩
  rw [show 2147483648 * b + 8192 * l + h = 2147483648 * b + z by omega, show 16384 * l + (2 * h + b) = 2 * z + b by omega]
  rcases (by omega : b = 0 ∨ b = 1) with rfl | rfl <;> omega
theorem itL_15 (x : Nat) (hx : x < 4294967296) : itL 15 x = x * 32768 % 4294967296 + x / 131072 := by
  show itL 14 x * 2 % 4294967296 + itL 14 x / 2147483648 = _
  rw [itL_14 x hx]
  obtain ⟨h, b, l, e, hb, hl, hh⟩ : ∃ h b l, x = 262144 * h + 131072 * b + l ∧ b < 2 ∧ l < 131072 ∧ h < 16384 := ⟨x / 262144, x / 131072 % 2, x % 131072, by omega, by omega, by omega, by omega⟩
  have h1 : x * 16384 % 4294967296 = 2147483648 * b + 16384 * l := by omega
  have h2 : x / 262144 = h := by omega
  have h3 : x * 32768 % 4294967296 = 32768 * l := by omega
  have h4 : x / 131072 = 2 * h + b := by omega
  have hq : 16384 * l + h < 2147483648 := by omega
  rw [h1, h2, h3, h4]
  clear h1 h2 h3 h4 e hx
  obtain ⟨z, hz⟩ : ∃ z, z = 16384 * l + h := ⟨_, by exact rfl⟩
  rw [show 2147483648 * b + 16384 * l + h = 2147483648 * b + z by omega, show 32768 * l + (2 * h + b) = 2 * z + b by omega]
  rcases (by omega : b = 0 ∨ b = 1) with rfl | rfl <;> omega
theorem itL_16 (x : Nat) (hx : x < 4294967296) : itL 16 x = x * 65536 % 4294967296 + x / 65536 := by
  show itL 15 x * 2 % 4294967296 + itL 15 x / 2147483648 = _
  rw [itL_15 x hx]
  obtain ⟨h, b, l, e, hb, hl, hh⟩ : ∃ h b l, x = 131072 * h + 65536 * b + l ∧ b < 2 ∧ l < 65536 ∧ h < 32768 := ⟨x / 131072, x / 65536 % 2, x % 65536, by omega, by omega, by omega, by omega⟩
  have h1 : x * 32768 % 4294967296 = 2147483648 * b + 32768 * l := by omega
  have h2 : x / 131072 = h := by omega
  have h3 : x * 65536 % 4294967296 = 65536 * l := by omega
  have h4 : x / 65536 = 2 * h + b := by omega
  have hq : 32768 * l + h < 2147483648 := by omega
  rw [h1, h2, h3, h4]
  clear h1 h2 h3 h4 e hx
  obtain ⟨z, hz⟩ : ∃ z, z = 32768 * l + h := ⟨_, by exact rfl⟩
  rw [show 2147483648 * b + 32768 * l + h = 2147483648 * b + z by omega, show 65536 * l + (2 * h + b) = 2 * z + b by omega]
  rcases (by omega : b = 0 ∨ b = 1) with rfl | rfl <;> omega

theorem or_rot (n m x : Nat) (h : n + m = 32) (hx : x < 4294967296) : x * 2 ^ n % 4294967296 ||| x / 2 ^ m = x * 2 ^ n % 4294967296 + x / 2 ^ m := by
  have e : (4294967296 : Nat) = 2 ^ m * 2 ^ n := by rw [← Nat.pow_add, Nat.add_comm m n, h]
  have h1 : x * 2 ^ n % 4294967296 = 2 ^ n * (x % 2 ^ m) := by rw [e, Nat.mul_mod_mul_right, Nat.mul_comm]
  have h2 : x / 2 ^ m < 2 ^ n := by rw [Nat.div_lt_iff_lt_mul (Nat.two_pow_pos m)]; rw [e, Nat.mul_comm] at hx; exact hx
  rw [h1, Nat.two_pow_add_eq_or_of_lt h2]
theorem or_rot16 (x : Nat) (hx : (x : Int) ≤ 4294967295) : bits BinOp.or IntKind.u32 ((x : Int) * 65536 % 4294967296) ((x : Int) / 65536) = (itL 16 x : Nat) := by
  have h := or_rot 16 16 x rfl (by omega)
  rw [show (x : Int) * 65536 % 4294967296 = ((x * 65536 % 4294967296 : Nat) : Int) by omega, show (x : Int) / 65536 = ((x / 65536 : Nat) : Int) by omega, bits_or_u32_nat _ _ (by omega) (by omega), itL_16 x (by omega)]
  exact congrArg _ h
set_option maxHeartbeats 800000 in
theorem rot16 (x : Nat) (hx : (x : Int) ≤ 4294967295) (w : World) : Calls Try.prog 25 #[.int .u32 (x : Int), .int .i64 16] w fun e w' => e = .returned (.int .u32 (itL 16 x : Nat)) ∧ w = w' := by
  have hb : bits BinOp.and IntKind.u64 16 31 = 16 := by decide
  have HO := Lib.hid (or_rot16 x hx)
  go_enter Try.func25, Try.ntmps25
  go_wp2
  go_ret
  exact ⟨by rw [← HO.out]; rfl, rfl⟩
theorem or_rot12 (x : Nat) (hx : (x : Int) ≤ 4294967295) : bits BinOp.or IntKind.u32 ((x : Int) * 4096 % 4294967296) ((x : Int) / 1048576) = (itL 12 x : Nat) := by
  have h := or_rot 12 20 x rfl (by omega)
  rw [show (x : Int) * 4096 % 4294967296 = ((x * 4096 % 4294967296 : Nat) : Int) by omega, show (x : Int) / 1048576 = ((x / 1048576 : Nat) : Int) by omega, bits_or_u32_nat _ _ (by omega) (by omega), itL_12 x (by omega)]
  exact congrArg _ h
set_option maxHeartbeats 800000 in
theorem rot12 (x : Nat) (hx : (x : Int) ≤ 4294967295) (w : World) : Calls Try.prog 25 #[.int .u32 (x : Int), .int .i64 12] w fun e w' => e = .returned (.int .u32 (itL 12 x : Nat)) ∧ w = w' := by
  have hb : bits BinOp.and IntKind.u64 12 31 = 12 := by decide
  have HO := Lib.hid (or_rot12 x hx)
  go_enter Try.func25, Try.ntmps25
  go_wp2
  go_ret
  exact ⟨by rw [← HO.out]; rfl, rfl⟩
theorem or_rot8 (x : Nat) (hx : (x : Int) ≤ 4294967295) : bits BinOp.or IntKind.u32 ((x : Int) * 256 % 4294967296) ((x : Int) / 16777216) = (itL 8 x : Nat) := by
  have h := or_rot 8 24 x rfl (by omega)
  rw [show (x : Int) * 256 % 4294967296 = ((x * 256 % 4294967296 : Nat) : Int) by omega, show (x : Int) / 16777216 = ((x / 16777216 : Nat) : Int) by omega, bits_or_u32_nat _ _ (by omega) (by omega), itL_8 x (by omega)]
  exact congrArg _ h
set_option maxHeartbeats 800000 in
theorem rot8 (x : Nat) (hx : (x : Int) ≤ 4294967295) (w : World) : Calls Try.prog 25 #[.int .u32 (x : Int), .int .i64 8] w fun e w' => e = .returned (.int .u32 (itL 8 x : Nat)) ∧ w = w' := by
  have hb : bits BinOp.and IntKind.u64 8 31 = 8 := by decide
  have HO := Lib.hid (or_rot8 x hx)
  go_enter Try.func25, Try.ntmps25
  go_wp2
  go_ret
  exact ⟨by rw [← HO.out]; rfl, rfl⟩
theorem or_rot7 (x : Nat) (hx : (x : Int) ≤ 4294967295) : bits BinOp.or IntKind.u32 ((x : Int) * 128 % 4294967296) ((x : Int) / 33554432) = (itL 7 x : Nat) := by
  have h := or_rot 7 25 x rfl (by omega)
  rw [show (x : Int) * 128 % 4294967296 = ((x * 128 % 4294967296 : Nat) : Int) by omega, show (x : Int) / 33554432 = ((x / 33554432 : Nat) : Int) by omega, bits_or_u32_nat _ _ (by omega) (by omega), itL_7 x (by omega)]
  exact congrArg _ h
set_option maxHeartbeats 800000 in
theorem rot7 (x : Nat) (hx : (x : Int) ≤ 4294967295) (w : World) : Calls Try.prog 25 #[.int .u32 (x : Int), .int .i64 7] w fun e w' => e = .returned (.int .u32 (itL 7 x : Nat)) ∧ w = w' := by
  have hb : bits BinOp.and IntKind.u64 7 31 = 7 := by decide
  have HO := Lib.hid (or_rot7 x hx)
  go_enter Try.func25, Try.ntmps25
  go_wp2
  go_ret
  exact ⟨by rw [← HO.out]; rfl, rfl⟩
end Go.Proofs.Ytbgidkphbbpdeaa
