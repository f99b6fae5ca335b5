/- The contract of chacha's putLittle, at four bytes. -/
import Derived.Test.YtbgidkphbbpdeaaChaBegun
namespace Go.Proofs.Ytbgidkphbbpdeaa
open Go.RowKit
set_option linter.unusedVariables false
set_option linter.unusedSimpArgs false

def put4 (xs : List Nat) (o x : Nat) : Nat → List Nat
  | 0 => xs
  | k + 1 => (put4 xs o x k).set (o + k) (x / 256 ^ k % 256)

set_option maxHeartbeats 1600000 in
theorem put_any (B t n o cap : Nat) (xs : List Nat) (x : Nat) (hx : (x : Int) ≤ 4294967295) (w : World) (h : Octs w B t n xs) (ho : o + 4 ≤ n) :
    Calls Try.prog 17 #[.slice (some ⟨B, o, none⟩) 4 cap, .int .u64 (x : Int)] w fun e w' => e = .returned (.tuple #[]) ∧ Octs w' B t n (put4 xs o x 4) ∧ Fr w w' (fun k => k = B) := by
  have H := Lib.hid h
  have HO := Lib.hid ho
  clear h ho
  go_enter Try.func17, Try.ntmps17
  go_wp2_with fail
  go_loopw [7] (fun v wr => ∃ (i : Nat), v = .int .i64 i ∧ i ≤ 4 ∧ Octs wr B t n (put4 xs o x i) ∧ Fr w wr (fun k => k = B)) (fun v _ => 4 - (intOf v).toNat)
  case atStart => exact ⟨0, rfl, by omega, H.out, Fr.refl _ _⟩
  case round =>
    obtain ⟨i, rfl, hi, hQ, hF⟩ := hrel
    rcases (by omega : i = 0 ∨ i = 1 ∨ i = 2 ∨ i = 3 ∨ i = 4) with rfl | rfl | rfl | rfl | rfl
    · have hgc : wr.cell? ⟨B, o, none⟩ = _ := hQ.cell o (by have := HO.out; omega)
      have hgf : wr.frozen? ⟨B, o, none⟩ = false := hQ.frozen o
      have HF := Lib.hid (hF.set ⟨B, o, none⟩ (.int .u8 (((x / 256 ^ 0 % 256 : Nat)) : Int)) rfl)
      have HQ := Lib.hid (hQ.set o (x / 256 ^ 0 % 256) (Nat.mod_lt _ (by decide)))
      have HV : Hid ((x : Int) % 256 = ((x / 256 ^ 0 % 256 : Nat) : Int)) := Lib.hid (by simp)
      clear hQ hF
      go_wp2_with fail
      go_roundw
      case rel => exact ⟨1, by go_num, by omega, by rw [HV.out]; exact HQ.out, by rw [HV.out]; exact HF.out⟩
      case measure => simp [intOf]
    · have hgc : wr.cell? ⟨B, o + 1, none⟩ = _ := hQ.cell (o + 1) (by have := HO.out; omega)
      have hgf : wr.frozen? ⟨B, o + 1, none⟩ = false := hQ.frozen (o + 1)
      have HF := Lib.hid (hF.set ⟨B, o + 1, none⟩ (.int .u8 (((x / 256 ^ 1 % 256 : Nat)) : Int)) rfl)
      have HQ := Lib.hid (hQ.set (o + 1) (x / 256 ^ 1 % 256) (Nat.mod_lt _ (by decide)))
      have HV : Hid ((x : Int) / 256 % 256 = ((x / 256 ^ 1 % 256 : Nat) : Int)) := Lib.hid (by simp)
      clear hQ hF
      go_wp2_with fail
      go_roundw
      case rel => exact ⟨2, by go_num, by omega, by rw [HV.out]; exact HQ.out, by rw [HV.out]; exact HF.out⟩
      case measure => simp [intOf]
    · have hgc : wr.cell? ⟨B, o + 2, none⟩ = _ := hQ.cell (o + 2) (by have := HO.out; omega)
      have hgf : wr.frozen? ⟨B, o + 2, none⟩ = false := hQ.frozen (o + 2)
      have HF := Lib.hid (hF.set ⟨B, o + 2, none⟩ (.int .u8 (((x / 256 ^ 2 % 256 : Nat)) : Int)) rfl)
      have HQ := Lib.hid (hQ.set (o + 2) (x / 256 ^ 2 % 256) (Nat.mod_lt _ (by decide)))
      have HV : Hid ((x : Int) / 65536 % 256 = ((x / 256 ^ 2 % 256 : Nat) : Int)) := Lib.hid (by simp)
      clear hQ hF
      go_wp2_with fail
      go_roundw
      case rel => exact ⟨3, by go_num, by omega, by rw [HV.out]; exact HQ.out, by rw [HV.out]; exact HF.out⟩
      case measure => simp [intOf]
    · have hgc : wr.cell? ⟨B, o + 3, none⟩ = _ := hQ.cell (o + 3) (by have := HO.out; omega)
      have hgf : wr.frozen? ⟨B, o + 3, none⟩ = false := hQ.frozen (o + 3)
      have HF := Lib.hid (hF.set ⟨B, o + 3, none⟩ (.int .u8 (((x / 256 ^ 3 % 256 : Nat)) : Int)) rfl)
      have HQ := Lib.hid (hQ.set (o + 3) (x / 256 ^ 3 % 256) (Nat.mod_lt _ (by decide)))
      have HV : Hid ((x : Int) / 16777216 = ((x / 256 ^ 3 % 256 : Nat) : Int)) := Lib.hid (by simp; omega)
      clear hQ hF
      go_wp2_with fail
      go_roundw
      case rel => exact ⟨4, by go_num, by omega, by rw [HV.out]; exact HQ.out, by rw [HV.out]; exact HF.out⟩
      case measure => simp [intOf]
    · have HQ := Lib.hid hQ
      have HF := Lib.hid hF
      clear hQ hF
      go_wp2_with fail
      go_end0
      exact ⟨rfl, HQ.out, HF.out⟩
end Go.Proofs.Ytbgidkphbbpdeaa
