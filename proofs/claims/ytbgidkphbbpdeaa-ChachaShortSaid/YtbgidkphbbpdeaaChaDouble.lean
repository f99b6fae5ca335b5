/- The contract of chacha's double. -/
import Derived.Test.YtbgidkphbbpdeaaChaQuarter
namespace Go.Proofs.Ytbgidkphbbpdeaa
open Go.RowKit
set_option linter.unusedVariables false
set_option linter.unusedSimpArgs false

def colF : Nat → List Nat → List Nat
  | 0, gs => gs
  | i + 1, gs => qround (colF i gs) i (4 + i) (8 + i) (12 + i)
def diagF : Nat → List Nat → List Nat
  | 0, gs => gs
  | i + 1, gs => qround (diagF i gs) i (4 + (i + 1) % 4) (8 + (i + 2) % 4) (12 + (i + 3) % 4)
def dround (gs : List Nat) : List Nat := diagF 4 (colF 4 gs)

set_option maxRecDepth 100000 in
set_option maxHeartbeats 1600000 in
theorem double_any (B : Nat) (t : TypeId) (gs : List Nat) (w : World) (h : Grid w B t gs) :
    Calls Try.prog 16 #[.pointer (some ⟨B, 0, none⟩)] w fun e w' => e = .returned (.tuple #[]) ∧ Grid w' B t (dround gs) ∧ Fr w w' (fun k => k = B) := by
  have H := Lib.hid h
  clear h
  go_enter Try.func16, Try.ntmps16
  go_wp2_with fail
  go_loopw [4] (fun v wr => ∃ (i : Nat), v = .int .i64 i ∧ i ≤ 4 ∧ Grid wr B t (colF i gs) ∧ Fr w wr (fun k => k = B)) (fun v _ => 4 - (intOf v).toNat)
  case atStart => exact ⟨0, rfl, by omega, H.out, Fr.refl _ _⟩
  case round =>
    obtain ⟨i, rfl, hi, hG, hF⟩ := hrel
    by_cases hlt : (i : Int) < 4
    · have K0 := quarter_any B t _ i (4 + i) (8 + i) (12 + i) (by omega) (by omega) (by omega) (by omega) wr hG
      simp only [Int.natCast_add] at K0
      have K := Lib.hid K0
      have HF := Lib.hid hF
      clear hG hF K0
      go_wp2_with fail
      refine K.out.mono ?_
      rintro e w2 ⟨rfl, hG2, hF2⟩
      have HG2 := Lib.hid hG2
      have HF2 := Lib.hid ((HF.out.trans hF2).mono (U := fun k => k = B) (by simp))
      clear hG2 hF2
      go_wp2
      go_roundw
      case rel => exact ⟨i + 1, by go_num, by omega, HG2.out, HF2.out⟩
      case measure => simp [intOf]; omega
    · obtain rfl : i = 4 := by omega
      obtain ⟨cs, hcs⟩ : ∃ cs, colF 4 gs = cs := ⟨_, rfl⟩
      rw [hcs] at hG
      have HC := Lib.hid hcs
      have HG := Lib.hid hG
      have HF := Lib.hid hF
      clear hG hF hcs
      go_wp2_with fail
      go_loopw [17] (fun v w3 => ∃ (i : Nat), v = .int .i64 i ∧ i ≤ 4 ∧ Grid w3 B t (diagF i cs) ∧ Fr w w3 (fun k => k = B)) (fun v _ => 4 - (intOf v).toNat)
      case atStart => exact ⟨0, rfl, by omega, HG.out, HF.out⟩
      case round =>
        obtain ⟨i, rfl, hi2, hG, hF⟩ := hrel
        by_cases hlt : (i : Int) < 4
        · have K0 := quarter_any B t _ i (4 + (i + 1) % 4) (8 + (i + 2) % 4) (12 + (i + 3) % 4) (by omega) (by omega) (by omega) (by omega) _ hG
          obtain ⟨x1, e1⟩ : ∃ x : Nat, (i + 1) % 4 = x := ⟨_, rfl⟩
          obtain ⟨x2, e2⟩ : ∃ x : Nat, (i + 2) % 4 = x := ⟨_, rfl⟩
          obtain ⟨x3, e3⟩ : ∃ x : Nat, (i + 3) % 4 = x := ⟨_, rfl⟩
          have f1 : ((i : Int) + 1) % 4 = x1 := by omega
          have f2 : ((i : Int) + 2) % 4 = x2 := by omega
          have f3 : ((i : Int) + 3) % 4 = x3 := by omega
          have l1 : (x1 : Int) < 4 := by omega
          have l2 : (x2 : Int) < 4 := by omega
          have l3 : (x3 : Int) < 4 := by omega
          have E : diagF (i + 1) cs = qround (diagF i cs) i (4 + x1) (8 + x2) (12 + x3) := by show qround _ _ _ _ _ = _; rw [e1, e2, e3]
          rw [e1, e2, e3] at K0
          simp only [Int.natCast_add] at K0
          have K := Lib.hid K0
          have HF := Lib.hid hF
          have HE := Lib.hid E
          clear hG hF K0 e1 e2 e3 E
          go_wp2_with fail
          refine K.out.mono ?_
          rintro e w2 ⟨rfl, hG2, hF2⟩
          have HG2 := Lib.hid hG2
          have HF2 := Lib.hid ((HF.out.trans hF2).mono (U := fun k => k = B) (by simp))
          clear hG2 hF2
          go_wp2
          go_roundw
          case rel => exact ⟨i + 1, by go_num, by omega, by rw [HE.out]; exact HG2.out, HF2.out⟩
          case measure => simp [intOf]; omega
        · obtain rfl : i = 4 := by omega
          have HG4 := Lib.hid hG
          have HF4 := Lib.hid hF
          clear hG hF
          go_wp2
          go_end0
          exact ⟨rfl, by show Grid _ B t (diagF 4 (colF 4 gs)); rw [HC.out]; exact HG4.out, HF4.out⟩
end Go.Proofs.Ytbgidkphbbpdeaa
