/- A row of parts; the contract of the law's few. -/
import Derived.Test.YtpdgbpoplljpkaaPackPut
namespace Go.Proofs.Ytpdgbpoplljpkaa
open Go.RowKit
set_option linter.unusedVariables false
set_option linter.unusedSimpArgs false

/-- The parts ps in a row that came in. -/
structure Parts (w : World) (a : Option Addr) (n : Nat) (ps : List Pt) : Prop where
  len : ps.length = n
  ok : ∀ p ∈ ps, p.Ok w
  mem : 0 < n → ∃ b o, a = some ⟨b, o, none⟩ ∧ ∀ (i : Nat) (p : Pt), ps[i]? = some p → w.cell? ⟨b, o + i * 3, none⟩ = some (.int .u8 p.k) ∧ w.cell? ⟨b, o + i * 3 + 1, none⟩ = some (.int .u64 (p.x : Int)) ∧ w.cell? ⟨b, o + i * 3 + 2, none⟩ = some (.slice p.q p.m p.c)
theorem Parts.below {w w' : World} {a : Option Addr} {len : Nat} {ps : List Pt} (h : Parts w a len ps) (hb : Below w.heap.size w w') : Parts w' a len ps := by
  refine ⟨h.len, fun p hp => (h.ok p hp).below hb, fun hn => ?_⟩
  obtain ⟨b, o, rfl, hc⟩ := h.mem hn
  refine ⟨b, o, rfl, fun i p hp => ?_⟩
  obtain ⟨c1, c2, c3⟩ := hc i p hp
  have F := Fr.of_below hb
  exact ⟨F.cell c1 (fun h => h), F.cell c2 (fun h => h), F.cell c3 (fun h => h)⟩

def sumTo (ps : List Pt) (k : Nat) : Nat := ((ps.take k).map fun p => min p.m 6000).sum
theorem sumTo_succ {ps : List Pt} {k : Nat} {p : Pt} (h : ps[k]? = some p) : sumTo ps (k + 1) = sumTo ps k + min p.m 6000 := by
  unfold sumTo
  rw [List.take_add_one, h]
  simp
theorem sumTo_le (ps : List Pt) (k : Nat) : sumTo ps k ≤ k * 6000 := by
  induction k with
  | zero => simp [sumTo]
  | succ k ih =>
    cases h : ps[k]? with
    | none =>
      have : sumTo ps (k + 1) = sumTo ps k := by unfold sumTo; rw [List.take_add_one, h]; simp
      omega
    | some p => rw [sumTo_succ h]; omega

/-- The law's few, as it answers. -/
def fewOf (ps : List Pt) : Bool := decide (ps.length ≤ 40 ∧ sumTo ps ps.length ≤ 25000)

set_option maxHeartbeats 1600000 in
theorem few_any (a : Option Addr) (len cap : Nat) (ps : List Pt) (w : World) (h : Parts w a len ps) :
    Calls Try.prog 14 #[.slice a len cap] w fun e w' => e = .returned (.bool (fewOf ps)) ∧ w = w' := by
  have H := Lib.hid h
  clear h
  go_enter Try.func14, Try.ntmps14
  go_wp2_with fail
  go_loop [3, 4] (fun v u => ∃ (s k : Nat), v = .int .i64 s ∧ u = .int .i64 k ∧ k ≤ len ∧ k ≤ 50 ∧ s = sumTo ps k) (fun v u => len - (intOf u).toNat)
  case atStart => exact ⟨0, 0, rfl, rfl, Nat.zero_le _, by omega, by simp [sumTo]⟩
  case round =>
    obtain ⟨s, k, rfl, rfl, hk, hk5, hs⟩ := hrel
    have hsl : s ≤ k * 6000 := by rw [hs]; exact sumTo_le _ _
    have HS := Lib.hid hs
    clear hs
    by_cases hlt : (k : Int) < len
    · by_cases h50 : (k : Int) < 50
      · obtain ⟨b, o, rfl, hc⟩ := H.out.mem (by omega)
        obtain ⟨p, hp⟩ : ∃ p, ps[k]? = some p := ⟨_, List.getElem?_eq_getElem (by rw [H.out.len]; omega)⟩
        obtain ⟨c1, c2, c3⟩ := hc k p hp
        have HN := Lib.hid (sumTo_succ hp)
        clear hc hp c1 c2
        obtain ⟨kk, x, q, m, c, bs⟩ := p
        simp only at c3 HN
        by_cases hm : (m : Int) ≤ 6000
        · have hsum : IntKind.i64.wrap ((s : Int) + m) = ((s + m : Nat) : Int) := by rw [IntWalk.i64_in _ (by omega)]; omega
          go_wp2
          go_round
          case rel => exact ⟨s + min m 6000, k + 1, by go_num, by go_num, by omega, by omega, by rw [HN.out, HS.out]⟩
          case measure => simp [intOf]; omega
        · go_wp2
          go_round
          case rel => exact ⟨s + min m 6000, k + 1, by go_num, by go_num, by omega, by omega, by rw [HN.out, HS.out]⟩
          case measure => simp [intOf]; omega
      · have hf : fewOf ps = false := by simp [fewOf, H.out.len]; omega
        have HF := Lib.hid hf
        clear hf
        go_wp2
        go_ret
        exact ⟨by rw [HF.out]; rfl, rfl⟩
    · obtain rfl : k = len := by omega
      by_cases h40 : (k : Int) ≤ 40
      · have hf : fewOf ps = decide ((s : Int) ≤ 25000) := by
          have e1 : ps.length = k := H.out.len
          have e2 : s = sumTo ps k := HS.out
          have hk40 : k ≤ 40 := by omega
          simp [fewOf, e1, ← e2, hk40]; omega
        have HF := Lib.hid hf
        clear hf
        go_wp2
        go_ret
        exact ⟨by rw [HF.out]; rfl, rfl⟩
      · have hf : fewOf ps = false := by simp [fewOf, H.out.len]; omega
        have HF := Lib.hid hf
        clear hf
        go_wp2
        go_ret
        exact ⟨by rw [HF.out]; rfl, rfl⟩
end Go.Proofs.Ytpdgbpoplljpkaa
