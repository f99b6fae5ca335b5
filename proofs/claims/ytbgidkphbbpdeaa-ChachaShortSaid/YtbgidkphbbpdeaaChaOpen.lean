/- An argument that is an array of bytes, by value: opened. -/
import Derived.Test.YtbgidkphbbpdeaaChaBegun
import Derived.ProofKit
import Derived.OpenShut
import Derived.ChangeOld
import Derived.Below
namespace Go.Proofs.Ytbgidkphbbpdeaa
open Go.ChangeShapes Go.WideShapes Go.ChangeAt Go.RowKit
set_option linter.unusedVariables false
set_option linter.unusedSimpArgs false

theorem okWide_arr {P : Program} {w : World} {r : Reach} {b0 : Nat} {t e : TypeId} {n : Nat} {v : Value} (ht : P.underlying t = some (.array n e)) (h : Value.okWide P w r b0 t v) : ∃ cs, v = .agg cs ∧ cs.size = P.cellsOf t := by
  simp only [Value.okWide, ht] at h
  obtain ⟨cs, rfl, hs, _⟩ := h
  exact ⟨cs, rfl, hs⟩

theorem u32_of_wf {x : Int} (h : (Lit.int .u32 x).wf = true) : 0 ≤ x ∧ x ≤ 4294967295 := by
  simp [Lit.wf, IntKind.min, IntKind.max, IntKind.signed, IntKind.bits] at h
  omega
theorem u16_of_wf {x : Int} (h : (Lit.int .u16 x).wf = true) : 0 ≤ x ∧ x ≤ 65535 := by
  simp [Lit.wf, IntKind.min, IntKind.max, IntKind.signed, IntKind.bits] at h
  omega
theorem u8_of_wf {x : Int} (h : (Lit.int .u8 x).wf = true) : 0 ≤ x ∧ x ≤ 255 := bounds_u8 h
theorem open_octs {H : Type} {enc : TypeId × Value → H} {P : Program} {w : World} {base : Nat} {sp : Nat → Bool} {held : Bool} {t : TypeId} {n : Nat} {cs : Array Value} {d : DataW H} {p : List MemPlace}
    (ht : P.underlying t = some (.array n 5)) (he : P.underlying 5 = some (.int .u8)) (hce : P.cellsOf 5 = 1) (hct : P.cellsOf t = n) (hsz : cs.size = P.cellsOf t) (h : DataW.Trod enc P w base sp held t (.agg cs) d p) :
    ∃ ks : List Nat, Value.agg cs = octVal ks ∧ ks.length = n ∧ ∀ x ∈ ks, x < 256 := by
  obtain ⟨fuel, hf⟩ := h
  obtain ⟨xs, m, _, _, _, hlen, hg⟩ := DataW.trod_array ht hf
  have key : ∀ i, (hi : i < cs.size) → ∃ k : Nat, k < 256 ∧ cs[i] = .int .u8 (k : Int) := by
    intro i hi
    have hin : i < n := by rw [← hct, ← hsz]; exact hi
    have h1 := hg i hin
    rw [hce] at h1
    have hx : xs[i]? = some (xs[i]'(by omega)) := List.getElem?_eq_getElem (by omega)
    have hd : ((Value.agg cs).cells.toList.drop (i * 1)).take 1 = [cs[i]] := by
      show (cs.toList.drop (i * 1)).take 1 = _
      rw [Nat.mul_one, List.drop_eq_getElem_cons (by simpa using hi)]
      simp
    rw [hd, hx] at h1
    obtain ⟨z, hz, _, hw⟩ := DataW.trod_int he h1
    simp at hz
    have hb := bounds_u8 hw
    refine ⟨z.toNat, by omega, ?_⟩
    rw [hz, Int.toNat_of_nonneg hb.1]
  refine ⟨cs.toList.map fun v => match v with | .int _ z => z.toNat | _ => 0, ?_, by simp [hsz, hct], ?_⟩
  · unfold octVal
    congr 1
    apply Array.ext (by simp)
    intro i h1 h2
    obtain ⟨k, _, e⟩ := key i h1
    simp [e]
  · intro x hx
    simp only [List.mem_map] at hx
    obtain ⟨v, hv, rfl⟩ := hx
    obtain ⟨i, hi, rfl⟩ := List.getElem_of_mem hv
    obtain ⟨k, hk, e⟩ := key i (by simpa using hi)
    simp [e, hk]
end Go.Proofs.Ytbgidkphbbpdeaa
