/- An element of a block of bytes, by value. -/
import Derived.Test.YtbgidkphbbpdeaaChaBegun
namespace Go.Proofs.Ytbgidkphbbpdeaa
open Go.RowKit
set_option linter.unusedVariables false
set_option linter.unusedSimpArgs false

theorem index_oct {P : Program} (t : TypeId) (n : Nat) (ht : P.underlying t = some (.array n 5)) (hs : ∀ w : World, (sizeOf 5).run P w = .ok 1 w) (ha : ∀ w : World, (isAgg 5).run P w = .ok false w) (ks : List Nat) (E : Array Value) (hE : E = (ks.map fun (x : Nat) => Value.int .u8 (x : Int)).toArray) (hl : ks.length = n) (i : Nat) (hi : i < n) (w : World) :
    (Instr.index t (.agg E) (.int .i64 (i : Int))).run P w = .ok (.int .u8 (ks.getD i 0 : Nat)) w := by
  have e : E[i]? = some (.int .u8 (ks.getD i 0 : Nat)) := by
    rw [hE]
    simp [List.getD, List.getElem?_eq_getElem (show i < ks.length by omega)]
  have hi' : (i : Int) < n := by omega
  have hi0 : (0 : Int) ≤ (i : Int) := by omega
  have hp : (part 5 E i).run P w = .ok (.int .u8 (ks.getD i 0 : Nat)) w := by
    unfold part
    simp only [Sem.run_bind, ha, Result.andThen, e]
    rfl
  simp only [Instr.index, asIntOf, Sem.run_bind, Sem.run_pure, Result.andThen, run_underlying ht]
  rw [if_pos ⟨hi0, hi'⟩]
  simp only [Sem.run_bind, hs, Result.andThen, Int.toNat_natCast, Nat.mul_one, hp]
end Go.Proofs.Ytbgidkphbbpdeaa
