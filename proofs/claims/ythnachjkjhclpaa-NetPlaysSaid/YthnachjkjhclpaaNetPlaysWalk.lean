/- The walk of NetPlays (under way). -/
import Derived.Test.YthnachjkjhclpaaNetRefTakeSome
import Derived.Test.YthnachjkjhclpaaNetDouble
import Derived.Test.YthnachjkjhclpaaNetFullWalk
namespace Go.Proofs.Ythnachjkjhclpaa
open Go.RowKit
set_option linter.unusedVariables false
set_option linter.unusedSimpArgs false

/-- Two letters that say the same. -/
def Alike (a b : Lt) : Prop := a.f = b.f ∧ a.t = b.t ∧ a.m = b.m ∧ a.bs = b.bs
/-- What holds in the loop of the calls. -/
structure PlayR (w1 : World) (base B R : Nat) (wr : World) : Prop where
  ex : ∃ (p : Option Addr) (cap : Nat) (q : Option Addr) (cap' n : Nat) (ls ls' : List Lt), NetAt wr B base p n cap ls ∧ RefAt wr R base q n cap' ls' ∧ n ≤ 200 ∧ (∀ (k : Nat) (a b : Lt), ls[k]? = some a → ls'[k]? = some b → Alike a b) ∧ (∀ l ∈ ls', l.m ≤ 16384) ∧ (∀ i, blk q = some i → i ≠ B ∧ blk p ≠ some i ∧ ∀ l ∈ ls, blk l.q ≠ some i) ∧ (∀ i, blk p = some i → i ≠ R) ∧ (∀ l ∈ ls, blk l.q ≠ some R)
  bel : Below base w1 wr

set_option maxRecDepth 100000 in
set_option maxHeartbeats 3200000 in
theorem plays_few (a : Option Addr) (len cap : Nat) (ps : List OpV) (w : World) (h : Ops w a len ps) (hf : opFew ps = false) :
    Calls Try.prog 6 #[.slice a len cap] w fun e w' => e = .returned (.bool true) ∧ Below w.heap.size w w' := by
  have HF := Lib.hid hf
  have H := Lib.hid h
  clear hf h
  go_enter Try.func6, Try.ntmps6
  go_wp2_with fail
  refine (awake_any _).mono ?_
  rintro e w1 ⟨rfl, hb1⟩
  go_wp2_with fail
  refine (opFew_any a len cap ps _ (H.out.below hb1)).mono ?_
  rintro e w2 ⟨rfl, rfl⟩
  rw [HF.out]
  go_wp2_with fail
  refine (awake_any _).mono ?_
  rintro e w2 ⟨rfl, hb2⟩
  go_wp2_with fail
  go_ret
  exact ⟨rfl, hb1.trans (hb2.mono hb1.size)⟩
end Go.Proofs.Ythnachjkjhclpaa
