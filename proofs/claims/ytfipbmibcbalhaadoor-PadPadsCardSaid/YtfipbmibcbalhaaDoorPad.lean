/- The contract of pad.Pad. -/
import Derived.Test.YtfipbmibcbalhaaDoorBucket
import Derived.Test.YtfipbmibcbalhaaDoorMem
import Derived.Test.YtfipbmibcbalhaaDoorClone
namespace Go.Proofs.YtfipbmibcbalhaaDoor
open Go.RowKit
set_option linter.unusedVariables false
set_option linter.unusedSimpArgs false

/-- A padded text's cells: the text, the mark, noughts up to m. -/
def padN (xs : List Int) (m : Nat) : List Int := xs ++ 128 :: List.replicate (m - xs.length - 1) 0
def padL (xs : List Int) (m : Nat) : List Value := (padN xs m).map (Value.int .u8)
def padA (xs : List Int) (m : Nat) : Array Value := (padL xs m).toArray
theorem padN_length (xs : List Int) (m : Nat) (h : xs.length < m) : (padN xs m).length = m := by simp [padN]; omega
theorem pad_cells (xs : List Int) (m : Nat) (h : xs.length < m) :
    (splice (List.replicate m (Value.int .u8 0)) 0 (xs.map (Value.int .u8))).set xs.length (.int .u8 128) = padL xs m := by
  obtain ⟨d, rfl⟩ : ∃ d, m = xs.length + 1 + d := ⟨m - xs.length - 1, by omega⟩
  simp [splice, padL, padN, List.set_append, show xs.length + 1 + d - xs.length = d + 1 by omega, List.replicate_succ]

theorem padN_rng (xs : List Int) (m : Nat) (h : ∀ x ∈ xs, 0 ≤ x ∧ x ≤ 255) : ∀ x ∈ padN xs m, 0 ≤ x ∧ x ≤ 255 := by
  intro x hx
  simp only [padN, List.mem_append, List.mem_cons, List.mem_replicate] at hx
  rcases hx with hx | rfl | ⟨_, rfl⟩
  · exact h x hx
  · omega
  · omega
/-- The new block as a source. -/
theorem pad_src (w : World) (xs : List Int) (m : Nat) (h : xs.length < m) (hr : ∀ x ∈ xs, 0 ≤ x ∧ x ≤ 255) : Src (w.alloc (.cells (padA xs m) 5)) (some ⟨w.heap.size, 0, none⟩) m (padN xs m) := by
  refine ⟨padN_length xs m h, padN_rng xs m hr, fun _ => ⟨_, _, rfl, fun i hi => ?_⟩⟩
  rw [World.cell?_alloc_at _ _ _ _ rfl]
  simp [padA, padL, List.getD, padN_length xs m h, hi]

theorem rep_cancel : ∀ (k l : Nat) (a b : List Int), List.replicate k 0 ++ 128 :: a = List.replicate l 0 ++ 128 :: b → a = b
  | 0, 0, a, b, h => by simpa using h
  | 0, l + 1, a, b, h => by simp [List.replicate_succ] at h
  | k + 1, 0, a, b, h => by simp [List.replicate_succ] at h
  | k + 1, l + 1, a, b, h => rep_cancel k l a b (by simpa [List.replicate_succ] using h)
theorem padN_inj {xs ys : List Int} {m m' : Nat} (h : padN xs m = padN ys m') : xs = ys := by
  have h1 := congrArg List.reverse h
  simp only [padN, List.reverse_append, List.reverse_cons, List.reverse_replicate, List.append_assoc, List.singleton_append] at h1
  have := rep_cancel _ _ _ _ h1
  simpa using congrArg List.reverse this

theorem Tryd.size5 : (Tryd.prog.info? 5).map (·.size) = some 1 := by kernel_rfl

set_option maxHeartbeats 400000 in
theorem pad_ok (p : Option Addr) (n c m : Nat) (xs : List Int) (w : World) (h : Src w p n xs) (hm : bkt n = (m : Int)) (he : bke n = 0) (hnm : n < m) (hm2 : m ≤ 2048) :
    Calls Tryd.prog 8 #[.slice p n c] w fun e w' => e = .returned (.tuple #[.slice (some ⟨w.heap.size, 0, none⟩) m m, .int .i64 0]) ∧ w.alloc (.cells (padA xs m) 5) = w' := by
  have hlen := h.len
  obtain ⟨C0, hC0⟩ : ∃ C : Array Value, C.toList = List.replicate m (.int .u8 0) := ⟨(List.replicate m (.int .u8 0)).toArray, rfl⟩
  obtain ⟨C1, hC1⟩ : ∃ C : Array Value, C.toList = splice C0.toList 0 (xs.map (Value.int .u8)) := ⟨(splice C0.toList 0 (xs.map (Value.int .u8))).toArray, rfl⟩
  have z0 : C0.size = m := by rw [← Array.length_toList, hC0]; simp
  have z1 : C1.size = m := by rw [← Array.length_toList, hC1, length_splice _ _ _ (by simp; omega)]; simpa using z0
  obtain ⟨v0, hv0⟩ : ∃ v, C1[n]? = some v := ⟨C1[n], by simp⟩
  have HF := Lib.hid (show 0 + (xs.map (Value.int .u8)).length ≤ C0.size by simp; omega)
  have HR : Hid ((C1.setIfInBounds n (.int .u8 128)) = padA xs m) := by
    apply Array.toList_inj.1
    rw [padA, Array.toList_setIfInBounds, hC1, hC0, ← hlen, pad_cells xs m (by omega)]
  have HPOS := Lib.hid (h.srcCells (w.alloc (.cells C0 5)) (below_alloc _ _))
  have HN := Lib.hid (show (xs.map (Value.int .u8)).length = Nat.min n m by rw [List.length_map, hlen]; exact (Nat.min_eq_left (by omega)).symm)
  have HC0 := Lib.hid hC0
  have HC1 := Lib.hid hC1
  have hm3 : (m : Int) ≤ 2048 := by omega
  have hnm' : (n : Int) < m := by omega
  have hl2 : (xs.map (Value.int .u8)).length = n := by simpa using hlen
  have HL := Lib.hid hlen
  clear h hC0 hC1 hlen hm2
  go_enter Tryd.func8, Tryd.ntmps8
  go_wp2_with (first | (go_at_call 11; refine (bucket_any _ _).mono ?_; rintro e w' ⟨rfl, rfl⟩) | (at_make; refine wpList_make_named _ rfl (.tmp 16) (.tmp 16) 22 rfl 5 (.int .u8 0) 1 Tryd.underlying22 Tryd.info5 rfl .i64 .i64 m m m rfl rfl rfl rfl (by omega) (by unfold maxLen; omega) C0 HC0.out ?_) | (with_reducible refine wpList_copy_named rfl (.tmp 18) (.tmp 19) 22 22 rfl 5 Tryd.underlying22 Tryd.size5 _ _ _ _ _ _ rfl rfl 0 C0 5 (xs.map (Value.int .u8)) HN.out (fun h0 => ⟨rfl, HPOS.out h0⟩) HF.out (ints_oneCell _ _) C1 HC1.out ?_))
  go_ret2
  exact ⟨rfl, by rw [HR.out]⟩

set_option maxHeartbeats 400000 in
theorem pad_long (p : Option Addr) (n c : Nat) (w : World) (he : bke n = 3) :
    Calls Tryd.prog 8 #[.slice p n c] w fun e w' => e = .returned (.tuple #[.slice none 0 0, .int .i64 3]) ∧ w = w' := by
  have HE := Lib.hid he
  clear he
  go_enter Tryd.func8, Tryd.ntmps8
  go_wp2_with (go_at_call 11; refine (bucket_any _ _).mono ?_; rintro e w' ⟨rfl, rfl⟩; rw [HE.out])
  go_ret2
  exact ⟨rfl, rfl⟩
end Go.Proofs.YtfipbmibcbalhaaDoor
