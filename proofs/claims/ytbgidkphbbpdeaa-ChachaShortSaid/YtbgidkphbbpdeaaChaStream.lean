/- The contract of chacha's Stream. -/
import Derived.Test.YtbgidkphbbpdeaaChaXor
import Derived.Deep.RegionHeld3
namespace Go.Proofs.Ytbgidkphbbpdeaa
open Go.RowKit
set_option linter.unusedVariables false
set_option linter.unusedSimpArgs false

/-- The stream's first n bytes. -/
def strL (s : Nat → Nat) (n : Nat) : List Int := (List.range n).map fun j => (s j : Int)
theorem xorL_zeros (s : Nat → Nat) (n : Nat) : xorL (List.replicate n 0) s n = strL s n := by
  unfold xorL strL
  apply List.map_congr_left
  intro j hj
  have : (List.replicate n (0 : Int)).getD j 0 = 0 := by
    have hj' := List.mem_range.1 hj
    simp [List.getD, List.getElem?_replicate, hj']
  rw [this]
  simp
/-- 'make([]byte, n)': zeros. -/
theorem wp_make_zeros {P : Program} {o : Oper} {a : Act} {w : World} {K : Act → World → Prop} {Q : Exit → Act → World → Prop} (l c : Operand) (t : TypeId) (hop : o.op = Op.makeSlice t l c) (h1 : P.underlying t = some (.slice 5))
    (hi : (P.info? 5).map (fun i => (i.zero, i.size, i.bytes)) = some (some (.int .u8 0), 1, 1)) (n : Nat) (hl : a.eval l = .int .i64 (n : Int)) (hc : a.eval c = .int .i64 (n : Int)) (hn : n ≤ 140737488355328)
    (h : ∀ A : Array Value, A.toList = List.replicate n (.int .u8 0) → K (a.put o.dst (.slice (some ⟨w.heap.size, 0, none⟩) n n)) (w.alloc (.cells A 5))) : o.wp P a w K Q := by
  obtain ⟨i, hi1, hi2, hi3, hi4⟩ := info_parts hi
  have hr := run_make (P := P) w t 5 i (.int .u8 0) h1 hi1 hi2 .i64 .i64 n n (by omega) (Int.le_refl _) (by rw [hi4]; omega) (by omega)
  simp only [Int.toNat_natCast, hi3, Nat.mul_one, show (Value.int .u8 0).cells = #[.int .u8 0] from rfl, toList_madeCells] at hr
  unfold Oper.wp
  simp only [execOp, hop, hl, hc, hr, Result.andThen, Sem.run_bind]
  exact h _ (by simp)
theorem src_zeros (w : World) (n : Nat) (A : Array Value) (hA : A.toList = List.replicate n (.int .u8 0)) : Src (w.alloc (.cells A 5)) (some ⟨w.heap.size, 0, none⟩) n (List.replicate n 0) := by
  refine ⟨by simp, fun x hx => by rw [List.eq_of_mem_replicate hx]; decide, fun hn => ⟨w.heap.size, 0, rfl, fun i hi => ?_⟩⟩
  rw [Nat.zero_add, cell_of_row _ _ _ _ _ _ (heap_alloc_new w _), ← Array.getElem?_toList, hA]
  simp [List.getElem?_replicate, hi, List.getD]

theorem range_fr {w w' : World} {b o : Nat} {cs : List Value} (h : w.rangeAt b o cs) (hf : Fr w w' (fun _ => False)) : w'.rangeAt b o cs := fun j v hj => hf.cell (h j v hj) (fun h => h)
theorem xor_any (key nonce : List Nat) (c0 : Nat) (hk : key.length = 32) (hn : nonce.length = 12) (hkl : ∀ x ∈ key, x < 256) (hnl : ∀ x ∈ nonce, x < 256) (hc0 : (c0 : Int) ≤ 4294967295)
    (p : Option Addr) (n cap : Nat) (xs : List Int) (w : World) (hs : Src w p n xs) (hnn : (n : Int) ≤ 140737488355328) :
    Calls Try.prog 11 #[octVal key, octVal nonce, .int .u32 (c0 : Int), .slice p n cap] w (XorPost w n (xorL xs (strm key nonce c0) n)) :=
  callsIn_wide.1 (xor_in key nonce c0 hk hn hkl hnl hc0 p n cap xs w hs hnn)

def StreamPost (w : World) (n : Nat) (ys : List Int) (e : Ending) (w' : World) : Prop := ∃ q cap, e = .returned (.tuple #[.slice q n cap, .int .i64 0]) ∧ Own w' w.heap.size q n cap ys ∧ Below w.heap.size w w'
/-- Refused. -/
theorem stream_no (C D : Array Value) (c0 : Nat) (n : Int) (hn : n < 0 ∨ 65536 < n) (w : World) :
    Calls Try.prog 13 #[.agg C, .agg D, .int .u32 (c0 : Int), .int .i64 n] w fun e w' => e = .returned (.tuple #[.slice none 0 0, .int .i64 1]) ∧ Below w.heap.size w w' := by
  by_cases h : n < 0
  · go_enter Try.func13, Try.ntmps13
    go_wp2_with fail
    go_ret2
    exact ⟨rfl, ((Below.refl _ _).alloc (Nat.le_refl _) _).alloc (by simp) _⟩
  · have h2 : 65536 < n := by omega
    go_enter Try.func13, Try.ntmps13
    go_wp2_with fail
    go_ret2
    exact ⟨rfl, ((Below.refl _ _).alloc (Nat.le_refl _) _).alloc (by simp) _⟩

set_option maxRecDepth 100000 in
set_option maxHeartbeats 1600000 in
theorem stream_any (key nonce : List Nat) (c0 : Nat) (hk : key.length = 32) (hn : nonce.length = 12) (hkl : ∀ x ∈ key, x < 256) (hnl : ∀ x ∈ nonce, x < 256) (hc0 : (c0 : Int) ≤ 4294967295) (n : Nat) (hnn : (n : Int) ≤ 65536) (w : World) :
    Calls Try.prog 13 #[octVal key, octVal nonce, .int .u32 (c0 : Int), .int .i64 (n : Int)] w (StreamPost w n (strL (strm key nonce c0) n)) := by
  obtain ⟨kl, hkl'⟩ : ∃ l : List Value, l = key.map fun (x : Nat) => Value.int .u8 (x : Int) := ⟨_, rfl⟩
  obtain ⟨nl, hnl'⟩ : ∃ l : List Value, l = nonce.map fun (x : Nat) => Value.int .u8 (x : Int) := ⟨_, rfl⟩
  have eK : octVal key = .agg kl.toArray := by rw [hkl']; rfl
  have eN : octVal nonce = .agg nl.toArray := by rw [hnl']; rfl
  have KX := Lib.hid (fun p n cap xs w hs hnn => xor_any key nonce c0 hk hn hkl hnl hc0 p n cap xs w hs hnn)
  rw [eK, eN] at KX
  rw [eK, eN]
  have LK : Hid ((Try.prog.info? 23).map (·.size) = some kl.length) := Lib.hid (by rw [hkl', List.length_map, hk]; kernel_rfl)
  have LN : Hid ((Try.prog.info? 24).map (·.size) = some nl.length) := Lib.hid (by rw [hnl', List.length_map, hn]; kernel_rfl)
  clear hkl' hnl' eK eN hk hn hkl hnl
  go_enter Try.func13, Try.ntmps13
  go_wp2_with fail
  obtain ⟨W, hW⟩ : ∃ W, W = (w.alloc (.cells kl.toArray 23)).alloc (.cells nl.toArray 24) := ⟨_, rfl⟩
  have rK : W.rangeAt w.heap.size 0 kl := by
    intro j v hj
    rw [hW, Nat.zero_add, cell_of_row _ _ _ _ _ _ (heap_alloc2_old w _ _)]
    simpa using hj
  have rN : W.rangeAt (w.heap.size + 1) 0 nl := by
    intro j v hj
    rw [hW, Nat.zero_add, cell_of_row _ _ _ _ _ _ (heap_alloc2_new w _ _)]
    simpa using hj
  have HW : Hid (Below w.heap.size w W) := Lib.hid (by rw [hW]; exact ((Below.refl _ _).alloc (Nat.le_refl _) _).alloc (by simp) _)
  rw [← hW]
  clear hW
  -- REGION
  refine wp_region_noPanic ?_
  refine region_some (S := fun w' => Fr W w' (fun _ => False)) (Ts := []) (by kernel_rfl) (Fr.drew _) (fun hS hC => ?_)
  refine wpAnyG_takeB (i := 0) (v := .agg (List.toArray kl)) rfl (by kernel_rfl) (by kernel_rfl) (by kernel_rfl) (by kernel_rfl) (fun _ _ _ h => h) hC (yieldsIf_load_mid (by rfl) 23 _ rfl _ _ rfl kl _ (fun w1 h => range_fr rK h) Try.underlying23 rfl LK.out) hS ?_
  clear hC
  intro hC
  try simp only [Act.put, List.setIfInBounds_toArray, List.set_cons_zero, List.set_cons_succ, List.getElem_toArray, List.getElem_cons_zero, List.getElem_cons_succ]
  refine wpAnyG_takeB (i := 1) (v := .agg (List.toArray nl)) rfl (by kernel_rfl) (by kernel_rfl) (by kernel_rfl) (by kernel_rfl) (fun _ _ _ h => h) hC (yieldsIf_load_mid (by rfl) 24 _ rfl _ _ rfl nl _ (fun w1 h => range_fr rN h) Try.underlying24 rfl LN.out) hS ?_
  clear hC
  intro hC
  try simp only [Act.put, List.setIfInBounds_toArray, List.set_cons_zero, List.set_cons_succ, List.getElem_toArray, List.getElem_cons_zero, List.getElem_cons_succ]
  refine wpAnyG_takeB (i := 2) (v := .int .u32 (c0 : Int)) rfl (by kernel_rfl) (by kernel_rfl) (by kernel_rfl) (by kernel_rfl) (fun _ _ _ h => h) hC (Or.inl ⟨by rfl, fun w' hSw => ?_⟩) hS ?_
  · go_simp
  clear hC
  intro hC
  try simp only [Act.put, List.setIfInBounds_toArray, List.set_cons_zero, List.set_cons_succ, List.getElem_toArray, List.getElem_cons_zero, List.getElem_cons_succ]
  refine wpAnyG_takeB (i := 3) (v := .int .i64 (n : Int)) rfl (by kernel_rfl) (by kernel_rfl) (by kernel_rfl) (by kernel_rfl) (fun _ _ _ h => h) hC (Or.inl ⟨by rfl, fun w' hSw => ?_⟩) hS ?_
  · go_simp
  clear hC
  intro hC
  try simp only [Act.put, List.setIfInBounds_toArray, List.set_cons_zero, List.set_cons_succ, List.getElem_toArray, List.getElem_cons_zero, List.getElem_cons_succ]
  refine wpAnyG_step (i := 4) (by kernel_rfl) rfl (by rfl) hC (fun K hK => ?_)
  refine wp_make_zeros _ _ 31 rfl Try.underlying31 (by kernel_rfl) n rfl rfl (by omega) ?_
  intro A hA
  refine hK.out _ _ (.inr ?_) ?_
  · exact ((show Fr W W.drew (fun _ => False) from hS).trans (Fr.alloc _ _)).mono (by simp)
  clear hK K hC
  intro hC
  try simp only [Act.put, List.setIfInBounds_toArray, List.set_cons_zero, List.set_cons_succ, List.getElem_toArray, List.getElem_cons_zero, List.getElem_cons_succ]
  have hsz := src_zeros W.drew n A hA
  have hf4 : Fr W (W.drew.alloc (.cells A 5)) (fun _ => False) := ((Fr.drew W).trans (Fr.alloc _ _)).mono (by simp)
  obtain ⟨w4, hw4⟩ : ∃ W', W' = W.drew.alloc (.cells A 5) := ⟨_, rfl⟩
  have hdz : W.drew.heap.size = W.heap.size := rfl
  rw [← hw4] at hsz hf4 ⊢
  have HSZ := Lib.hid hsz
  have HF4 := Lib.hid hf4
  clear hsz hf4 hw4 hdz hS
  refine wpAnyG_step (i := 5) (by kernel_rfl) rfl (by rfl) hC (fun K hK => ?_)
  go_simp
  refine (KX.out _ n n _ _ HSZ.out (by omega)).mono ?_
  rintro e w5 ⟨q, cap, rfl, how, hb⟩
  go_wp2_with fail
  refine hK.out _ _ (.inr ?_) ?_
  · exact (HF4.out.trans (Fr.of_below hb)).mono (by simp)
  clear hK K hC
  intro hC
  try simp only [Act.put, List.setIfInBounds_toArray, List.set_cons_zero, List.set_cons_succ, List.getElem_toArray, List.getElem_cons_zero, List.getElem_cons_succ]
  have hS : Fr W w5 (fun _ => False) := (HF4.out.trans (Fr.of_below hb)).mono (by simp)
  rw [xorL_zeros] at how
  refine wpAnyG_takeB (i := 6) (v := .slice q n cap) rfl (by kernel_rfl) (by kernel_rfl) (by kernel_rfl) (by kernel_rfl) (fun _ _ _ h => h) hC (Or.inl ⟨by rfl, fun w' hSw => ?_⟩) hS ?_
  · go_simp
  clear hC
  intro hC
  try simp only [Act.put, List.setIfInBounds_toArray, List.set_cons_zero, List.set_cons_succ, List.getElem_toArray, List.getElem_cons_zero, List.getElem_cons_succ]
  refine wpAnyG_takeB (i := 7) (v := .int .i64 0) rfl (by kernel_rfl) (by kernel_rfl) (by kernel_rfl) (by kernel_rfl) (fun _ _ _ h => h) hC (Or.inl ⟨by rfl, fun w' hSw => ?_⟩) hS ?_
  · go_simp
  clear hC
  intro hC
  try simp only [Act.put, List.setIfInBounds_toArray, List.set_cons_zero, List.set_cons_succ, List.getElem_toArray, List.getElem_cons_zero, List.getElem_cons_succ]
  have HQ : Hid (Own w5 w.heap.size q n cap (strL (strm key nonce c0) n) ∧ Below w.heap.size w w5) := by
    have h1 := HF4.out.size
    have h2 := HW.out.size
    exact Lib.hid ⟨how.base (by omega), HW.out.trans ((show Fr W w5 (fun _ => False) from hS).below (by omega) (fun _ _ h => h))⟩
  clear how hb hS hC rK rN
  refine wpAnyG_done (by kernel_rfl) ?_ _
  refine NoPanic.normal ?_
  go_wp2_with fail
  go_ret2
  exact ⟨q, cap, rfl, HQ.out⟩
end Go.Proofs.Ytbgidkphbbpdeaa
