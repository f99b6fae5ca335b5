/- ChachaXors: the walk. -/
import Derived.Test.YtbgidkphbbpdeaaChaRefXor
namespace Go.Proofs.Ytbgidkphbbpdeaa
open Go.RowKit
set_option linter.unusedVariables false
set_option linter.unusedSimpArgs false

/-- The nonce of ChachaXors. -/
def nonceX (key : List Nat) : List Nat := [0, 0, 0, 0, 0, 0, 0, 0, 0, 0, 0, key.getD 2 0]
theorem nonceX_lt {key : List Nat} (h : ∀ x ∈ key, x < 256) : ∀ x ∈ nonceX key, x < 256 := by
  intro x hx
  have h0 := getD_lt_256 h 2
  simp only [nonceX, List.mem_cons, List.not_mem_nil, or_false] at hx
  omega
/-- Twice is nothing. -/
theorem xorL_twice (xs : List Int) (s : Nat → Nat) (n : Nat) (hl : xs.length = n) (hr : ∀ x ∈ xs, 0 ≤ x ∧ x ≤ 255) : xorL (xorL xs s n) s n = xs := by
  apply List.ext_getElem (by simp [xorL, hl])
  intro j h1 h2
  have hj : j < n := by rw [← hl]; exact h2
  have hx := hr (xs[j]) (List.getElem_mem h2)
  obtain ⟨k, hk⟩ : ∃ k : Nat, xs[j] = (k : Int) := ⟨(xs[j]).toNat, by omega⟩
  have e : (xorL xs s n).getD j 0 = (((k ^^^ s j : Nat)) : Int) := by
    simp [xorL, List.getD, List.getElem?_range, hj, List.getElem?_eq_getElem h2, hk]
  have e2 : (xorL (xorL xs s n) s n)[j] = (((((xorL xs s n).getD j 0).toNat ^^^ s j : Nat)) : Int) := by
    simp [xorL]
  rw [e2, e, hk, Int.toNat_natCast, Nat.xor_assoc, Nat.xor_self, Nat.xor_zero]
-- WALK
set_option maxRecDepth 100000 in
set_option maxHeartbeats 1600000 in
theorem xors_any (key : List Nat) (c0 : Nat) (p : Option Addr) (n cap : Nat) (zs : List Int) (hk : key.length = 32) (hkl : ∀ x ∈ key, x < 256) (hc0 : (c0 : Int) ≤ 4294967295) (w : World) (hz : IsRow .u8 w p n cap zs) :
    Calls Try.prog 4 #[octVal key, .int .u32 (c0 : Int), .slice p n cap] w fun e w' => e = .returned (.bool true) ∧ Below w.heap.size w w' := by
  obtain ⟨hsrc, hnc, hcm, hpn⟩ := hz.src
  obtain ⟨xs, hxs⟩ : ∃ xs, xs = zs.take n := ⟨_, rfl⟩
  rw [← hxs] at hsrc
  have hn0 := nonceX_lt hkl
  obtain ⟨C, hC, HCC, sC, oC⟩ := octVal_arr key 32 hk
  have h2 := getD_lt_256 hkl 2
  have KO := Lib.hid (fun w1 h => (show Octs w1 w.heap.size 23 32 key from ⟨by rw [← HCC.out]; exact h, hk, hkl⟩))
  have HS := Lib.hid hsrc
  have HNC := Lib.hid hnc
  have hnn : (n : Int) ≤ 9223372036854775807 := by omega
  by_cases hr : 600 < (n : Int)
  · rw [hC]
    clear hn0 h2 hC HCC sC oC KO hz hsrc hcm hpn hxs hnc
    go_enter Try.func4, Try.ntmps4
    go_wp2_with fail
    refine (awake_any _).mono ?_
    rintro e w1 ⟨rfl, hb1⟩
    have HB1 := Lib.hid hb1
    clear hb1
    go_wp2_with fail
    refine (awake_any _).mono ?_
    rintro e w2 ⟨rfl, hb2⟩
    have HB2 := Lib.hid hb2
    clear hb2
    go_wp2_with fail
    go_ret
    refine ⟨rfl, ?_⟩
    have h1 := below_alloc w (.cells C 23)
    have h2 := h1.trans (HB1.out.mono (by simp))
    exact h2.trans (HB2.out.mono h2.size)
  · have KX0 := fun p n cap xs w hs hnn => xor_any key (nonceX key) c0 hk rfl hkl hn0 hc0 p n cap xs w hs hnn
    have KR0 := fun p n cap xs w hs hnn => refXor_any key (nonceX key) c0 hk rfl hkl hn0 hc0 p n cap xs w hs hnn
    have HTW : Hid (xorL (xorL xs (strm key (nonceX key) c0) n) (strm key (nonceX key) c0) n = xs) := Lib.hid (xorL_twice _ _ _ hsrc.len hsrc.rng)
    obtain ⟨st, hst⟩ : ∃ s, s = strm key (nonceX key) c0 := ⟨_, rfl⟩
    rw [← hst] at HTW
    simp only [← hst] at KX0 KR0
    rw [hC] at KX0 KR0 ⊢
    have H23 : Hid ((Try.prog.info? 23).map (·.size) = some C.size) := by rw [sC]; exact Lib.hid (by kernel_rfl)
    have KX := Lib.hid KX0
    have KR := Lib.hid KR0
    have hn6 : (n : Int) ≤ 600 := by omega
    clear KX0 KR0 hn0 hC HCC sC oC hz hsrc hcm hpn hxs hnc hst
    go_enter Try.func4, Try.ntmps4
    go_wp2_with fail
    refine (awake_any _).mono ?_
    rintro e w1 ⟨rfl, hb1⟩
    have hf1 : Fr w w1 (fun _ => False) := ((Fr.alloc w (.cells C 23)).trans (Fr.of_below hb1)).mono (by simp)
    have hkh : w1.heap[w.heap.size]? = some (.cells C 23 (0, 0)) := (Fr.of_below hb1).heap (heap_alloc_new w _) (fun h => h)
    have ho := KO.out w1 hkh
    have c2k := ho.cell 2 (by decide)
    obtain ⟨k2, hk2⟩ : ∃ k, k = key.getD 2 0 := ⟨_, rfl⟩
    rw [← hk2] at c2k h2
    have hq1 := (HS.out.fr hf1 (fun _ _ _ h => h)).convert (P := Try.prog) cap 31 5 9 Try.underlying31 Try.underlying5 Try.underlying9
    have HF1 := Lib.hid hf1
    have HKH := Lib.hid hkh
    have HK2 := Lib.hid hk2
    clear hb1 hf1 hkh ho hk2 KO
    go_upto_region 5 with (fail)
    obtain ⟨D, hD⟩ : ∃ D : Array Value, D = #[.int .u8 0, .int .u8 0, .int .u8 0, .int .u8 0, .int .u8 0, .int .u8 0, .int .u8 0, .int .u8 0, .int .u8 0, .int .u8 0, .int .u8 0, .int .u8 (k2 : Int)] := ⟨_, rfl⟩
    rw [← hD]
    have eD : octVal (nonceX key) = .agg D := by rw [hD, HK2.out]; rfl
    rw [eD] at KX KR
    have H24 : Hid ((Try.prog.info? 24).map (·.size) = some D.size) := by rw [hD]; exact Lib.hid (by kernel_rfl)
    obtain ⟨W2, hW⟩ : ∃ W, W = w1.alloc (.cells D 24) := ⟨_, rfl⟩
    have hk2 : W2.heap[w.heap.size]? = some (.cells C 23 (0, 0)) := by rw [hW]; exact (Fr.alloc _ _).heap HKH.out (fun h => h)
    have hn2 : W2.heap[w1.heap.size]? = some (.cells D 24 (0, 0)) := by rw [hW]; exact heap_alloc_new _ _
    have hf2 : Fr w W2 (fun _ => False) := by rw [hW]; exact (HF1.out.trans (Fr.alloc _ _)).mono (by simp)
    have HF2 := Lib.hid hf2
    have HS2 := Lib.hid (HS.out.fr hf2 (fun _ _ _ h => h))
    rw [← hW]
    clear hW hD eD c2k hq1 hf2
    go_wp2_with (first | refine wpList_load_row rfl 23 _ rfl w.heap.size rfl 23 C (0, 0) _ hk2 Try.underlying23 rfl H23.out ?_ | refine wpList_load_row rfl 24 _ rfl w1.heap.size rfl 24 D (0, 0) _ hn2 Try.underlying24 rfl H24.out ?_)
    refine (KX.out _ _ _ _ _ HS2.out (by omega)).mono ?_
    rintro e w3 ⟨qx, cx, rfl, how3, hb3⟩
    have hf3 : Fr W2 w3 (fun _ => False) := Fr.of_below hb3
    have hk3 := hf3.heap hk2 (fun h => h)
    have hn3 := hf3.heap hn2 (fun h => h)
    have HX3 := Lib.hid how3.src
    have HF3 := Lib.hid hf3
    clear how3 hb3 hf3 hk2 hn2
    go_wp2_with (first | refine wpList_load_row rfl 23 _ rfl w.heap.size rfl 23 C (0, 0) _ hk3 Try.underlying23 rfl H23.out ?_ | refine wpList_load_row rfl 24 _ rfl w1.heap.size rfl 24 D (0, 0) _ hn3 Try.underlying24 rfl H24.out ?_)
    refine (KX.out _ _ _ _ _ HX3.out (by omega)).mono ?_
    rintro e w4 ⟨qy, cy, rfl, how4, hb4⟩
    have hf4 : Fr w3 w4 (fun _ => False) := Fr.of_below hb4
    have hk4 := hf4.heap hk3 (fun h => h)
    have hn4 := hf4.heap hn3 (fun h => h)
    have hy4 := how4.src
    rw [HTW.out] at hy4
    have HY4 := Lib.hid hy4
    have HX4 := Lib.hid (HX3.out.fr hf4 (fun _ _ _ h => h))
    have HS4 := Lib.hid ((HS2.out.fr HF3.out (fun _ _ _ h => h)).fr hf4 (fun _ _ _ h => h))
    have HF4 := Lib.hid hf4
    clear how4 hb4 hf4 hk3 hn3 hy4
    obtain ⟨ys, hys⟩ : ∃ ys, ys = xorL xs st n := ⟨_, rfl⟩
    rw [← hys] at HX4
    go_wp2_with fail
    refine wp_region_noPanic ?_
    refine region_some (S := fun w' => Fr w4 w' (fun _ => False)) (Ts := []) (by kernel_rfl) (Fr.drew _) (fun hS hC => ?_)
    refine wpAnyG_takeB (i := 0) (v := .slice qx n cx) rfl (by kernel_rfl) (by kernel_rfl) (by kernel_rfl) (by kernel_rfl) (fun _ _ _ h => h) hC (Or.inl ⟨by rfl, fun w' hSw => ?_⟩) hS ?_
    · go_simp
    clear hC
    intro hC
    try simp only [Act.put, List.setIfInBounds_toArray, List.set_cons_zero, List.set_cons_succ, List.getElem_toArray, List.getElem_cons_zero, List.getElem_cons_succ]
    refine wpAnyG_takeB (i := 1) (v := .string (strOfNums ys)) rfl (by kernel_rfl) (by kernel_rfl) (by kernel_rfl) (by kernel_rfl) (fun _ _ _ h => h) hC (Or.inl ⟨by rfl, fun w' hSw => ?_⟩) hS ?_
    · have hq := (HX4.out.fr (show Fr w4 w' (fun _ => False) from hSw) (fun _ _ _ h => h)).convert (P := Try.prog) cx 31 5 9 Try.underlying31 Try.underlying5 Try.underlying9; go_simp
    clear hC
    intro hC
    try simp only [Act.put, List.setIfInBounds_toArray, List.set_cons_zero, List.set_cons_succ, List.getElem_toArray, List.getElem_cons_zero, List.getElem_cons_succ]
    refine wpAnyG_takeB (i := 2) (v := .agg C) rfl (by kernel_rfl) (by kernel_rfl) (by kernel_rfl) (by kernel_rfl) (fun _ _ _ h => h) hC (yieldsIf_load_row (by rfl) 23 _ rfl w.heap.size rfl C 23 _ (fun w' h => (show Fr w4 w' (fun _ => False) from h).heap hk4 (fun h => h)) Try.underlying23 rfl H23.out) hS ?_
    clear hC
    intro hC
    try simp only [Act.put, List.setIfInBounds_toArray, List.set_cons_zero, List.set_cons_succ, List.getElem_toArray, List.getElem_cons_zero, List.getElem_cons_succ]
    refine wpAnyG_takeB (i := 3) (v := .agg D) rfl (by kernel_rfl) (by kernel_rfl) (by kernel_rfl) (by kernel_rfl) (fun _ _ _ h => h) hC (yieldsIf_load_row (by rfl) 24 _ rfl w1.heap.size rfl D 24 _ (fun w' h => (show Fr w4 w' (fun _ => False) from h).heap hn4 (fun h => h)) Try.underlying24 rfl H24.out) hS ?_
    clear hC
    intro hC
    try simp only [Act.put, List.setIfInBounds_toArray, List.set_cons_zero, List.set_cons_succ, List.getElem_toArray, List.getElem_cons_zero, List.getElem_cons_succ]
    refine wpAnyG_takeB (i := 4) (v := .int .u32 (c0 : Int)) rfl (by kernel_rfl) (by kernel_rfl) (by kernel_rfl) (by kernel_rfl) (fun _ _ _ h => h) hC (Or.inl ⟨by rfl, fun w' hSw => ?_⟩) hS ?_
    · go_simp
    clear hC
    intro hC
    try simp only [Act.put, List.setIfInBounds_toArray, List.set_cons_zero, List.set_cons_succ, List.getElem_toArray, List.getElem_cons_zero, List.getElem_cons_succ]
    refine wpAnyG_takeB (i := 5) (v := .slice p n cap) rfl (by kernel_rfl) (by kernel_rfl) (by kernel_rfl) (by kernel_rfl) (fun _ _ _ h => h) hC (Or.inl ⟨by rfl, fun w' hSw => ?_⟩) hS ?_
    · go_simp
    clear hC
    intro hC
    try simp only [Act.put, List.setIfInBounds_toArray, List.set_cons_zero, List.set_cons_succ, List.getElem_toArray, List.getElem_cons_zero, List.getElem_cons_succ]
    refine wpAnyG_step (i := 6) (by kernel_rfl) rfl (by rfl) hC (fun K hK => ?_)
    go_simp
    refine (KR.out _ _ _ _ _ (HS4.out.fr (show Fr w4 w4.drew (fun _ => False) from hS) (fun _ _ _ h => h)) (by omega)).mono ?_
    rintro e w5 ⟨q5, c5, rfl, how5, hb5⟩
    go_wp2_with fail
    refine hK.out _ _ (.inr ?_) ?_
    · exact ((show Fr w4 w4.drew (fun _ => False) from hS).trans (Fr.of_below hb5)).mono (by simp)
    clear hK K hC
    intro hC
    try simp only [Act.put, List.setIfInBounds_toArray, List.set_cons_zero, List.set_cons_succ, List.getElem_toArray, List.getElem_cons_zero, List.getElem_cons_succ]
    have hS5 : Fr w4 w5 (fun _ => False) := ((show Fr w4 w4.drew (fun _ => False) from hS).trans (Fr.of_below hb5)).mono (by simp)
    clear hS
    have hS := hS5
    rw [← hys] at how5
    have hq5 := how5.src.convert (P := Try.prog) c5 31 5 9 Try.underlying31 Try.underlying5 Try.underlying9
    clear how5 hb5
    refine wpAnyG_step (i := 7) (by kernel_rfl) rfl (by rfl) hC (fun K hK => ?_)
    go_simp
    refine hK.out _ _ (.inr hS5) ?_
    clear hK K hC
    intro hC
    try simp only [Act.put, List.setIfInBounds_toArray, List.set_cons_zero, List.set_cons_succ, List.getElem_toArray, List.getElem_cons_zero, List.getElem_cons_succ]
    clear hq5
    refine wpAnyG_takeB (i := 8) (v := .bool true) rfl (by kernel_rfl) (by kernel_rfl) (by kernel_rfl) (by kernel_rfl) (fun _ _ _ h => h) hC (Or.inl ⟨by rfl, fun w' hSw => ?_⟩) hS ?_
    · go_simp
    clear hC
    intro hC
    try simp only [Act.put, List.setIfInBounds_toArray, List.set_cons_zero, List.set_cons_succ, List.getElem_toArray, List.getElem_cons_zero, List.getElem_cons_succ]
    refine wpAnyG_takeB (i := 9) (v := .bool true) rfl (by kernel_rfl) (by kernel_rfl) (by kernel_rfl) (by kernel_rfl) (fun _ _ _ h => h) hC (Or.inl ⟨by rfl, fun w' hSw => ?_⟩) hS ?_
    · go_simp
    clear hC
    intro hC
    try simp only [Act.put, List.setIfInBounds_toArray, List.set_cons_zero, List.set_cons_succ, List.getElem_toArray, List.getElem_cons_zero, List.getElem_cons_succ]
    refine wpAnyG_takeB (i := 10) (v := .slice qy n cy) rfl (by kernel_rfl) (by kernel_rfl) (by kernel_rfl) (by kernel_rfl) (fun _ _ _ h => h) hC (Or.inl ⟨by rfl, fun w' hSw => ?_⟩) hS ?_
    · go_simp
    clear hC
    intro hC
    try simp only [Act.put, List.setIfInBounds_toArray, List.set_cons_zero, List.set_cons_succ, List.getElem_toArray, List.getElem_cons_zero, List.getElem_cons_succ]
    refine wpAnyG_takeB (i := 11) (v := .string (strOfNums xs)) rfl (by kernel_rfl) (by kernel_rfl) (by kernel_rfl) (by kernel_rfl) (fun _ _ _ h => h) hC (Or.inl ⟨by rfl, fun w' hSw => ?_⟩) hS ?_
    · have hq := (HY4.out.fr (show Fr w4 w' (fun _ => False) from hSw) (fun _ _ _ h => h)).convert (P := Try.prog) cy 31 5 9 Try.underlying31 Try.underlying5 Try.underlying9; go_simp
    clear hC
    intro hC
    try simp only [Act.put, List.setIfInBounds_toArray, List.set_cons_zero, List.set_cons_succ, List.getElem_toArray, List.getElem_cons_zero, List.getElem_cons_succ]
    refine wpAnyG_takeB (i := 12) (v := .string (strOfNums xs)) rfl (by kernel_rfl) (by kernel_rfl) (by kernel_rfl) (by kernel_rfl) (fun _ _ _ h => h) hC (Or.inl ⟨by rfl, fun w' hSw => ?_⟩) hS ?_
    · go_simp
    clear hC
    intro hC
    try simp only [Act.put, List.setIfInBounds_toArray, List.set_cons_zero, List.set_cons_succ, List.getElem_toArray, List.getElem_cons_zero, List.getElem_cons_succ]
    refine wpAnyG_takeB (i := 13) (v := .bool true) rfl (by kernel_rfl) (by kernel_rfl) (by kernel_rfl) (by kernel_rfl) (fun _ _ _ h => h) hC (Or.inl ⟨by rfl, fun w' hSw => ?_⟩) hS ?_
    · go_simp
    clear hC
    intro hC
    try simp only [Act.put, List.setIfInBounds_toArray, List.set_cons_zero, List.set_cons_succ, List.getElem_toArray, List.getElem_cons_zero, List.getElem_cons_succ]
    refine wpAnyG_takeB (i := 14) (v := .bool true) rfl (by kernel_rfl) (by kernel_rfl) (by kernel_rfl) (by kernel_rfl) (fun _ _ _ h => h) hC (Or.inl ⟨by rfl, fun w' hSw => ?_⟩) hS ?_
    · go_simp
    clear hC
    intro hC
    try simp only [Act.put, List.setIfInBounds_toArray, List.set_cons_zero, List.set_cons_succ, List.getElem_toArray, List.getElem_cons_zero, List.getElem_cons_succ]
    refine wpAnyG_takeB (i := 15) (v := .bool true) rfl (by kernel_rfl) (by kernel_rfl) (by kernel_rfl) (by kernel_rfl) (fun _ _ _ h => h) hC (Or.inl ⟨by rfl, fun w' hSw => ?_⟩) hS ?_
    · go_simp
    clear hC
    intro hC
    try simp only [Act.put, List.setIfInBounds_toArray, List.set_cons_zero, List.set_cons_succ, List.getElem_toArray, List.getElem_cons_zero, List.getElem_cons_succ]
    refine wpAnyG_takeB (i := 16) (v := .slice p n cap) rfl (by kernel_rfl) (by kernel_rfl) (by kernel_rfl) (by kernel_rfl) (fun _ _ _ h => h) hC (Or.inl ⟨by rfl, fun w' hSw => ?_⟩) hS ?_
    · go_simp
    clear hC
    intro hC
    try simp only [Act.put, List.setIfInBounds_toArray, List.set_cons_zero, List.set_cons_succ, List.getElem_toArray, List.getElem_cons_zero, List.getElem_cons_succ]
    refine wpAnyG_takeB (i := 17) (v := .string (strOfNums xs)) rfl (by kernel_rfl) (by kernel_rfl) (by kernel_rfl) (by kernel_rfl) (fun _ _ _ h => h) hC (Or.inl ⟨by rfl, fun w' hSw => ?_⟩) hS ?_
    · have hq := (HS4.out.fr (show Fr w4 w' (fun _ => False) from hSw) (fun _ _ _ h => h)).convert (P := Try.prog) cap 31 5 9 Try.underlying31 Try.underlying5 Try.underlying9; go_simp
    clear hC
    intro hC
    try simp only [Act.put, List.setIfInBounds_toArray, List.set_cons_zero, List.set_cons_succ, List.getElem_toArray, List.getElem_cons_zero, List.getElem_cons_succ]
    refine wpAnyG_takeB (i := 18) (v := .string (strOfNums xs)) rfl (by kernel_rfl) (by kernel_rfl) (by kernel_rfl) (by kernel_rfl) (fun _ _ _ h => h) hC (Or.inl ⟨by rfl, fun w' hSw => ?_⟩) hS ?_
    · go_simp
    clear hC
    intro hC
    try simp only [Act.put, List.setIfInBounds_toArray, List.set_cons_zero, List.set_cons_succ, List.getElem_toArray, List.getElem_cons_zero, List.getElem_cons_succ]
    refine wpAnyG_takeB (i := 19) (v := .bool true) rfl (by kernel_rfl) (by kernel_rfl) (by kernel_rfl) (by kernel_rfl) (fun _ _ _ h => h) hC (Or.inl ⟨by rfl, fun w' hSw => ?_⟩) hS ?_
    · go_simp
    clear hC
    intro hC
    try simp only [Act.put, List.setIfInBounds_toArray, List.set_cons_zero, List.set_cons_succ, List.getElem_toArray, List.getElem_cons_zero, List.getElem_cons_succ]
    refine wpAnyG_takeB (i := 20) (v := .bool true) rfl (by kernel_rfl) (by kernel_rfl) (by kernel_rfl) (by kernel_rfl) (fun _ _ _ h => h) hC (Or.inl ⟨by rfl, fun w' hSw => ?_⟩) hS ?_
    · go_simp
    clear hC
    intro hC
    try simp only [Act.put, List.setIfInBounds_toArray, List.set_cons_zero, List.set_cons_succ, List.getElem_toArray, List.getElem_cons_zero, List.getElem_cons_succ]
    refine wpAnyG_takeB (i := 21) (v := .bool true) rfl (by kernel_rfl) (by kernel_rfl) (by kernel_rfl) (by kernel_rfl) (fun _ _ _ h => h) hC (Or.inl ⟨by rfl, fun w' hSw => ?_⟩) hS ?_
    · go_simp
    clear hC
    intro hC
    try simp only [Act.put, List.setIfInBounds_toArray, List.set_cons_zero, List.set_cons_succ, List.getElem_toArray, List.getElem_cons_zero, List.getElem_cons_succ]
    refine wpAnyG_done (by kernel_rfl) ?_ _
    refine NoPanic.normal ?_
    have HX := Lib.hid (((HF2.out.trans HF3.out).trans HF4.out).trans hS5)
    clear hS hS5 hk4 hn4 hys
    go_wp2_with fail
    go_ret
    exact ⟨rfl, HX.out.below (Nat.le_refl _) (fun k _ h => by simp at h)⟩
end Go.Proofs.Ytbgidkphbbpdeaa
