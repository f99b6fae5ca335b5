/- ChachaShort: the walk. -/
import Derived.Test.YtbgidkphbbpdeaaChaRefXor
namespace Go.Proofs.Ytbgidkphbbpdeaa
open Go.RowKit
set_option linter.unusedVariables false
set_option linter.unusedSimpArgs false

/-- The nonce of ChachaShort. -/
def nonce9 : List Nat := [9, 0, 0, 0, 0, 0, 0, 0, 0, 0, 0, 0]
theorem nonce9_lt : ∀ x ∈ nonce9, x < 256 := by decide
theorem xorL_take (xs : List Int) (s : Nat → Nat) (n k : Nat) (hk : k ≤ n) : xorL (xs.take k) s k = (xorL xs s n).take k := by
  unfold xorL
  rw [← List.map_take, List.take_range, Nat.min_eq_left hk]
  apply List.map_congr_left
  intro j hj
  have hjk := List.mem_range.1 hj
  have e : (xs.take k).getD j 0 = xs.getD j 0 := by simp [List.getD, List.getElem?_take, hjk]
  rw [e]

set_option maxRecDepth 100000 in
set_option maxHeartbeats 1600000 in
theorem short_any (key : List Nat) (p : Option Addr) (n cap : Nat) (zs : List Int) (at_ : Nat) (hk : key.length = 32) (hkl : ∀ x ∈ key, x < 256) (hat : (at_ : Int) ≤ 65535) (w : World) (hz : IsRow .u8 w p n cap zs) :
    Calls Try.prog 5 #[octVal key, .slice p n cap, .int .u16 (at_ : Int)] w fun e w' => e = .returned (.bool true) ∧ Below w.heap.size w w' := by
  obtain ⟨hsrc, hnc, hcm, hpn⟩ := hz.src
  obtain ⟨xs, hxs⟩ : ∃ xs, xs = zs.take n := ⟨_, rfl⟩
  rw [← hxs] at hsrc
  obtain ⟨C, hC, HCC, sC, oC⟩ := octVal_arr key 32 hk
  have HS := Lib.hid hsrc
  have HNC := Lib.hid hnc
  have hnn : (n : Int) ≤ 9223372036854775807 := by omega
  by_cases hr : 500 < (n : Int)
  · rw [hC]
    clear hC HCC sC oC hz hsrc hcm hpn hxs hnc
    go_enter Try.func5, Try.ntmps5
    go_wp2_with fail
    refine (awake_any _).mono ?_
    rintro e w1 ⟨rfl, hb1⟩
    have HB1 := Lib.hid hb1
    clear hb1
    go_wp2_with fail
    refine (awake_any _).mono ?_
    rintro e w2 ⟨rfl, hb2⟩
    have HB2 := Lib.hid hb2
    clear hb2
    go_wp2_with fail
    go_ret
    refine ⟨rfl, ?_⟩
    have h1 := below_alloc w (.cells C 23)
    have h2 := h1.trans (HB1.out.mono (by simp))
    exact h2.trans (HB2.out.mono h2.size)
  · obtain ⟨k, hkd⟩ : ∃ k, k = at_ % (n + 1) := ⟨_, rfl⟩
    have hkn : k ≤ n := by rw [hkd]; have := Nat.mod_lt at_ (show n + 1 > 0 by omega); omega
    have hkm : (at_ : Int) % ((n : Int) + 1) = (k : Int) := by rw [hkd, Int.natCast_emod]; rfl
    have hn5 : (n : Int) ≤ 500 := by omega
    have hk5 : (k : Int) ≤ 500 := by omega
    have KX0 := fun p n cap xs w hs hnn => xor_any key nonce9 3 hk rfl hkl nonce9_lt (by decide) p n cap xs w hs hnn
    have KS0 := fun w => stream_any key nonce9 3 hk rfl hkl nonce9_lt (by decide) k (by omega) w
    have KR0 := fun w => refStream_any key nonce9 3 hk rfl hkl nonce9_lt (by decide) k (by omega) w
    obtain ⟨st, hst⟩ : ∃ s, s = strm key nonce9 3 := ⟨_, rfl⟩
    simp only [← hst] at KX0 KS0 KR0
    rw [hC, show octVal nonce9 = .agg #[.int .u8 9, .int .u8 0, .int .u8 0, .int .u8 0, .int .u8 0, .int .u8 0, .int .u8 0, .int .u8 0, .int .u8 0, .int .u8 0, .int .u8 0, .int .u8 0] from rfl] at KX0 KS0 KR0
    rw [hC]
    have H23 : Hid ((Try.prog.info? 23).map (·.size) = some C.size) := by rw [sC]; exact Lib.hid (by kernel_rfl)
    have KX := Lib.hid KX0
    have KS := Lib.hid KS0
    have KR := Lib.hid KR0
    have HKN := Lib.hid hkn
    have hsl1 := slice_to (P := Try.prog) 31 Try.underlying31 Try.sizeOf5 p n cap k (by omega)
    clear KX0 KS0 KR0 hC HCC sC oC hz hsrc hcm hpn hxs hnc hst hkd hkn
    go_enter Try.func5, Try.ntmps5
    go_wp2_with fail
    refine (awake_any _).mono ?_
    rintro e w1 ⟨rfl, hb1⟩
    have hf1 : Fr w w1 (fun _ => False) := ((Fr.alloc w (.cells C 23)).trans (Fr.of_below hb1)).mono (by simp)
    have hk1 : w1.heap[w.heap.size]? = some (.cells C 23 (0, 0)) := (Fr.of_below hb1).heap (heap_alloc_new w _) (fun h => h)
    have HF1 := Lib.hid hf1
    have HS1 := Lib.hid (HS.out.fr hf1 (fun _ _ _ h => h))
    clear hb1 hf1
    go_wp2_with fail
    refine wp_region_noPanic ?_
    refine region_some (S := fun w' => Fr w1 w' (fun _ => False)) (Ts := []) (by kernel_rfl) (Fr.drew _) (fun hS hC => ?_)
    refine wpAnyG_takeB (i := 0) (v := .agg C) rfl (by kernel_rfl) (by kernel_rfl) (by kernel_rfl) (by kernel_rfl) (fun _ _ _ h => h) hC (yieldsIf_load_row (by rfl) 23 _ rfl w.heap.size rfl C 23 _ (fun w' h => (show Fr w1 w' (fun _ => False) from h).heap hk1 (fun h => h)) Try.underlying23 rfl H23.out) hS ?_
    clear hC
    intro hC
    try simp only [Act.put, List.setIfInBounds_toArray, List.set_cons_zero, List.set_cons_succ, List.getElem_toArray, List.getElem_cons_zero, List.getElem_cons_succ]
    refine wpAnyG_takeB (i := 1) (v := .agg #[.int .u8 9, .int .u8 0, .int .u8 0, .int .u8 0, .int .u8 0, .int .u8 0, .int .u8 0, .int .u8 0, .int .u8 0, .int .u8 0, .int .u8 0, .int .u8 0]) rfl (by kernel_rfl) (by kernel_rfl) (by kernel_rfl) (by kernel_rfl) (fun _ _ _ h => h) hC (Or.inl ⟨by rfl, fun w' hSw => ?_⟩) hS ?_
    · go_simp
    clear hC
    intro hC
    try simp only [Act.put, List.setIfInBounds_toArray, List.set_cons_zero, List.set_cons_succ, List.getElem_toArray, List.getElem_cons_zero, List.getElem_cons_succ]
    refine wpAnyG_takeB (i := 2) (v := .slice p n cap) rfl (by kernel_rfl) (by kernel_rfl) (by kernel_rfl) (by kernel_rfl) (fun _ _ _ h => h) hC (Or.inl ⟨by rfl, fun w' hSw => ?_⟩) hS ?_
    · go_simp
    clear hC
    intro hC
    try simp only [Act.put, List.setIfInBounds_toArray, List.set_cons_zero, List.set_cons_succ, List.getElem_toArray, List.getElem_cons_zero, List.getElem_cons_succ]
    refine wpAnyG_takeB (i := 4) (v := .agg C) rfl (by kernel_rfl) (by kernel_rfl) (by kernel_rfl) (by kernel_rfl) (fun _ _ _ h => h) hC (yieldsIf_load_row (by rfl) 23 _ rfl w.heap.size rfl C 23 _ (fun w' h => (show Fr w1 w' (fun _ => False) from h).heap hk1 (fun h => h)) Try.underlying23 rfl H23.out) hS ?_
    clear hC
    intro hC
    try simp only [Act.put, List.setIfInBounds_toArray, List.set_cons_zero, List.set_cons_succ, List.getElem_toArray, List.getElem_cons_zero, List.getElem_cons_succ]
    refine wpAnyG_takeB (i := 5) (v := .agg #[.int .u8 9, .int .u8 0, .int .u8 0, .int .u8 0, .int .u8 0, .int .u8 0, .int .u8 0, .int .u8 0, .int .u8 0, .int .u8 0, .int .u8 0, .int .u8 0]) rfl (by kernel_rfl) (by kernel_rfl) (by kernel_rfl) (by kernel_rfl) (fun _ _ _ h => h) hC (Or.inl ⟨by rfl, fun w' hSw => ?_⟩) hS ?_
    · go_simp
    clear hC
    intro hC
    try simp only [Act.put, List.setIfInBounds_toArray, List.set_cons_zero, List.set_cons_succ, List.getElem_toArray, List.getElem_cons_zero, List.getElem_cons_succ]
    refine wpAnyG_takeB (i := 6) (v := .slice p n cap) rfl (by kernel_rfl) (by kernel_rfl) (by kernel_rfl) (by kernel_rfl) (fun _ _ _ h => h) hC (Or.inl ⟨by rfl, fun w' hSw => ?_⟩) hS ?_
    · go_simp
    clear hC
    intro hC
    try simp only [Act.put, List.setIfInBounds_toArray, List.set_cons_zero, List.set_cons_succ, List.getElem_toArray, List.getElem_cons_zero, List.getElem_cons_succ]
    refine wpAnyG_takeB (i := 7) (v := .int .i64 (k : Int)) rfl (by kernel_rfl) (by kernel_rfl) (by kernel_rfl) (by kernel_rfl) (fun _ _ _ h => h) hC (Or.inl ⟨by rfl, fun w' hSw => ?_⟩) hS ?_
    · go_simp
    clear hC
    intro hC
    try simp only [Act.put, List.setIfInBounds_toArray, List.set_cons_zero, List.set_cons_succ, List.getElem_toArray, List.getElem_cons_zero, List.getElem_cons_succ]
    refine wpAnyG_takeB (i := 8) (v := .slice p k cap) rfl (by kernel_rfl) (by kernel_rfl) (by kernel_rfl) (by kernel_rfl) (fun _ _ _ h => h) hC (Or.inl ⟨by rfl, fun w' hSw => ?_⟩) hS ?_
    · go_simp
    clear hC
    intro hC
    try simp only [Act.put, List.setIfInBounds_toArray, List.set_cons_zero, List.set_cons_succ, List.getElem_toArray, List.getElem_cons_zero, List.getElem_cons_succ]
    refine wpAnyG_step (i := 3) (by kernel_rfl) rfl (by rfl) hC (fun K hK => ?_)
    go_simp
    refine (KX.out _ _ _ _ _ (HS1.out.fr (show Fr w1 w1.drew (fun _ => False) from hS) (fun _ _ _ h => h)) (by omega)).mono ?_
    rintro e w2 ⟨qx, cx, rfl, how2, hb2⟩
    go_wp2_with fail
    refine hK.out _ _ (.inr ?_) ?_
    · exact ((show Fr w1 w1.drew (fun _ => False) from hS).trans (Fr.of_below hb2)).mono (by simp)
    clear hK K hC
    intro hC
    try simp only [Act.put, List.setIfInBounds_toArray, List.set_cons_zero, List.set_cons_succ, List.getElem_toArray, List.getElem_cons_zero, List.getElem_cons_succ]
    have hS2 : Fr w1 w2 (fun _ => False) := ((show Fr w1 w1.drew (fun _ => False) from hS).trans (Fr.of_below hb2)).mono (by simp)
    clear hS
    have hS := hS2
    have HX2 := Lib.hid how2
    have HSK := Lib.hid ((HS1.out.fr hS2 (fun _ _ _ h => h)).take k HKN.out)
    clear how2 hb2
    refine wpAnyG_step (i := 9) (by kernel_rfl) rfl (by rfl) hC (fun K hK => ?_)
    go_simp
    refine (KX.out _ _ _ _ _ HSK.out (by omega)).mono ?_
    rintro e w3 ⟨qy, cy, rfl, how3, hb3⟩
    go_wp2_with fail
    refine hK.out _ _ (.inr ?_) ?_
    · exact (hS2.trans (Fr.of_below hb3)).mono (by simp)
    clear hK K hC
    intro hC
    try simp only [Act.put, List.setIfInBounds_toArray, List.set_cons_zero, List.set_cons_succ, List.getElem_toArray, List.getElem_cons_zero, List.getElem_cons_succ]
    have hS3 : Fr w1 w3 (fun _ => False) := (hS2.trans (Fr.of_below hb3)).mono (by simp)
    have HX3 := Lib.hid (HX2.out.fr (Fr.of_below hb3) (fun _ _ h => h))
    have HY3 := Lib.hid how3
    clear hS hS2 how3 hb3
    have hS := hS3
    refine wpAnyG_takeB (i := 10) (v := .slice qx n cx) rfl (by kernel_rfl) (by kernel_rfl) (by kernel_rfl) (by kernel_rfl) (fun _ _ _ h => h) hC (Or.inl ⟨by rfl, fun w' hSw => ?_⟩) hS ?_
    · go_simp
    clear hC
    intro hC
    try simp only [Act.put, List.setIfInBounds_toArray, List.set_cons_zero, List.set_cons_succ, List.getElem_toArray, List.getElem_cons_zero, List.getElem_cons_succ]
    refine wpAnyG_takeB (i := 11) (v := .slice qy k cy) rfl (by kernel_rfl) (by kernel_rfl) (by kernel_rfl) (by kernel_rfl) (fun _ _ _ h => h) hC (Or.inl ⟨by rfl, fun w' hSw => ?_⟩) hS ?_
    · go_simp
    clear hC
    intro hC
    try simp only [Act.put, List.setIfInBounds_toArray, List.set_cons_zero, List.set_cons_succ, List.getElem_toArray, List.getElem_cons_zero, List.getElem_cons_succ]
    refine wpAnyG_done (by kernel_rfl) ?_ _
    refine NoPanic.normal ?_
    have hk3 := hS3.heap hk1 (fun h => h)
    have HF3 := Lib.hid hS3
    clear hS hS3 hk1 hsl1
    go_wp2_with (refine wpList_load_row rfl 23 _ rfl w.heap.size rfl 23 C (0, 0) _ hk3 Try.underlying23 rfl H23.out ?_)
    refine (KS.out _).mono ?_
    rintro e w4 ⟨qs, cs, rfl, how4, hb4⟩
    have hf4 : Fr w3 w4 (fun _ => False) := Fr.of_below hb4
    have hk4 := hf4.heap hk3 (fun h => h)
    have HX4 := Lib.hid (HX3.out.fr hf4 (fun _ _ h => h))
    have HY4 := Lib.hid (HY3.out.fr hf4 (fun _ _ h => h))
    have HZ4 := Lib.hid how4
    have HF4 := Lib.hid hf4
    have hsl2 := slice_to (P := Try.prog) 31 Try.underlying31 Try.sizeOf5 qx n cx k (by have := HX4.out.le; have := HKN.out; omega)
    have HXK := Lib.hid (HX4.out.src.take k HKN.out)
    have HYK : Hid (Src w4 qy k ((xorL xs st n).take k)) := Lib.hid (by rw [← xorL_take _ _ _ _ HKN.out]; exact HY4.out.src)
    obtain ⟨ys, hys⟩ : ∃ ys, ys = (xorL xs st n).take k := ⟨_, rfl⟩
    rw [← hys] at HXK HYK
    clear how4 hb4 hf4 hk3 hys
    go_wp2_with fail
    refine wp_region_noPanic ?_
    refine region_some (S := fun w' => Fr w4 w' (fun _ => False)) (Ts := []) (by kernel_rfl) (Fr.drew _) (fun hS hC => ?_)
    refine wpAnyG_takeB (i := 0) (v := .int .i64 0) rfl (by kernel_rfl) (by kernel_rfl) (by kernel_rfl) (by kernel_rfl) (fun _ _ _ h => h) hC (Or.inl ⟨by rfl, fun w' hSw => ?_⟩) hS ?_
    · go_simp
    clear hC
    intro hC
    try simp only [Act.put, List.setIfInBounds_toArray, List.set_cons_zero, List.set_cons_succ, List.getElem_toArray, List.getElem_cons_zero, List.getElem_cons_succ]
    refine wpAnyG_takeB (i := 1) (v := .bool true) rfl (by kernel_rfl) (by kernel_rfl) (by kernel_rfl) (by kernel_rfl) (fun _ _ _ h => h) hC (Or.inl ⟨by rfl, fun w' hSw => ?_⟩) hS ?_
    · go_simp
    clear hC
    intro hC
    try simp only [Act.put, List.setIfInBounds_toArray, List.set_cons_zero, List.set_cons_succ, List.getElem_toArray, List.getElem_cons_zero, List.getElem_cons_succ]
    refine wpAnyG_takeB (i := 2) (v := .bool true) rfl (by kernel_rfl) (by kernel_rfl) (by kernel_rfl) (by kernel_rfl) (fun _ _ _ h => h) hC (Or.inl ⟨by rfl, fun w' hSw => ?_⟩) hS ?_
    · go_simp
    clear hC
    intro hC
    try simp only [Act.put, List.setIfInBounds_toArray, List.set_cons_zero, List.set_cons_succ, List.getElem_toArray, List.getElem_cons_zero, List.getElem_cons_succ]
    refine wpAnyG_takeB (i := 3) (v := .slice qx n cx) rfl (by kernel_rfl) (by kernel_rfl) (by kernel_rfl) (by kernel_rfl) (fun _ _ _ h => h) hC (Or.inl ⟨by rfl, fun w' hSw => ?_⟩) hS ?_
    · go_simp
    clear hC
    intro hC
    try simp only [Act.put, List.setIfInBounds_toArray, List.set_cons_zero, List.set_cons_succ, List.getElem_toArray, List.getElem_cons_zero, List.getElem_cons_succ]
    refine wpAnyG_takeB (i := 4) (v := .int .i64 (n : Int)) rfl (by kernel_rfl) (by kernel_rfl) (by kernel_rfl) (by kernel_rfl) (fun _ _ _ h => h) hC (Or.inl ⟨by rfl, fun w' hSw => ?_⟩) hS ?_
    · go_simp
    clear hC
    intro hC
    try simp only [Act.put, List.setIfInBounds_toArray, List.set_cons_zero, List.set_cons_succ, List.getElem_toArray, List.getElem_cons_zero, List.getElem_cons_succ]
    refine wpAnyG_takeB (i := 5) (v := .slice p n cap) rfl (by kernel_rfl) (by kernel_rfl) (by kernel_rfl) (by kernel_rfl) (fun _ _ _ h => h) hC (Or.inl ⟨by rfl, fun w' hSw => ?_⟩) hS ?_
    · go_simp
    clear hC
    intro hC
    try simp only [Act.put, List.setIfInBounds_toArray, List.set_cons_zero, List.set_cons_succ, List.getElem_toArray, List.getElem_cons_zero, List.getElem_cons_succ]
    refine wpAnyG_takeB (i := 6) (v := .int .i64 (n : Int)) rfl (by kernel_rfl) (by kernel_rfl) (by kernel_rfl) (by kernel_rfl) (fun _ _ _ h => h) hC (Or.inl ⟨by rfl, fun w' hSw => ?_⟩) hS ?_
    · go_simp
    clear hC
    intro hC
    try simp only [Act.put, List.setIfInBounds_toArray, List.set_cons_zero, List.set_cons_succ, List.getElem_toArray, List.getElem_cons_zero, List.getElem_cons_succ]
    refine wpAnyG_takeB (i := 7) (v := .bool true) rfl (by kernel_rfl) (by kernel_rfl) (by kernel_rfl) (by kernel_rfl) (fun _ _ _ h => h) hC (Or.inl ⟨by rfl, fun w' hSw => ?_⟩) hS ?_
    · go_simp
    clear hC
    intro hC
    try simp only [Act.put, List.setIfInBounds_toArray, List.set_cons_zero, List.set_cons_succ, List.getElem_toArray, List.getElem_cons_zero, List.getElem_cons_succ]
    refine wpAnyG_takeB (i := 8) (v := .bool true) rfl (by kernel_rfl) (by kernel_rfl) (by kernel_rfl) (by kernel_rfl) (fun _ _ _ h => h) hC (Or.inl ⟨by rfl, fun w' hSw => ?_⟩) hS ?_
    · go_simp
    clear hC
    intro hC
    try simp only [Act.put, List.setIfInBounds_toArray, List.set_cons_zero, List.set_cons_succ, List.getElem_toArray, List.getElem_cons_zero, List.getElem_cons_succ]
    refine wpAnyG_takeB (i := 9) (v := .bool true) rfl (by kernel_rfl) (by kernel_rfl) (by kernel_rfl) (by kernel_rfl) (fun _ _ _ h => h) hC (Or.inl ⟨by rfl, fun w' hSw => ?_⟩) hS ?_
    · go_simp
    clear hC
    intro hC
    try simp only [Act.put, List.setIfInBounds_toArray, List.set_cons_zero, List.set_cons_succ, List.getElem_toArray, List.getElem_cons_zero, List.getElem_cons_succ]
    refine wpAnyG_takeB (i := 10) (v := .slice qx n cx) rfl (by kernel_rfl) (by kernel_rfl) (by kernel_rfl) (by kernel_rfl) (fun _ _ _ h => h) hC (Or.inl ⟨by rfl, fun w' hSw => ?_⟩) hS ?_
    · go_simp
    clear hC
    intro hC
    try simp only [Act.put, List.setIfInBounds_toArray, List.set_cons_zero, List.set_cons_succ, List.getElem_toArray, List.getElem_cons_zero, List.getElem_cons_succ]
    refine wpAnyG_takeB (i := 11) (v := .int .i64 (k : Int)) rfl (by kernel_rfl) (by kernel_rfl) (by kernel_rfl) (by kernel_rfl) (fun _ _ _ h => h) hC (Or.inl ⟨by rfl, fun w' hSw => ?_⟩) hS ?_
    · go_simp
    clear hC
    intro hC
    try simp only [Act.put, List.setIfInBounds_toArray, List.set_cons_zero, List.set_cons_succ, List.getElem_toArray, List.getElem_cons_zero, List.getElem_cons_succ]
    refine wpAnyG_takeB (i := 12) (v := .slice qx k cx) rfl (by kernel_rfl) (by kernel_rfl) (by kernel_rfl) (by kernel_rfl) (fun _ _ _ h => h) hC (Or.inl ⟨by rfl, fun w' hSw => ?_⟩) hS ?_
    · go_simp
    clear hC
    intro hC
    try simp only [Act.put, List.setIfInBounds_toArray, List.set_cons_zero, List.set_cons_succ, List.getElem_toArray, List.getElem_cons_zero, List.getElem_cons_succ]
    refine wpAnyG_takeB (i := 13) (v := .string (strOfNums ys)) rfl (by kernel_rfl) (by kernel_rfl) (by kernel_rfl) (by kernel_rfl) (fun _ _ _ h => h) hC (Or.inl ⟨by rfl, fun w' hSw => ?_⟩) hS ?_
    · have hq := (HXK.out.fr (show Fr w4 w' (fun _ => False) from hSw) (fun _ _ _ h => h)).convert (P := Try.prog) cx 31 5 9 Try.underlying31 Try.underlying5 Try.underlying9; go_simp
    clear hC
    intro hC
    try simp only [Act.put, List.setIfInBounds_toArray, List.set_cons_zero, List.set_cons_succ, List.getElem_toArray, List.getElem_cons_zero, List.getElem_cons_succ]
    refine wpAnyG_takeB (i := 14) (v := .slice qy k cy) rfl (by kernel_rfl) (by kernel_rfl) (by kernel_rfl) (by kernel_rfl) (fun _ _ _ h => h) hC (Or.inl ⟨by rfl, fun w' hSw => ?_⟩) hS ?_
    · go_simp
    clear hC
    intro hC
    try simp only [Act.put, List.setIfInBounds_toArray, List.set_cons_zero, List.set_cons_succ, List.getElem_toArray, List.getElem_cons_zero, List.getElem_cons_succ]
    refine wpAnyG_takeB (i := 15) (v := .string (strOfNums ys)) rfl (by kernel_rfl) (by kernel_rfl) (by kernel_rfl) (by kernel_rfl) (fun _ _ _ h => h) hC (Or.inl ⟨by rfl, fun w' hSw => ?_⟩) hS ?_
    · have hq := (HYK.out.fr (show Fr w4 w' (fun _ => False) from hSw) (fun _ _ _ h => h)).convert (P := Try.prog) cy 31 5 9 Try.underlying31 Try.underlying5 Try.underlying9; go_simp
    clear hC
    intro hC
    try simp only [Act.put, List.setIfInBounds_toArray, List.set_cons_zero, List.set_cons_succ, List.getElem_toArray, List.getElem_cons_zero, List.getElem_cons_succ]
    refine wpAnyG_takeB (i := 16) (v := .bool true) rfl (by kernel_rfl) (by kernel_rfl) (by kernel_rfl) (by kernel_rfl) (fun _ _ _ h => h) hC (Or.inl ⟨by rfl, fun w' hSw => ?_⟩) hS ?_
    · go_simp
    clear hC
    intro hC
    try simp only [Act.put, List.setIfInBounds_toArray, List.set_cons_zero, List.set_cons_succ, List.getElem_toArray, List.getElem_cons_zero, List.getElem_cons_succ]
    refine wpAnyG_takeB (i := 17) (v := .bool true) rfl (by kernel_rfl) (by kernel_rfl) (by kernel_rfl) (by kernel_rfl) (fun _ _ _ h => h) hC (Or.inl ⟨by rfl, fun w' hSw => ?_⟩) hS ?_
    · go_simp
    clear hC
    intro hC
    try simp only [Act.put, List.setIfInBounds_toArray, List.set_cons_zero, List.set_cons_succ, List.getElem_toArray, List.getElem_cons_zero, List.getElem_cons_succ]
    refine wpAnyG_takeB (i := 18) (v := .bool true) rfl (by kernel_rfl) (by kernel_rfl) (by kernel_rfl) (by kernel_rfl) (fun _ _ _ h => h) hC (Or.inl ⟨by rfl, fun w' hSw => ?_⟩) hS ?_
    · go_simp
    clear hC
    intro hC
    try simp only [Act.put, List.setIfInBounds_toArray, List.set_cons_zero, List.set_cons_succ, List.getElem_toArray, List.getElem_cons_zero, List.getElem_cons_succ]
    refine wpAnyG_takeB (i := 19) (v := .slice qs k cs) rfl (by kernel_rfl) (by kernel_rfl) (by kernel_rfl) (by kernel_rfl) (fun _ _ _ h => h) hC (Or.inl ⟨by rfl, fun w' hSw => ?_⟩) hS ?_
    · go_simp
    clear hC
    intro hC
    try simp only [Act.put, List.setIfInBounds_toArray, List.set_cons_zero, List.set_cons_succ, List.getElem_toArray, List.getElem_cons_zero, List.getElem_cons_succ]
    refine wpAnyG_takeB (i := 20) (v := .string (strOfNums (strL st k))) rfl (by kernel_rfl) (by kernel_rfl) (by kernel_rfl) (by kernel_rfl) (fun _ _ _ h => h) hC (Or.inl ⟨by rfl, fun w' hSw => ?_⟩) hS ?_
    · have hq := (HZ4.out.src.fr (show Fr w4 w' (fun _ => False) from hSw) (fun _ _ _ h => h)).convert (P := Try.prog) cs 31 5 9 Try.underlying31 Try.underlying5 Try.underlying9; go_simp
    clear hC
    intro hC
    try simp only [Act.put, List.setIfInBounds_toArray, List.set_cons_zero, List.set_cons_succ, List.getElem_toArray, List.getElem_cons_zero, List.getElem_cons_succ]
    refine wpAnyG_takeB (i := 21) (v := .agg C) rfl (by kernel_rfl) (by kernel_rfl) (by kernel_rfl) (by kernel_rfl) (fun _ _ _ h => h) hC (yieldsIf_load_row (by rfl) 23 _ rfl w.heap.size rfl C 23 _ (fun w' h => (show Fr w4 w' (fun _ => False) from h).heap hk4 (fun h => h)) Try.underlying23 rfl H23.out) hS ?_
    clear hC
    intro hC
    try simp only [Act.put, List.setIfInBounds_toArray, List.set_cons_zero, List.set_cons_succ, List.getElem_toArray, List.getElem_cons_zero, List.getElem_cons_succ]
    refine wpAnyG_takeB (i := 22) (v := .agg #[.int .u8 9, .int .u8 0, .int .u8 0, .int .u8 0, .int .u8 0, .int .u8 0, .int .u8 0, .int .u8 0, .int .u8 0, .int .u8 0, .int .u8 0, .int .u8 0]) rfl (by kernel_rfl) (by kernel_rfl) (by kernel_rfl) (by kernel_rfl) (fun _ _ _ h => h) hC (Or.inl ⟨by rfl, fun w' hSw => ?_⟩) hS ?_
    · go_simp
    clear hC
    intro hC
    try simp only [Act.put, List.setIfInBounds_toArray, List.set_cons_zero, List.set_cons_succ, List.getElem_toArray, List.getElem_cons_zero, List.getElem_cons_succ]
    refine wpAnyG_takeB (i := 23) (v := .int .i64 (k : Int)) rfl (by kernel_rfl) (by kernel_rfl) (by kernel_rfl) (by kernel_rfl) (fun _ _ _ h => h) hC (Or.inl ⟨by rfl, fun w' hSw => ?_⟩) hS ?_
    · go_simp
    clear hC
    intro hC
    try simp only [Act.put, List.setIfInBounds_toArray, List.set_cons_zero, List.set_cons_succ, List.getElem_toArray, List.getElem_cons_zero, List.getElem_cons_succ]
    refine wpAnyG_step (i := 24) (by kernel_rfl) rfl (by rfl) hC (fun K hK => ?_)
    go_simp
    refine (KR.out _).mono ?_
    rintro e w5 ⟨q5, c5, rfl, how5, hb5⟩
    go_wp2_with fail
    refine hK.out _ _ (.inr ?_) ?_
    · exact ((show Fr w4 w4.drew (fun _ => False) from hS).trans (Fr.of_below hb5)).mono (by simp)
    clear hK K hC
    intro hC
    try simp only [Act.put, List.setIfInBounds_toArray, List.set_cons_zero, List.set_cons_succ, List.getElem_toArray, List.getElem_cons_zero, List.getElem_cons_succ]
    have hS5 : Fr w4 w5 (fun _ => False) := ((show Fr w4 w4.drew (fun _ => False) from hS).trans (Fr.of_below hb5)).mono (by simp)
    clear hS
    have hS := hS5
    have hq5 := how5.src.convert (P := Try.prog) c5 31 5 9 Try.underlying31 Try.underlying5 Try.underlying9
    clear how5 hb5
    refine wpAnyG_step (i := 25) (by kernel_rfl) rfl (by rfl) hC (fun K hK => ?_)
    go_simp
    refine hK.out _ _ (.inr hS5) ?_
    clear hK K hC
    intro hC
    try simp only [Act.put, List.setIfInBounds_toArray, List.set_cons_zero, List.set_cons_succ, List.getElem_toArray, List.getElem_cons_zero, List.getElem_cons_succ]
    clear hq5
    refine wpAnyG_takeB (i := 26) (v := .bool true) rfl (by kernel_rfl) (by kernel_rfl) (by kernel_rfl) (by kernel_rfl) (fun _ _ _ h => h) hC (Or.inl ⟨by rfl, fun w' hSw => ?_⟩) hS ?_
    · go_simp
    clear hC
    intro hC
    try simp only [Act.put, List.setIfInBounds_toArray, List.set_cons_zero, List.set_cons_succ, List.getElem_toArray, List.getElem_cons_zero, List.getElem_cons_succ]
    refine wpAnyG_takeB (i := 27) (v := .bool true) rfl (by kernel_rfl) (by kernel_rfl) (by kernel_rfl) (by kernel_rfl) (fun _ _ _ h => h) hC (Or.inl ⟨by rfl, fun w' hSw => ?_⟩) hS ?_
    · go_simp
    clear hC
    intro hC
    try simp only [Act.put, List.setIfInBounds_toArray, List.set_cons_zero, List.set_cons_succ, List.getElem_toArray, List.getElem_cons_zero, List.getElem_cons_succ]
    refine wpAnyG_takeB (i := 28) (v := .bool true) rfl (by kernel_rfl) (by kernel_rfl) (by kernel_rfl) (by kernel_rfl) (fun _ _ _ h => h) hC (Or.inl ⟨by rfl, fun w' hSw => ?_⟩) hS ?_
    · go_simp
    clear hC
    intro hC
    try simp only [Act.put, List.setIfInBounds_toArray, List.set_cons_zero, List.set_cons_succ, List.getElem_toArray, List.getElem_cons_zero, List.getElem_cons_succ]
    refine wpAnyG_done (by kernel_rfl) ?_ _
    refine NoPanic.normal ?_
    have HX := Lib.hid (((HF1.out.trans HF3.out).trans HF4.out).trans hS5)
    clear hS hS5 hk4 hsl2
    go_wp2_with fail
    go_ret
    exact ⟨rfl, HX.out.below (Nat.le_refl _) (fun k _ h => by simp at h)⟩
end Go.Proofs.Ytbgidkphbbpdeaa
