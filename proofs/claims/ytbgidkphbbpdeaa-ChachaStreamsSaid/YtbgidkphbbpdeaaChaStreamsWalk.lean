/- ChachaStreams: the walk. -/
import Derived.Test.YtbgidkphbbpdeaaChaRefStream
namespace Go.Proofs.Ytbgidkphbbpdeaa
open Go.RowKit
set_option linter.unusedVariables false
set_option linter.unusedSimpArgs false

/-- The nonce of ChachaStreams. -/
def nonceS (key : List Nat) : List Nat := [key.getD 0 0, key.getD 1 0, 5, 0, 0, 0, 0, 0, 0, 0, 0, 0]
theorem nonceS_lt {key : List Nat} (h : ∀ x ∈ key, x < 256) : ∀ x ∈ nonceS key, x < 256 := by
  intro x hx
  have h0 := getD_lt_256 h 0
  have h1 := getD_lt_256 h 1
  simp only [nonceS, List.mem_cons, List.not_mem_nil, or_false] at hx
  omega

set_option maxRecDepth 100000 in
set_option maxHeartbeats 1600000 in
theorem streams_any (key : List Nat) (c0 : Nat) (n : Int) (hk : key.length = 32) (hkl : ∀ x ∈ key, x < 256) (hc0 : (c0 : Int) ≤ 4294967295) (w : World) :
    Calls Try.prog 6 #[octVal key, .int .u32 (c0 : Int), .int .i64 n] w fun e w' => e = .returned (.bool true) ∧ Below w.heap.size w w' := by
  have hn0 := nonceS_lt hkl
  obtain ⟨C, hC, HCC, sC, oC⟩ := octVal_arr key 32 hk
  rw [hC]
  have h0 := getD_lt_256 hkl 0
  have h1 := getD_lt_256 hkl 1
  have KO := Lib.hid (fun w1 h => (show Octs w1 w.heap.size 23 32 key from ⟨by rw [← HCC.out]; exact h, hk, hkl⟩))
  by_cases hr : 700 < n ∧ n ≤ 65536
  · obtain ⟨hr1, hr2⟩ := hr
    clear hn0 h0 h1 hC HCC sC oC KO
    go_enter Try.func6, Try.ntmps6
    go_wp2_with fail
    refine (awake_any _).mono ?_
    rintro e w1 ⟨rfl, hb1⟩
    have HB1 := Lib.hid hb1
    clear hb1
    go_wp2_with fail
    refine (awake_any _).mono ?_
    rintro e w2 ⟨rfl, hb2⟩
    have HB2 := Lib.hid hb2
    clear hb2
    go_wp2_with fail
    go_ret
    refine ⟨rfl, ?_⟩
    have h1 := below_alloc w (.cells C 23)
    have h2 := h1.trans (HB1.out.mono (by simp))
    exact h2.trans (HB2.out.mono h2.size)
  · have H23 : Hid ((Try.prog.info? 23).map (·.size) = some C.size) := by rw [sC]; exact Lib.hid (by kernel_rfl)
    by_cases hn : n < 0
    · have hlt : ¬ 65536 < n := by omega
      go_enter Try.func6, Try.ntmps6
      go_wp2_with fail
      refine (awake_any _).mono ?_
      rintro e w1 ⟨rfl, hb1⟩
      have hf1 : Fr w w1 (fun _ => False) := ((Fr.alloc w (.cells C 23)).trans (Fr.of_below hb1)).mono (by simp)
      have hkh : w1.heap[w.heap.size]? = some (.cells C 23 (0, 0)) := (Fr.of_below hb1).heap (heap_alloc_new w _) (fun h => h)
      have ho := KO.out w1 hkh
      have c0k := ho.cell 0 (by decide)
      have c1k := ho.cell 1 (by decide)
      obtain ⟨k0, hk0⟩ : ∃ k, k = key.getD 0 0 := ⟨_, rfl⟩
      obtain ⟨k1, hk1⟩ : ∃ k, k = key.getD 1 0 := ⟨_, rfl⟩
      rw [← hk0] at c0k h0
      rw [← hk1] at c1k h1
      have HF1 := Lib.hid hf1
      have HKH := Lib.hid hkh
      have HK0 := Lib.hid (And.intro hk0 hk1)
      clear hb1 hf1 hkh ho hk0 hk1
      go_upto_region 4 with (fail)
      obtain ⟨D, hD⟩ : ∃ D : Array Value, D = #[.int .u8 (k0 : Int), .int .u8 (k1 : Int), .int .u8 5, .int .u8 0, .int .u8 0, .int .u8 0, .int .u8 0, .int .u8 0, .int .u8 0, .int .u8 0, .int .u8 0, .int .u8 0] := ⟨_, rfl⟩
      rw [← hD]
      have HD : Hid (octVal (nonceS key) = .agg D) := Lib.hid (by rw [hD, HK0.out.1, HK0.out.2]; rfl)
      have H24 : Hid ((Try.prog.info? 24).map (·.size) = some D.size) := by rw [hD]; exact Lib.hid (by kernel_rfl)
      obtain ⟨W2, hW⟩ : ∃ W, W = w1.alloc (.cells D 24) := ⟨_, rfl⟩
      have hk2 : W2.heap[w.heap.size]? = some (.cells C 23 (0, 0)) := by rw [hW]; exact (Fr.alloc _ _).heap HKH.out (fun h => h)
      have hn2 : W2.heap[w1.heap.size]? = some (.cells D 24 (0, 0)) := by rw [hW]; exact heap_alloc_new _ _
      have HF2 : Hid (Fr w W2 (fun _ => False)) := Lib.hid (by rw [hW]; exact (HF1.out.trans (Fr.alloc _ _)).mono (by simp))
      rw [← hW]
      clear hW hD c0k c1k
      go_wp2_with (first | refine wpList_load_row rfl 23 _ rfl w.heap.size rfl 23 C (0, 0) _ hk2 Try.underlying23 rfl H23.out ?_ | refine wpList_load_row rfl 24 _ rfl w1.heap.size rfl 24 D (0, 0) _ hn2 Try.underlying24 rfl H24.out ?_)
      refine (stream_no C D c0 n (.inl hn) _).mono ?_
      rintro e w3 ⟨rfl, hb3⟩
      have HB3 := Lib.hid hb3
      clear hb3 hk2 hn2
      go_wp2_with fail
      go_ret
      exact ⟨rfl, ((HF2.out.trans (Fr.of_below HB3.out)).below (Nat.le_refl _) (fun k _ h => by simp at h))⟩
    · by_cases hlt : 65536 < n
      · go_enter Try.func6, Try.ntmps6
        go_wp2_with fail
        refine (awake_any _).mono ?_
        rintro e w1 ⟨rfl, hb1⟩
        have hf1 : Fr w w1 (fun _ => False) := ((Fr.alloc w (.cells C 23)).trans (Fr.of_below hb1)).mono (by simp)
        have hkh : w1.heap[w.heap.size]? = some (.cells C 23 (0, 0)) := (Fr.of_below hb1).heap (heap_alloc_new w _) (fun h => h)
        have ho := KO.out w1 hkh
        have c0k := ho.cell 0 (by decide)
        have c1k := ho.cell 1 (by decide)
        obtain ⟨k0, hk0⟩ : ∃ k, k = key.getD 0 0 := ⟨_, rfl⟩
        obtain ⟨k1, hk1⟩ : ∃ k, k = key.getD 1 0 := ⟨_, rfl⟩
        rw [← hk0] at c0k h0
        rw [← hk1] at c1k h1
        have HF1 := Lib.hid hf1
        have HKH := Lib.hid hkh
        have HK0 := Lib.hid (And.intro hk0 hk1)
        clear hb1 hf1 hkh ho hk0 hk1
        go_upto_region 4 with (fail)
        obtain ⟨D, hD⟩ : ∃ D : Array Value, D = #[.int .u8 (k0 : Int), .int .u8 (k1 : Int), .int .u8 5, .int .u8 0, .int .u8 0, .int .u8 0, .int .u8 0, .int .u8 0, .int .u8 0, .int .u8 0, .int .u8 0, .int .u8 0] := ⟨_, rfl⟩
        rw [← hD]
        have HD : Hid (octVal (nonceS key) = .agg D) := Lib.hid (by rw [hD, HK0.out.1, HK0.out.2]; rfl)
        have H24 : Hid ((Try.prog.info? 24).map (·.size) = some D.size) := by rw [hD]; exact Lib.hid (by kernel_rfl)
        obtain ⟨W2, hW⟩ : ∃ W, W = w1.alloc (.cells D 24) := ⟨_, rfl⟩
        have hk2 : W2.heap[w.heap.size]? = some (.cells C 23 (0, 0)) := by rw [hW]; exact (Fr.alloc _ _).heap HKH.out (fun h => h)
        have hn2 : W2.heap[w1.heap.size]? = some (.cells D 24 (0, 0)) := by rw [hW]; exact heap_alloc_new _ _
        have HF2 : Hid (Fr w W2 (fun _ => False)) := Lib.hid (by rw [hW]; exact (HF1.out.trans (Fr.alloc _ _)).mono (by simp))
        rw [← hW]
        clear hW hD c0k c1k
        go_wp2_with (first | refine wpList_load_row rfl 23 _ rfl w.heap.size rfl 23 C (0, 0) _ hk2 Try.underlying23 rfl H23.out ?_ | refine wpList_load_row rfl 24 _ rfl w1.heap.size rfl 24 D (0, 0) _ hn2 Try.underlying24 rfl H24.out ?_)
        refine (stream_no C D c0 n (.inr hlt) _).mono ?_
        rintro e w3 ⟨rfl, hb3⟩
        have HB3 := Lib.hid hb3
        clear hb3 hk2 hn2
        go_wp2_with fail
        go_ret
        exact ⟨rfl, ((HF2.out.trans (Fr.of_below HB3.out)).below (Nat.le_refl _) (fun k _ h => by simp at h))⟩
      · have hle : n ≤ 700 := by omega
        obtain ⟨m, rfl⟩ : ∃ m : Nat, n = (m : Int) := ⟨n.toNat, by omega⟩
        go_enter Try.func6, Try.ntmps6
        go_wp2_with fail
        refine (awake_any _).mono ?_
        rintro e w1 ⟨rfl, hb1⟩
        have hf1 : Fr w w1 (fun _ => False) := ((Fr.alloc w (.cells C 23)).trans (Fr.of_below hb1)).mono (by simp)
        have hkh : w1.heap[w.heap.size]? = some (.cells C 23 (0, 0)) := (Fr.of_below hb1).heap (heap_alloc_new w _) (fun h => h)
        have ho := KO.out w1 hkh
        have c0k := ho.cell 0 (by decide)
        have c1k := ho.cell 1 (by decide)
        obtain ⟨k0, hk0⟩ : ∃ k, k = key.getD 0 0 := ⟨_, rfl⟩
        obtain ⟨k1, hk1⟩ : ∃ k, k = key.getD 1 0 := ⟨_, rfl⟩
        rw [← hk0] at c0k h0
        rw [← hk1] at c1k h1
        have HF1 := Lib.hid hf1
        have HKH := Lib.hid hkh
        have HK0 := Lib.hid (And.intro hk0 hk1)
        clear hb1 hf1 hkh ho hk0 hk1
        go_upto_region 4 with (fail)
        obtain ⟨D, hD⟩ : ∃ D : Array Value, D = #[.int .u8 (k0 : Int), .int .u8 (k1 : Int), .int .u8 5, .int .u8 0, .int .u8 0, .int .u8 0, .int .u8 0, .int .u8 0, .int .u8 0, .int .u8 0, .int .u8 0, .int .u8 0] := ⟨_, rfl⟩
        rw [← hD]
        have HD : Hid (octVal (nonceS key) = .agg D) := Lib.hid (by rw [hD, HK0.out.1, HK0.out.2]; rfl)
        have H24 : Hid ((Try.prog.info? 24).map (·.size) = some D.size) := by rw [hD]; exact Lib.hid (by kernel_rfl)
        obtain ⟨W2, hW⟩ : ∃ W, W = w1.alloc (.cells D 24) := ⟨_, rfl⟩
        have hk2 : W2.heap[w.heap.size]? = some (.cells C 23 (0, 0)) := by rw [hW]; exact (Fr.alloc _ _).heap HKH.out (fun h => h)
        have hn2 : W2.heap[w1.heap.size]? = some (.cells D 24 (0, 0)) := by rw [hW]; exact heap_alloc_new _ _
        have HF2 : Hid (Fr w W2 (fun _ => False)) := Lib.hid (by rw [hW]; exact (HF1.out.trans (Fr.alloc _ _)).mono (by simp))
        rw [← hW]
        clear hW hD c0k c1k
        go_wp2_with (first | refine wpList_load_row rfl 23 _ rfl w.heap.size rfl 23 C (0, 0) _ hk2 Try.underlying23 rfl H23.out ?_ | refine wpList_load_row rfl 24 _ rfl w1.heap.size rfl 24 D (0, 0) _ hn2 Try.underlying24 rfl H24.out ?_)
        have KS0 := stream_any key (nonceS key) c0 hk rfl hkl hn0 hc0 m (by omega) W2
        have KR0 := refStream_any key (nonceS key) c0 hk rfl hkl hn0 hc0 m (by omega)
        rw [hC, HD.out] at KS0 KR0
        have KS := Lib.hid KS0
        have KR := Lib.hid KR0
        clear KS0 KR0
        -- REGION
        refine KS.out.mono ?_
        rintro e w3 ⟨q, cap, rfl, how, hb3⟩
        have hf3 : Fr W2 w3 (fun _ => False) := Fr.of_below hb3
        have hk3 := hf3.heap hk2 (fun h => h)
        have hn3 := hf3.heap hn2 (fun h => h)
        have hsrc3 := Lib.hid how.src
        have HF3 := Lib.hid hf3
        clear how hb3 hk2 hn2 hf3
        go_wp2_with fail
        refine wp_region_noPanic ?_
        refine region_some (S := fun w' => Fr w3 w' (fun _ => False)) (Ts := []) (by kernel_rfl) (Fr.drew _) (fun hS hC => ?_)
        refine wpAnyG_takeB (i := 0) (v := .int .i64 0) rfl (by kernel_rfl) (by kernel_rfl) (by kernel_rfl) (by kernel_rfl) (fun _ _ _ h => h) hC (Or.inl ⟨by rfl, fun w' hSw => ?_⟩) hS ?_
        · go_simp
        clear hC
        intro hC
        try simp only [Act.put, List.setIfInBounds_toArray, List.set_cons_zero, List.set_cons_succ, List.getElem_toArray, List.getElem_cons_zero, List.getElem_cons_succ]
        refine wpAnyG_takeB (i := 1) (v := .bool true) rfl (by kernel_rfl) (by kernel_rfl) (by kernel_rfl) (by kernel_rfl) (fun _ _ _ h => h) hC (Or.inl ⟨by rfl, fun w' hSw => ?_⟩) hS ?_
        · go_simp
        clear hC
        intro hC
        try simp only [Act.put, List.setIfInBounds_toArray, List.set_cons_zero, List.set_cons_succ, List.getElem_toArray, List.getElem_cons_zero, List.getElem_cons_succ]
        refine wpAnyG_takeB (i := 2) (v := .bool true) rfl (by kernel_rfl) (by kernel_rfl) (by kernel_rfl) (by kernel_rfl) (fun _ _ _ h => h) hC (Or.inl ⟨by rfl, fun w' hSw => ?_⟩) hS ?_
        · go_simp
        clear hC
        intro hC
        try simp only [Act.put, List.setIfInBounds_toArray, List.set_cons_zero, List.set_cons_succ, List.getElem_toArray, List.getElem_cons_zero, List.getElem_cons_succ]
        refine wpAnyG_takeB (i := 3) (v := .slice q m cap) rfl (by kernel_rfl) (by kernel_rfl) (by kernel_rfl) (by kernel_rfl) (fun _ _ _ h => h) hC (Or.inl ⟨by rfl, fun w' hSw => ?_⟩) hS ?_
        · go_simp
        clear hC
        intro hC
        try simp only [Act.put, List.setIfInBounds_toArray, List.set_cons_zero, List.set_cons_succ, List.getElem_toArray, List.getElem_cons_zero, List.getElem_cons_succ]
        refine wpAnyG_takeB (i := 4) (v := .string (strOfNums (strL (strm key (nonceS key) c0) m))) rfl (by kernel_rfl) (by kernel_rfl) (by kernel_rfl) (by kernel_rfl) (fun _ _ _ h => h) hC (Or.inl ⟨by rfl, fun w' hSw => ?_⟩) hS ?_
        · have hq := (hsrc3.out.fr (show Fr w3 w' (fun _ => False) from hSw) (fun _ _ _ h => h)).convert (P := Try.prog) cap 31 5 9 Try.underlying31 Try.underlying5 Try.underlying9; go_simp
        clear hC
        intro hC
        try simp only [Act.put, List.setIfInBounds_toArray, List.set_cons_zero, List.set_cons_succ, List.getElem_toArray, List.getElem_cons_zero, List.getElem_cons_succ]
        refine wpAnyG_takeB (i := 5) (v := .agg C) rfl (by kernel_rfl) (by kernel_rfl) (by kernel_rfl) (by kernel_rfl) (fun _ _ _ h => h) hC (yieldsIf_load_row (by rfl) 23 _ rfl w.heap.size rfl C 23 _ (fun w' h => (show Fr w3 w' (fun _ => False) from h).heap hk3 (fun h => h)) Try.underlying23 rfl H23.out) hS ?_
        clear hC
        intro hC
        try simp only [Act.put, List.setIfInBounds_toArray, List.set_cons_zero, List.set_cons_succ, List.getElem_toArray, List.getElem_cons_zero, List.getElem_cons_succ]
        refine wpAnyG_takeB (i := 6) (v := .agg D) rfl (by kernel_rfl) (by kernel_rfl) (by kernel_rfl) (by kernel_rfl) (fun _ _ _ h => h) hC (yieldsIf_load_row (by rfl) 24 _ rfl w1.heap.size rfl D 24 _ (fun w' h => (show Fr w3 w' (fun _ => False) from h).heap hn3 (fun h => h)) Try.underlying24 rfl H24.out) hS ?_
        clear hC
        intro hC
        try simp only [Act.put, List.setIfInBounds_toArray, List.set_cons_zero, List.set_cons_succ, List.getElem_toArray, List.getElem_cons_zero, List.getElem_cons_succ]
        refine wpAnyG_takeB (i := 7) (v := .int .u32 (c0 : Int)) rfl (by kernel_rfl) (by kernel_rfl) (by kernel_rfl) (by kernel_rfl) (fun _ _ _ h => h) hC (Or.inl ⟨by rfl, fun w' hSw => ?_⟩) hS ?_
        · go_simp
        clear hC
        intro hC
        try simp only [Act.put, List.setIfInBounds_toArray, List.set_cons_zero, List.set_cons_succ, List.getElem_toArray, List.getElem_cons_zero, List.getElem_cons_succ]
        refine wpAnyG_takeB (i := 8) (v := .int .i64 (m : Int)) rfl (by kernel_rfl) (by kernel_rfl) (by kernel_rfl) (by kernel_rfl) (fun _ _ _ h => h) hC (Or.inl ⟨by rfl, fun w' hSw => ?_⟩) hS ?_
        · go_simp
        clear hC
        intro hC
        try simp only [Act.put, List.setIfInBounds_toArray, List.set_cons_zero, List.set_cons_succ, List.getElem_toArray, List.getElem_cons_zero, List.getElem_cons_succ]
        refine wpAnyG_step (i := 9) (by kernel_rfl) rfl (by rfl) hC (fun K hK => ?_)
        go_simp
        refine (KR.out _).mono ?_
        rintro e w4 ⟨q4, cap4, rfl, how4, hb4⟩
        go_wp2_with fail
        refine hK.out _ _ (.inr ?_) ?_
        · exact ((show Fr w3 w3.drew (fun _ => False) from hS).trans (Fr.of_below hb4)).mono (by simp)
        clear hK K hC
        intro hC
        try simp only [Act.put, List.setIfInBounds_toArray, List.set_cons_zero, List.set_cons_succ, List.getElem_toArray, List.getElem_cons_zero, List.getElem_cons_succ]
        have hS4 : Fr w3 w4 (fun _ => False) := ((show Fr w3 w3.drew (fun _ => False) from hS).trans (Fr.of_below hb4)).mono (by simp)
        clear hS
        have hS := hS4
        have hq4 := how4.src.convert (P := Try.prog) cap4 31 5 9 Try.underlying31 Try.underlying5 Try.underlying9
        clear how4 hb4
        refine wpAnyG_step (i := 10) (by kernel_rfl) rfl (by rfl) hC (fun K hK => ?_)
        go_simp
        refine hK.out _ _ (.inr hS4) ?_
        clear hK K hC
        intro hC
        try simp only [Act.put, List.setIfInBounds_toArray, List.set_cons_zero, List.set_cons_succ, List.getElem_toArray, List.getElem_cons_zero, List.getElem_cons_succ]
        clear hq4
        refine wpAnyG_takeB (i := 11) (v := .bool true) rfl (by kernel_rfl) (by kernel_rfl) (by kernel_rfl) (by kernel_rfl) (fun _ _ _ h => h) hC (Or.inl ⟨by rfl, fun w' hSw => ?_⟩) hS ?_
        · go_simp
        clear hC
        intro hC
        try simp only [Act.put, List.setIfInBounds_toArray, List.set_cons_zero, List.set_cons_succ, List.getElem_toArray, List.getElem_cons_zero, List.getElem_cons_succ]
        refine wpAnyG_takeB (i := 12) (v := .bool true) rfl (by kernel_rfl) (by kernel_rfl) (by kernel_rfl) (by kernel_rfl) (fun _ _ _ h => h) hC (Or.inl ⟨by rfl, fun w' hSw => ?_⟩) hS ?_
        · go_simp
        clear hC
        intro hC
        try simp only [Act.put, List.setIfInBounds_toArray, List.set_cons_zero, List.set_cons_succ, List.getElem_toArray, List.getElem_cons_zero, List.getElem_cons_succ]
        refine wpAnyG_takeB (i := 13) (v := .bool true) rfl (by kernel_rfl) (by kernel_rfl) (by kernel_rfl) (by kernel_rfl) (fun _ _ _ h => h) hC (Or.inl ⟨by rfl, fun w' hSw => ?_⟩) hS ?_
        · go_simp
        clear hC
        intro hC
        try simp only [Act.put, List.setIfInBounds_toArray, List.set_cons_zero, List.set_cons_succ, List.getElem_toArray, List.getElem_cons_zero, List.getElem_cons_succ]
        refine wpAnyG_done (by kernel_rfl) ?_ _
        refine NoPanic.normal ?_
        have HX := Lib.hid ((HF2.out.trans HF3.out).trans hS4)
        clear hS hS4 hC hk3 hn3
        go_wp2_with fail
        go_ret
        exact ⟨rfl, HX.out.below (Nat.le_refl _) (fun k _ h => by simp at h)⟩
end Go.Proofs.Ytbgidkphbbpdeaa
