/- The walk of PadPads. -/
import Derived.Test.YtfipbmibcbalhaaDoorRefUnpad
namespace Go.Proofs.YtfipbmibcbalhaaDoor
open Go.RowKit
set_option linter.unusedVariables false
set_option linter.unusedSimpArgs false

theorem bk_ok (n : Nat) (h : n < 2048) : bke n = 0 ∧ ∃ m : Nat, bkt n = (m : Int) ∧ n < m ∧ m ≤ 2048 := by
  refine ⟨by simp only [bke]; (repeat' split) <;> omega, (bkt n).toNat, ?_, ?_, ?_⟩
  case _ => simp only [bkt]; (repeat' split) <;> simp
  case _ => simp only [bkt]; (repeat' split) <;> simp <;> omega
  case _ => simp only [bkt]; (repeat' split) <;> simp
theorem bk_over (n : Nat) (h : 2048 ≤ n) : bke n = 3 ∧ rbk n = 0 := by
  refine ⟨?_, ?_⟩
  case _ => simp only [bke]; (repeat' split) <;> omega
  case _ => simp only [rbk]; (repeat' split) <;> omega

set_option maxRecDepth 100000 in
set_option maxHeartbeats 3200000 in
theorem pads_walk (p : Option Addr) (n c : Nat) (zs : List Int) (w : World) (hz : IsRow .u8 w p n c zs) :
    Calls Tryd.prog 4 #[.slice p n c] w fun e w' => e = .returned (.bool true) ∧ Below w.heap.size w w' := by
  obtain ⟨S0, hnc, hcm, hp⟩ := hz.src
  obtain ⟨xs, hxs⟩ : ∃ xs, zs.take n = xs := ⟨_, rfl⟩
  rw [hxs] at S0
  clear hz hxs
  have HS := Lib.hid S0
  have HP := Lib.hid hp
  have q0 := S0.convert (P := Tryd.prog) c 22 5 9 Tryd.underlying22 Tryd.underlying5 Tryd.underlying9
  clear S0 hp
  by_cases h0 : 3000 < (n : Int)
  · clear q0
    go_enter Tryd.func4, Tryd.ntmps4
    go_wp2_with (first | (go_at_call 5; refine (awake_any _).mono ?_; rintro e w' ⟨rfl, rfl⟩))
    go_ret
    exact ⟨rfl, Below.refl _ _⟩
  by_cases h1 : 2048 ≤ n
  · obtain ⟨he, hr⟩ := bk_over n h1
    have K8 := Lib.hid (pad_long p n c w he)
    have K9 := Lib.hid (refBucket_any (n : Int) w)
    rw [hr] at K9
    clear he hr
    go_enter Tryd.func4, Tryd.ntmps4
    go_wp2_with (first | (go_at_call 5; refine (awake_any _).mono ?_; rintro e w' ⟨rfl, rfl⟩))
    refine K8.out.mono ?_
    rintro e w1 ⟨rfl, rfl⟩
    go_wp2_with fail
    refine K9.out.mono ?_
    rintro e w1 ⟨rfl, hb⟩
    have HB := Lib.hid hb
    clear hb
    go_wp2_with fail
    go_ret
    exact ⟨rfl, HB.out⟩
  · obtain ⟨he, m, hm, hnm, hm2⟩ := bk_ok n (by omega)
    have K8 := Lib.hid (pad_ok p n c m xs w HS.out hm he hnm hm2)
    have hm0 : ((m : Int) == 0) = false := by simp; omega
    have HRB : Hid (rbk n = (m : Int)) := by rw [rbk_bkt]; exact Lib.hid hm
    have hlt : xs.length < m := by rw [HS.out.len]; exact hnm
    have HPD := Lib.hid (padN_isPad hlt (by rw [HS.out.len]; exact hm))
    have HLT := Lib.hid hlt
    clear he hm hlt
    have H01 : Hid (Below w.heap.size w (w.alloc (.cells (padA xs m) 5))) := below_alloc w _
    have HSP := Lib.hid (pad_src w xs m HLT.out HS.out.rng)
    obtain ⟨W1, hW1⟩ : ∃ W, w.alloc (.cells (padA xs m) 5) = W := ⟨_, rfl⟩
    obtain ⟨X, hX⟩ : ∃ X, w.heap.size = X := ⟨_, rfl⟩
    rw [hW1] at H01 HSP K8
    rw [hX] at HSP K8
    have HXX := Lib.hid hX
    clear hW1 hX
    have K9 := Lib.hid (refBucket_any (n : Int) W1)
    rw [HRB.out] at K9
    go_enter Tryd.func4, Tryd.ntmps4
    go_wp2_with (first | (go_at_call 5; refine (awake_any _).mono ?_; rintro e w' ⟨rfl, rfl⟩))
    refine K8.out.mono ?_
    rintro e w1 ⟨rfl, rfl⟩
    go_wp2_with fail
    refine K9.out.mono ?_
    rintro e w2 ⟨rfl, hb2⟩
    have HB2 := Lib.hid hb2
    have K6 := Lib.hid (unpad_any (some ⟨X, 0, none⟩) m m (padN xs m) w2 (HSP.out.below hb2) (Nat.le_refl _) (by omega))
    clear hb2
    go_wp2_with fail
    refine K6.out.mono ?_
    rintro e w3 (⟨k, q, c1, hk, rfl, ho, hb3⟩ | ⟨hk, rfl, rfl⟩)
    · obtain rfl : k = n := (hk.uniq HPD.out).trans HS.out.len
      have ht : (padN xs m).take k = xs := by
        have h := padN_take xs m
        rw [HS.out.len] at h
        exact h
      rw [ht] at ho
      have HO := Lib.hid ho
      have HB3 := Lib.hid ((H01.out.trans (HB2.out.mono H01.out.size)).trans (hb3.mono ((H01.out.trans (HB2.out.mono H01.out.size)).size)))
      have HSP3 := Lib.hid ((HSP.out.below HB2.out).below hb3)
      have HS3 := Lib.hid (HS.out.below HB3.out)
      clear hk ho hb3 ht q0
      go_wp2_with fail
      refine wp_region_noPanic ?_
      refine region_some (S := fun w' => Fr w3 w' (fun _ => False)) (Ts := []) (by kernel_rfl) (Fr.drew _) (fun hS hC => ?_)
      refine wpAnyG_takeB (i := 0) (v := .int .i64 0) rfl (by kernel_rfl) (by kernel_rfl) (by kernel_rfl) (by kernel_rfl) (fun _ _ _ h => h) hC (Or.inl ⟨by rfl, fun w' hSw => ?_⟩) hS ?_
      · go_simp
      clear hC
      intro hC
      try simp only [Act.put, List.setIfInBounds_toArray, List.set_cons_zero, List.set_cons_succ, List.getElem_toArray, List.getElem_cons_zero, List.getElem_cons_succ]
      refine wpAnyG_takeB (i := 1) (v := .bool true) rfl (by kernel_rfl) (by kernel_rfl) (by kernel_rfl) (by kernel_rfl) (fun _ _ _ h => h) hC (Or.inl ⟨by rfl, fun w' hSw => ?_⟩) hS ?_
      · go_simp
      clear hC
      intro hC
      try simp only [Act.put, List.setIfInBounds_toArray, List.set_cons_zero, List.set_cons_succ, List.getElem_toArray, List.getElem_cons_zero, List.getElem_cons_succ]
      refine wpAnyG_takeB (i := 2) (v := .bool true) rfl (by kernel_rfl) (by kernel_rfl) (by kernel_rfl) (by kernel_rfl) (fun _ _ _ h => h) hC (Or.inl ⟨by rfl, fun w' hSw => ?_⟩) hS ?_
      · go_simp
      clear hC
      intro hC
      try simp only [Act.put, List.setIfInBounds_toArray, List.set_cons_zero, List.set_cons_succ, List.getElem_toArray, List.getElem_cons_zero, List.getElem_cons_succ]
      refine wpAnyG_takeB (i := 3) (v := .int .i64 0) rfl (by kernel_rfl) (by kernel_rfl) (by kernel_rfl) (by kernel_rfl) (fun _ _ _ h => h) hC (Or.inl ⟨by rfl, fun w' hSw => ?_⟩) hS ?_
      · go_simp
      clear hC
      intro hC
      try simp only [Act.put, List.setIfInBounds_toArray, List.set_cons_zero, List.set_cons_succ, List.getElem_toArray, List.getElem_cons_zero, List.getElem_cons_succ]
      refine wpAnyG_takeB (i := 4) (v := .bool true) rfl (by kernel_rfl) (by kernel_rfl) (by kernel_rfl) (by kernel_rfl) (fun _ _ _ h => h) hC (Or.inl ⟨by rfl, fun w' hSw => ?_⟩) hS ?_
      · go_simp
      clear hC
      intro hC
      try simp only [Act.put, List.setIfInBounds_toArray, List.set_cons_zero, List.set_cons_succ, List.getElem_toArray, List.getElem_cons_zero, List.getElem_cons_succ]
      refine wpAnyG_takeB (i := 5) (v := .bool true) rfl (by kernel_rfl) (by kernel_rfl) (by kernel_rfl) (by kernel_rfl) (fun _ _ _ h => h) hC (Or.inl ⟨by rfl, fun w' hSw => ?_⟩) hS ?_
      · go_simp
      clear hC
      intro hC
      try simp only [Act.put, List.setIfInBounds_toArray, List.set_cons_zero, List.set_cons_succ, List.getElem_toArray, List.getElem_cons_zero, List.getElem_cons_succ]
      refine wpAnyG_takeB (i := 6) (v := .bool true) rfl (by kernel_rfl) (by kernel_rfl) (by kernel_rfl) (by kernel_rfl) (fun _ _ _ h => h) hC (Or.inl ⟨by rfl, fun w' hSw => ?_⟩) hS ?_
      · go_simp
      clear hC
      intro hC
      try simp only [Act.put, List.setIfInBounds_toArray, List.set_cons_zero, List.set_cons_succ, List.getElem_toArray, List.getElem_cons_zero, List.getElem_cons_succ]
      refine wpAnyG_takeB (i := 7) (v := .slice (some ⟨X, 0, none⟩) m m) rfl (by kernel_rfl) (by kernel_rfl) (by kernel_rfl) (by kernel_rfl) (fun _ _ _ h => h) hC (Or.inl ⟨by rfl, fun w' hSw => ?_⟩) hS ?_
      · go_simp
      clear hC
      intro hC
      try simp only [Act.put, List.setIfInBounds_toArray, List.set_cons_zero, List.set_cons_succ, List.getElem_toArray, List.getElem_cons_zero, List.getElem_cons_succ]
      refine wpAnyG_takeB (i := 8) (v := .string (strOfNums (padN xs m))) rfl (by kernel_rfl) (by kernel_rfl) (by kernel_rfl) (by kernel_rfl) (fun _ _ _ h => h) hC (Or.inl ⟨by rfl, fun w' hSw => ?_⟩) hS ?_
      · have hq := (HSP3.out.fr (show Fr w3 w' (fun _ => False) from hSw) (fun _ _ _ h => h)).convert (P := Tryd.prog) m 22 5 9 Tryd.underlying22 Tryd.underlying5 Tryd.underlying9; go_simp
      clear hC
      intro hC
      try simp only [Act.put, List.setIfInBounds_toArray, List.set_cons_zero, List.set_cons_succ, List.getElem_toArray, List.getElem_cons_zero, List.getElem_cons_succ]
      refine wpAnyG_takeB (i := 9) (v := .slice p k c) rfl (by kernel_rfl) (by kernel_rfl) (by kernel_rfl) (by kernel_rfl) (fun _ _ _ h => h) hC (Or.inl ⟨by rfl, fun w' hSw => ?_⟩) hS ?_
      · go_simp
      clear hC
      intro hC
      try simp only [Act.put, List.setIfInBounds_toArray, List.set_cons_zero, List.set_cons_succ, List.getElem_toArray, List.getElem_cons_zero, List.getElem_cons_succ]
      refine wpAnyG_step (i := 10) (by kernel_rfl) rfl (by rfl) hC (fun K hK => ?_)
      go_simp
      refine (refPad_ok p k c m xs _ (HS3.out.fr (show Fr w3 _ (fun _ => False) from hS) (fun _ _ _ h => h)) HP.out HRB.out hnm hm2).mono ?_
      rintro e w4 ⟨q4, c4, rfl, how4, hb4⟩
      go_wp2_with fail
      refine hK.out _ _ (.inr ?_) ?_
      · exact ((show Fr w3 _ (fun _ => False) from hS).trans (Fr.of_below hb4)).mono (by simp)
      clear hK K hC
      intro hC
      try simp only [Act.put, List.setIfInBounds_toArray, List.set_cons_zero, List.set_cons_succ, List.getElem_toArray, List.getElem_cons_zero, List.getElem_cons_succ]
      have hS4 : Fr w3 w4 (fun _ => False) := ((show Fr w3 _ (fun _ => False) from hS).trans (Fr.of_below hb4)).mono (by simp)
      clear hS
      have hS := hS4
      clear hS4
      have hq1 := how4.src.convert (P := Tryd.prog) c4 22 5 9 Tryd.underlying22 Tryd.underlying5 Tryd.underlying9
      clear how4 hb4
      refine wpAnyG_step (i := 11) (by kernel_rfl) rfl (by rfl) hC (fun K hK => ?_)
      go_simp
      refine hK.out _ _ (.inr hS) ?_
      clear hK K hC
      intro hC
      try simp only [Act.put, List.setIfInBounds_toArray, List.set_cons_zero, List.set_cons_succ, List.getElem_toArray, List.getElem_cons_zero, List.getElem_cons_succ]
      clear hq1
      refine wpAnyG_takeB (i := 12) (v := .bool true) rfl (by kernel_rfl) (by kernel_rfl) (by kernel_rfl) (by kernel_rfl) (fun _ _ _ h => h) hC (Or.inl ⟨by rfl, fun w' hSw => ?_⟩) hS ?_
      · go_simp
      clear hC
      intro hC
      try simp only [Act.put, List.setIfInBounds_toArray, List.set_cons_zero, List.set_cons_succ, List.getElem_toArray, List.getElem_cons_zero, List.getElem_cons_succ]
      refine wpAnyG_takeB (i := 13) (v := .bool true) rfl (by kernel_rfl) (by kernel_rfl) (by kernel_rfl) (by kernel_rfl) (fun _ _ _ h => h) hC (Or.inl ⟨by rfl, fun w' hSw => ?_⟩) hS ?_
      · go_simp
      clear hC
      intro hC
      try simp only [Act.put, List.setIfInBounds_toArray, List.set_cons_zero, List.set_cons_succ, List.getElem_toArray, List.getElem_cons_zero, List.getElem_cons_succ]
      refine wpAnyG_takeB (i := 14) (v := .bool true) rfl (by kernel_rfl) (by kernel_rfl) (by kernel_rfl) (by kernel_rfl) (fun _ _ _ h => h) hC (Or.inl ⟨by rfl, fun w' hSw => ?_⟩) hS ?_
      · go_simp
      clear hC
      intro hC
      try simp only [Act.put, List.setIfInBounds_toArray, List.set_cons_zero, List.set_cons_succ, List.getElem_toArray, List.getElem_cons_zero, List.getElem_cons_succ]
      refine wpAnyG_takeB (i := 15) (v := .slice q k c1) rfl (by kernel_rfl) (by kernel_rfl) (by kernel_rfl) (by kernel_rfl) (fun _ _ _ h => h) hC (Or.inl ⟨by rfl, fun w' hSw => ?_⟩) hS ?_
      · go_simp
      clear hC
      intro hC
      try simp only [Act.put, List.setIfInBounds_toArray, List.set_cons_zero, List.set_cons_succ, List.getElem_toArray, List.getElem_cons_zero, List.getElem_cons_succ]
      refine wpAnyG_takeB (i := 16) (v := .string (strOfNums xs)) rfl (by kernel_rfl) (by kernel_rfl) (by kernel_rfl) (by kernel_rfl) (fun _ _ _ h => h) hC (Or.inl ⟨by rfl, fun w' hSw => ?_⟩) hS ?_
      · have hq := (HO.out.src.fr (show Fr w3 w' (fun _ => False) from hSw) (fun _ _ _ h => h)).convert (P := Tryd.prog) c1 22 5 9 Tryd.underlying22 Tryd.underlying5 Tryd.underlying9; go_simp
      clear hC
      intro hC
      try simp only [Act.put, List.setIfInBounds_toArray, List.set_cons_zero, List.set_cons_succ, List.getElem_toArray, List.getElem_cons_zero, List.getElem_cons_succ]
      refine wpAnyG_takeB (i := 17) (v := .string (strOfNums xs)) rfl (by kernel_rfl) (by kernel_rfl) (by kernel_rfl) (by kernel_rfl) (fun _ _ _ h => h) hC (Or.inl ⟨by rfl, fun w' hSw => ?_⟩) hS ?_
      · go_simp
      clear hC
      intro hC
      try simp only [Act.put, List.setIfInBounds_toArray, List.set_cons_zero, List.set_cons_succ, List.getElem_toArray, List.getElem_cons_zero, List.getElem_cons_succ]
      refine wpAnyG_takeB (i := 18) (v := .bool true) rfl (by kernel_rfl) (by kernel_rfl) (by kernel_rfl) (by kernel_rfl) (fun _ _ _ h => h) hC (Or.inl ⟨by rfl, fun w' hSw => ?_⟩) hS ?_
      · go_simp
      clear hC
      intro hC
      try simp only [Act.put, List.setIfInBounds_toArray, List.set_cons_zero, List.set_cons_succ, List.getElem_toArray, List.getElem_cons_zero, List.getElem_cons_succ]
      refine wpAnyG_takeB (i := 19) (v := .bool true) rfl (by kernel_rfl) (by kernel_rfl) (by kernel_rfl) (by kernel_rfl) (fun _ _ _ h => h) hC (Or.inl ⟨by rfl, fun w' hSw => ?_⟩) hS ?_
      · go_simp
      clear hC
      intro hC
      try simp only [Act.put, List.setIfInBounds_toArray, List.set_cons_zero, List.set_cons_succ, List.getElem_toArray, List.getElem_cons_zero, List.getElem_cons_succ]
      refine wpAnyG_takeB (i := 20) (v := .bool true) rfl (by kernel_rfl) (by kernel_rfl) (by kernel_rfl) (by kernel_rfl) (fun _ _ _ h => h) hC (Or.inl ⟨by rfl, fun w' hSw => ?_⟩) hS ?_
      · go_simp
      clear hC
      intro hC
      try simp only [Act.put, List.setIfInBounds_toArray, List.set_cons_zero, List.set_cons_succ, List.getElem_toArray, List.getElem_cons_zero, List.getElem_cons_succ]
      refine wpAnyG_takeB (i := 21) (v := .slice p k c) rfl (by kernel_rfl) (by kernel_rfl) (by kernel_rfl) (by kernel_rfl) (fun _ _ _ h => h) hC (Or.inl ⟨by rfl, fun w' hSw => ?_⟩) hS ?_
      · go_simp
      clear hC
      intro hC
      try simp only [Act.put, List.setIfInBounds_toArray, List.set_cons_zero, List.set_cons_succ, List.getElem_toArray, List.getElem_cons_zero, List.getElem_cons_succ]
      refine wpAnyG_takeB (i := 22) (v := .string (strOfNums xs)) rfl (by kernel_rfl) (by kernel_rfl) (by kernel_rfl) (by kernel_rfl) (fun _ _ _ h => h) hC (Or.inl ⟨by rfl, fun w' hSw => ?_⟩) hS ?_
      · have hq := (HS3.out.fr (show Fr w3 w' (fun _ => False) from hSw) (fun _ _ _ h => h)).convert (P := Tryd.prog) c 22 5 9 Tryd.underlying22 Tryd.underlying5 Tryd.underlying9; go_simp
      clear hC
      intro hC
      try simp only [Act.put, List.setIfInBounds_toArray, List.set_cons_zero, List.set_cons_succ, List.getElem_toArray, List.getElem_cons_zero, List.getElem_cons_succ]
      refine wpAnyG_takeB (i := 23) (v := .string (strOfNums xs)) rfl (by kernel_rfl) (by kernel_rfl) (by kernel_rfl) (by kernel_rfl) (fun _ _ _ h => h) hC (Or.inl ⟨by rfl, fun w' hSw => ?_⟩) hS ?_
      · go_simp
      clear hC
      intro hC
      try simp only [Act.put, List.setIfInBounds_toArray, List.set_cons_zero, List.set_cons_succ, List.getElem_toArray, List.getElem_cons_zero, List.getElem_cons_succ]
      refine wpAnyG_takeB (i := 24) (v := .bool true) rfl (by kernel_rfl) (by kernel_rfl) (by kernel_rfl) (by kernel_rfl) (fun _ _ _ h => h) hC (Or.inl ⟨by rfl, fun w' hSw => ?_⟩) hS ?_
      · go_simp
      clear hC
      intro hC
      try simp only [Act.put, List.setIfInBounds_toArray, List.set_cons_zero, List.set_cons_succ, List.getElem_toArray, List.getElem_cons_zero, List.getElem_cons_succ]
      refine wpAnyG_takeB (i := 25) (v := .bool true) rfl (by kernel_rfl) (by kernel_rfl) (by kernel_rfl) (by kernel_rfl) (fun _ _ _ h => h) hC (Or.inl ⟨by rfl, fun w' hSw => ?_⟩) hS ?_
      · go_simp
      clear hC
      intro hC
      try simp only [Act.put, List.setIfInBounds_toArray, List.set_cons_zero, List.set_cons_succ, List.getElem_toArray, List.getElem_cons_zero, List.getElem_cons_succ]
      refine wpAnyG_takeB (i := 26) (v := .bool true) rfl (by kernel_rfl) (by kernel_rfl) (by kernel_rfl) (by kernel_rfl) (fun _ _ _ h => h) hC (Or.inl ⟨by rfl, fun w' hSw => ?_⟩) hS ?_
      · go_simp
      clear hC
      intro hC
      try simp only [Act.put, List.setIfInBounds_toArray, List.set_cons_zero, List.set_cons_succ, List.getElem_toArray, List.getElem_cons_zero, List.getElem_cons_succ]
      refine wpAnyG_done (by kernel_rfl) ?_ _
      refine NoPanic.normal ?_
      have HBE := Lib.hid (HB3.out.trans ((show Fr w3 _ (fun _ => False) from hS).below HB3.out.size (fun _ _ h => h)))
      clear hS hC
      go_wp2_with fail
      go_ret
      exact ⟨rfl, HBE.out⟩
    · exact absurd HPD.out (hk _)
end Go.Proofs.YtfipbmibcbalhaaDoor
