/- The contract of the reference's Unpad. -/
import Derived.Test.YtfipbmibcbalhaaDoorPadLaw
import Derived.Test.YtfipbmibcbalhaaDoorChaRound
import Derived.Deep.QuietTactic
import Derived.BigQuiet
import Derived.Deep.RegionHeld3
namespace Go.Proofs.YtfipbmibcbalhaaDoor
open Go.RowKit
set_option linter.unusedVariables false
set_option linter.unusedSimpArgs false

/-- What the reference's Unpad leaves. -/
def RefUnpadPost (w : World) (p : Option Addr) (c : Nat) (xs : List Int) (e : Ending) (w' : World) : Prop :=
  ((∃ k, IsPad xs k ∧ e = .returned (.tuple #[.slice p k c, .bool true])) ∨ ((∀ k, ¬ IsPad xs k) ∧ e = .returned (.tuple #[.slice none 0 0, .bool false]))) ∧ Below w.heap.size w w'

structure UnpR (w : World) (xs : List Int) (i : Nat) (wr : World) : Prop where
  not : ∀ k, k < i → ¬ IsPad xs k
  bel : Below w.heap.size w wr
theorem UnpR.step {w wr w1 : World} {xs : List Int} {i : Nat} (h : UnpR w xs i wr) (hb : Fr wr w1 (fun _ => False)) (hi : ¬ IsPad xs i) : UnpR w xs (i + 1) w1 :=
  ⟨fun k hk => by
    rcases Nat.lt_or_ge k i with h1 | h1
    · exact h.not k h1
    · obtain rfl : k = i := by omega
      exact hi, h.bel.trans (hb.below h.bel.size (fun _ _ h => h))⟩

set_option maxRecDepth 100000 in
set_option maxHeartbeats 3200000 in
theorem refUnpad_any (p : Option Addr) (n c : Nat) (xs : List Int) (w : World) (h : Src w p n xs) (hnc : n ≤ c) (hp : p = none → c = 0) (hn : n ≤ 140737488355328) :
    Calls Tryd.prog 7 #[.slice p n c] w (RefUnpadPost w p c xs) := by
  have H := Lib.hid h
  have HL := Lib.hid h.len
  have R0 : UnpR w xs 0 w := ⟨fun k h => by omega, Below.refl _ _⟩
  clear h
  go_enter Tryd.func7, Tryd.ntmps7
  go_wp2_with fail
  go_loopw [4] (fun v wr => ∃ (i : Nat), v = .int .i64 i ∧ i ≤ n ∧ UnpR w xs i wr) (fun v _ => n - (intOf v).toNat)
  case atStart => exact ⟨0, rfl, Nat.zero_le _, R0⟩
  case round =>
    obtain ⟨i, rfl, hi, hR⟩ := hrel
    have HR := Lib.hid hR
    clear hR R0
    by_cases hlt : (i : Int) < n
    · obtain ⟨b, o, rfl, hc⟩ := H.out.mem (by omega)
      have FR := Fr.of_below HR.out.bel
      have c1 := FR.cell (hc i (by omega)) (fun h => h)
      obtain ⟨x, hx⟩ : ∃ x, xs.getD i 0 = x := ⟨_, rfl⟩
      rw [hx] at c1
      have HX := Lib.hid hx
      have HS := Lib.hid (H.out.fr FR (fun _ _ _ h => h))
      clear hx FR hc
      obtain ⟨rv, hrv⟩ : ∃ r, rbk i = r := ⟨_, rfl⟩
      have HRV := Lib.hid hrv
      have K9 := Lib.hid (fun W => refBucket_any i W)
      rw [hrv] at K9
      clear hrv
      by_cases h128 : x = 128
      · subst h128
        by_cases hrn : rv = n
        · subst hrn
          have hn2 : n ≤ 2048 := by have := (rbk_le i).2; rw [HRV.out] at this; omega
          have hic : i ≤ c := by omega
          have sl := slice_to (P := Tryd.prog) 22 Tryd.underlying22 Tryd.sizeOf5 (some ⟨b, o, none⟩) n c i hic
          have hcell : ∀ W, Fr wr W (fun _ => False) → W.cell? ⟨b, o + i, none⟩ = some (.int .u8 128) := fun W hW => hW.cell c1 (fun h => h)
          have HC := Lib.hid hcell
          clear hcell
          go_wp2_with fail
          obtain ⟨rb, hrb⟩ : ∃ r, ((strOfNums (padN (xs.take i) n)).toList == (strOfNums xs).toList) = r := ⟨_, rfl⟩
          have HRB := Lib.hid hrb
          clear hrb
          refine wp_region_noPanic ?_
          refine region_some (S := fun w' => Fr wr w' (fun _ => False)) (Ts := []) (by kernel_rfl) (Fr.drew _) (fun hS hC => ?_)
          refine wpAnyG_takeB (i := 0) (v := .slice (some ⟨b, o, none⟩) n c) rfl (by kernel_rfl) (by kernel_rfl) (by kernel_rfl) (by kernel_rfl) (fun _ _ _ h => h) hC (Or.inl ⟨by rfl, fun w' hSw => ?_⟩) hS ?_
          · go_simp
          clear hC
          intro hC
          try simp only [Act.put, List.setIfInBounds_toArray, List.set_cons_zero, List.set_cons_succ, List.getElem_toArray, List.getElem_cons_zero, List.getElem_cons_succ]
          refine wpAnyG_takeB (i := 1) (v := .int .i64 (i : Int)) rfl (by kernel_rfl) (by kernel_rfl) (by kernel_rfl) (by kernel_rfl) (fun _ _ _ h => h) hC (Or.inl ⟨by rfl, fun w' hSw => ?_⟩) hS ?_
          · go_simp
          clear hC
          intro hC
          try simp only [Act.put, List.setIfInBounds_toArray, List.set_cons_zero, List.set_cons_succ, List.getElem_toArray, List.getElem_cons_zero, List.getElem_cons_succ]
          refine wpAnyG_takeB (i := 2) (v := .pointer (some ⟨b, o + i, none⟩)) rfl (by kernel_rfl) (by kernel_rfl) (by kernel_rfl) (by kernel_rfl) (fun _ _ _ h => h) hC (Or.inl ⟨by rfl, fun w' hSw => ?_⟩) hS ?_
          · go_simp
          clear hC
          intro hC
          try simp only [Act.put, List.setIfInBounds_toArray, List.set_cons_zero, List.set_cons_succ, List.getElem_toArray, List.getElem_cons_zero, List.getElem_cons_succ]
          refine wpAnyG_takeB (i := 3) (v := .int .u8 128) rfl (by kernel_rfl) (by kernel_rfl) (by kernel_rfl) (by kernel_rfl) (fun _ _ _ h => h) hC (Or.inl ⟨by rfl, fun w' hSw => ?_⟩) hS ?_
          · have hq := HC.out w' (show Fr wr w' (fun _ => False) from hSw); go_simp
          clear hC
          intro hC
          try simp only [Act.put, List.setIfInBounds_toArray, List.set_cons_zero, List.set_cons_succ, List.getElem_toArray, List.getElem_cons_zero, List.getElem_cons_succ]
          refine wpAnyG_takeB (i := 4) (v := .bool true) rfl (by kernel_rfl) (by kernel_rfl) (by kernel_rfl) (by kernel_rfl) (fun _ _ _ h => h) hC (Or.inl ⟨by rfl, fun w' hSw => ?_⟩) hS ?_
          · go_simp
          clear hC
          intro hC
          try simp only [Act.put, List.setIfInBounds_toArray, List.set_cons_zero, List.set_cons_succ, List.getElem_toArray, List.getElem_cons_zero, List.getElem_cons_succ]
          refine wpAnyG_takeB (i := 5) (v := .bool true) rfl (by kernel_rfl) (by kernel_rfl) (by kernel_rfl) (by kernel_rfl) (fun _ _ _ h => h) hC (Or.inl ⟨by rfl, fun w' hSw => ?_⟩) hS ?_
          · go_simp
          clear hC
          intro hC
          try simp only [Act.put, List.setIfInBounds_toArray, List.set_cons_zero, List.set_cons_succ, List.getElem_toArray, List.getElem_cons_zero, List.getElem_cons_succ]
          refine wpAnyG_takeB (i := 6) (v := .int .i64 (i : Int)) rfl (by kernel_rfl) (by kernel_rfl) (by kernel_rfl) (by kernel_rfl) (fun _ _ _ h => h) hC (Or.inl ⟨by rfl, fun w' hSw => ?_⟩) hS ?_
          · go_simp
          clear hC
          intro hC
          try simp only [Act.put, List.setIfInBounds_toArray, List.set_cons_zero, List.set_cons_succ, List.getElem_toArray, List.getElem_cons_zero, List.getElem_cons_succ]
          refine wpAnyG_takeB (i := 8) (v := .slice (some ⟨b, o, none⟩) n c) rfl (by kernel_rfl) (by kernel_rfl) (by kernel_rfl) (by kernel_rfl) (fun _ _ _ h => h) hC (Or.inl ⟨by rfl, fun w' hSw => ?_⟩) hS ?_
          · go_simp
          clear hC
          intro hC
          try simp only [Act.put, List.setIfInBounds_toArray, List.set_cons_zero, List.set_cons_succ, List.getElem_toArray, List.getElem_cons_zero, List.getElem_cons_succ]
          refine wpAnyG_takeB (i := 9) (v := .int .i64 (n : Int)) rfl (by kernel_rfl) (by kernel_rfl) (by kernel_rfl) (by kernel_rfl) (fun _ _ _ h => h) hC (Or.inl ⟨by rfl, fun w' hSw => ?_⟩) hS ?_
          · go_simp
          clear hC
          intro hC
          try simp only [Act.put, List.setIfInBounds_toArray, List.set_cons_zero, List.set_cons_succ, List.getElem_toArray, List.getElem_cons_zero, List.getElem_cons_succ]
          refine wpAnyG_step (i := 7) (by kernel_rfl) rfl (by rfl) hC (fun K hK => ?_)
          go_simp
          refine (K9.out _).mono ?_
          rintro e w4 ⟨rfl, hb4⟩
          go_wp2_with fail
          refine hK.out _ _ (.inr ?_) ?_
          · exact ((show Fr wr _ (fun _ => False) from hS).trans (Fr.of_below hb4)).mono (by simp)
          clear hK K hC
          intro hC
          try simp only [Act.put, List.setIfInBounds_toArray, List.set_cons_zero, List.set_cons_succ, List.getElem_toArray, List.getElem_cons_zero, List.getElem_cons_succ]
          have hS4 : Fr wr w4 (fun _ => False) := ((show Fr wr _ (fun _ => False) from hS).trans (Fr.of_below hb4)).mono (by simp)
          clear hS
          have hS := hS4
          clear hS4
          clear hb4
          refine wpAnyG_takeB (i := 10) (v := .bool true) rfl (by kernel_rfl) (by kernel_rfl) (by kernel_rfl) (by kernel_rfl) (fun _ _ _ h => h) hC (Or.inl ⟨by rfl, fun w' hSw => ?_⟩) hS ?_
          · go_simp
          clear hC
          intro hC
          try simp only [Act.put, List.setIfInBounds_toArray, List.set_cons_zero, List.set_cons_succ, List.getElem_toArray, List.getElem_cons_zero, List.getElem_cons_succ]
          refine wpAnyG_takeB (i := 11) (v := .bool true) rfl (by kernel_rfl) (by kernel_rfl) (by kernel_rfl) (by kernel_rfl) (fun _ _ _ h => h) hC (Or.inl ⟨by rfl, fun w' hSw => ?_⟩) hS ?_
          · go_simp
          clear hC
          intro hC
          try simp only [Act.put, List.setIfInBounds_toArray, List.set_cons_zero, List.set_cons_succ, List.getElem_toArray, List.getElem_cons_zero, List.getElem_cons_succ]
          refine wpAnyG_takeB (i := 12) (v := .bool true) rfl (by kernel_rfl) (by kernel_rfl) (by kernel_rfl) (by kernel_rfl) (fun _ _ _ h => h) hC (Or.inl ⟨by rfl, fun w' hSw => ?_⟩) hS ?_
          · go_simp
          clear hC
          intro hC
          try simp only [Act.put, List.setIfInBounds_toArray, List.set_cons_zero, List.set_cons_succ, List.getElem_toArray, List.getElem_cons_zero, List.getElem_cons_succ]
          refine wpAnyG_takeB (i := 13) (v := .slice (some ⟨b, o, none⟩) n c) rfl (by kernel_rfl) (by kernel_rfl) (by kernel_rfl) (by kernel_rfl) (fun _ _ _ h => h) hC (Or.inl ⟨by rfl, fun w' hSw => ?_⟩) hS ?_
          · go_simp
          clear hC
          intro hC
          try simp only [Act.put, List.setIfInBounds_toArray, List.set_cons_zero, List.set_cons_succ, List.getElem_toArray, List.getElem_cons_zero, List.getElem_cons_succ]
          refine wpAnyG_takeB (i := 14) (v := .int .i64 (i : Int)) rfl (by kernel_rfl) (by kernel_rfl) (by kernel_rfl) (by kernel_rfl) (fun _ _ _ h => h) hC (Or.inl ⟨by rfl, fun w' hSw => ?_⟩) hS ?_
          · go_simp
          clear hC
          intro hC
          try simp only [Act.put, List.setIfInBounds_toArray, List.set_cons_zero, List.set_cons_succ, List.getElem_toArray, List.getElem_cons_zero, List.getElem_cons_succ]
          refine wpAnyG_takeB (i := 15) (v := .slice (some ⟨b, o, none⟩) i c) rfl (by kernel_rfl) (by kernel_rfl) (by kernel_rfl) (by kernel_rfl) (fun _ _ _ h => h) hC (Or.inl ⟨by rfl, fun w' hSw => ?_⟩) hS ?_
          · go_simp
          clear hC
          intro hC
          try simp only [Act.put, List.setIfInBounds_toArray, List.set_cons_zero, List.set_cons_succ, List.getElem_toArray, List.getElem_cons_zero, List.getElem_cons_succ]
          refine wpAnyG_takeB (i := 18) (v := .slice (some ⟨b, o, none⟩) n c) rfl (by kernel_rfl) (by kernel_rfl) (by kernel_rfl) (by kernel_rfl) (fun _ _ _ h => h) hC (Or.inl ⟨by rfl, fun w' hSw => ?_⟩) hS ?_
          · go_simp
          clear hC
          intro hC
          try simp only [Act.put, List.setIfInBounds_toArray, List.set_cons_zero, List.set_cons_succ, List.getElem_toArray, List.getElem_cons_zero, List.getElem_cons_succ]
          refine wpAnyG_takeB (i := 19) (v := .string (strOfNums xs)) rfl (by kernel_rfl) (by kernel_rfl) (by kernel_rfl) (by kernel_rfl) (fun _ _ _ h => h) hC (Or.inl ⟨by rfl, fun w' hSw => ?_⟩) hS ?_
          · have hq := (HS.out.fr (show Fr wr w' (fun _ => False) from hSw) (fun _ _ _ h => h)).convert (P := Tryd.prog) c 22 5 9 Tryd.underlying22 Tryd.underlying5 Tryd.underlying9; go_simp
          clear hC
          intro hC
          try simp only [Act.put, List.setIfInBounds_toArray, List.set_cons_zero, List.set_cons_succ, List.getElem_toArray, List.getElem_cons_zero, List.getElem_cons_succ]
          refine wpAnyG_step (i := 16) (by kernel_rfl) rfl (by rfl) hC (fun K hK => ?_)
          go_simp
          refine (refPad_ok (some ⟨b, o, none⟩) i c n (xs.take i) _ ((HS.out.fr (show Fr wr _ (fun _ => False) from hS) (fun _ _ _ h => h)).take i (by omega)) (fun h => by cases h) HRV.out (by omega) hn2).mono ?_
          rintro e w5 ⟨q5, c5, rfl, how5, hb5⟩
          go_wp2_with fail
          refine hK.out _ _ (.inr ?_) ?_
          · exact ((show Fr wr _ (fun _ => False) from hS).trans (Fr.of_below hb5)).mono (by simp)
          clear hK K hC
          intro hC
          try simp only [Act.put, List.setIfInBounds_toArray, List.set_cons_zero, List.set_cons_succ, List.getElem_toArray, List.getElem_cons_zero, List.getElem_cons_succ]
          have hS4 : Fr wr w5 (fun _ => False) := ((show Fr wr _ (fun _ => False) from hS).trans (Fr.of_below hb5)).mono (by simp)
          clear hS
          have hS := hS4
          clear hS4
          have hq1 := how5.src.convert (P := Tryd.prog) c5 22 5 9 Tryd.underlying22 Tryd.underlying5 Tryd.underlying9
          have hq2 := HRB.out
          clear how5 hb5
          refine wpAnyG_step (i := 17) (by kernel_rfl) rfl (by rfl) hC (fun K hK => ?_)
          go_simp
          refine hK.out _ _ (.inr hS) ?_
          clear hK K hC
          intro hC
          try simp only [Act.put, List.setIfInBounds_toArray, List.set_cons_zero, List.set_cons_succ, List.getElem_toArray, List.getElem_cons_zero, List.getElem_cons_succ]
          refine wpAnyG_takeB (i := 20) (v := .bool rb) rfl (by kernel_rfl) (by kernel_rfl) (by kernel_rfl) (by kernel_rfl) (fun _ _ _ h => h) hC (Or.inl ⟨by rfl, fun w' hSw => ?_⟩) hS ?_
          · rw [← HRB.out]; go_simp
          clear hC
          intro hC
          try simp only [Act.put, List.setIfInBounds_toArray, List.set_cons_zero, List.set_cons_succ, List.getElem_toArray, List.getElem_cons_zero, List.getElem_cons_succ]
          refine wpAnyG_takeB (i := 21) (v := .bool rb) rfl (by kernel_rfl) (by kernel_rfl) (by kernel_rfl) (by kernel_rfl) (fun _ _ _ h => h) hC (Or.inl ⟨by rfl, fun w' hSw => ?_⟩) hS ?_
          · go_simp
          clear hC
          intro hC
          try simp only [Act.put, List.setIfInBounds_toArray, List.set_cons_zero, List.set_cons_succ, List.getElem_toArray, List.getElem_cons_zero, List.getElem_cons_succ]
          refine wpAnyG_done (by kernel_rfl) ?_ _
          refine NoPanic.normal ?_
          have HF5 := Lib.hid hS
          clear hS hq1 hq2 c1 sl
          have hidec : rb = true ↔ IsPad xs i := by
            rw [← HRB.out, strOf_beq (padN_rng _ _ (fun x hx => HS.out.rng x (List.mem_of_mem_take hx))) HS.out.rng, decide_eq_true_eq, ← HL.out]
            exact isPad_iff (by rw [HL.out]; omega) HX.out (by rw [← rbk_bkt, HRV.out, HL.out])
          have HD := Lib.hid hidec
          clear hidec
          cases rb with
          | true =>
            have HPD := Lib.hid (HD.out.1 rfl)
            have HBE := Lib.hid (HR.out.bel.trans (HF5.out.below HR.out.bel.size (fun _ _ h => h)))
            have sl := slice_to (P := Tryd.prog) 22 Tryd.underlying22 Tryd.sizeOf5 (some ⟨b, o, none⟩) n c i hic
            go_wp2_with fail
            go_ret2
            exact ⟨.inl ⟨i, HPD.out, rfl⟩, HBE.out⟩
          | false =>
            have HST := Lib.hid (HR.out.step HF5.out (fun h => by cases HD.out.2 h))
            go_wp2_with fail
            go_roundw
            case rel => exact ⟨i + 1, by go_num, by omega, HST.out⟩
            case measure => simp [intOf]; omega
        · have hb2 : (rv == (n : Int)) = false := by simp [hrn]
          have HNP : Hid (¬ IsPad xs i) := fun h => by
            have e := h.bkt
            rw [← rbk_bkt, HRV.out, HL.out] at e
            exact hrn e
          have hcell : ∀ W, Fr wr W (fun _ => False) → W.cell? ⟨b, o + i, none⟩ = some (.int .u8 128) := fun W hW => hW.cell c1 (fun h => h)
          have HC := Lib.hid hcell
          clear hcell
          go_wp2_with fail
          refine wp_region_noPanic ?_
          refine region_some (S := fun w' => Fr wr w' (fun _ => False)) (Ts := []) (by kernel_rfl) (Fr.drew _) (fun hS hC => ?_)
          refine wpAnyG_takeB (i := 0) (v := .slice (some ⟨b, o, none⟩) n c) rfl (by kernel_rfl) (by kernel_rfl) (by kernel_rfl) (by kernel_rfl) (fun _ _ _ h => h) hC (Or.inl ⟨by rfl, fun w' hSw => ?_⟩) hS ?_
          · go_simp
          clear hC
          intro hC
          try simp only [Act.put, List.setIfInBounds_toArray, List.set_cons_zero, List.set_cons_succ, List.getElem_toArray, List.getElem_cons_zero, List.getElem_cons_succ]
          refine wpAnyG_takeB (i := 1) (v := .int .i64 (i : Int)) rfl (by kernel_rfl) (by kernel_rfl) (by kernel_rfl) (by kernel_rfl) (fun _ _ _ h => h) hC (Or.inl ⟨by rfl, fun w' hSw => ?_⟩) hS ?_
          · go_simp
          clear hC
          intro hC
          try simp only [Act.put, List.setIfInBounds_toArray, List.set_cons_zero, List.set_cons_succ, List.getElem_toArray, List.getElem_cons_zero, List.getElem_cons_succ]
          refine wpAnyG_takeB (i := 2) (v := .pointer (some ⟨b, o + i, none⟩)) rfl (by kernel_rfl) (by kernel_rfl) (by kernel_rfl) (by kernel_rfl) (fun _ _ _ h => h) hC (Or.inl ⟨by rfl, fun w' hSw => ?_⟩) hS ?_
          · go_simp
          clear hC
          intro hC
          try simp only [Act.put, List.setIfInBounds_toArray, List.set_cons_zero, List.set_cons_succ, List.getElem_toArray, List.getElem_cons_zero, List.getElem_cons_succ]
          refine wpAnyG_takeB (i := 3) (v := .int .u8 128) rfl (by kernel_rfl) (by kernel_rfl) (by kernel_rfl) (by kernel_rfl) (fun _ _ _ h => h) hC (Or.inl ⟨by rfl, fun w' hSw => ?_⟩) hS ?_
          · have hq := HC.out w' (show Fr wr w' (fun _ => False) from hSw); go_simp
          clear hC
          intro hC
          try simp only [Act.put, List.setIfInBounds_toArray, List.set_cons_zero, List.set_cons_succ, List.getElem_toArray, List.getElem_cons_zero, List.getElem_cons_succ]
          refine wpAnyG_takeB (i := 4) (v := .bool true) rfl (by kernel_rfl) (by kernel_rfl) (by kernel_rfl) (by kernel_rfl) (fun _ _ _ h => h) hC (Or.inl ⟨by rfl, fun w' hSw => ?_⟩) hS ?_
          · go_simp
          clear hC
          intro hC
          try simp only [Act.put, List.setIfInBounds_toArray, List.set_cons_zero, List.set_cons_succ, List.getElem_toArray, List.getElem_cons_zero, List.getElem_cons_succ]
          refine wpAnyG_takeB (i := 5) (v := .bool true) rfl (by kernel_rfl) (by kernel_rfl) (by kernel_rfl) (by kernel_rfl) (fun _ _ _ h => h) hC (Or.inl ⟨by rfl, fun w' hSw => ?_⟩) hS ?_
          · go_simp
          clear hC
          intro hC
          try simp only [Act.put, List.setIfInBounds_toArray, List.set_cons_zero, List.set_cons_succ, List.getElem_toArray, List.getElem_cons_zero, List.getElem_cons_succ]
          refine wpAnyG_takeB (i := 6) (v := .int .i64 (i : Int)) rfl (by kernel_rfl) (by kernel_rfl) (by kernel_rfl) (by kernel_rfl) (fun _ _ _ h => h) hC (Or.inl ⟨by rfl, fun w' hSw => ?_⟩) hS ?_
          · go_simp
          clear hC
          intro hC
          try simp only [Act.put, List.setIfInBounds_toArray, List.set_cons_zero, List.set_cons_succ, List.getElem_toArray, List.getElem_cons_zero, List.getElem_cons_succ]
          refine wpAnyG_takeB (i := 8) (v := .slice (some ⟨b, o, none⟩) n c) rfl (by kernel_rfl) (by kernel_rfl) (by kernel_rfl) (by kernel_rfl) (fun _ _ _ h => h) hC (Or.inl ⟨by rfl, fun w' hSw => ?_⟩) hS ?_
          · go_simp
          clear hC
          intro hC
          try simp only [Act.put, List.setIfInBounds_toArray, List.set_cons_zero, List.set_cons_succ, List.getElem_toArray, List.getElem_cons_zero, List.getElem_cons_succ]
          refine wpAnyG_takeB (i := 9) (v := .int .i64 (n : Int)) rfl (by kernel_rfl) (by kernel_rfl) (by kernel_rfl) (by kernel_rfl) (fun _ _ _ h => h) hC (Or.inl ⟨by rfl, fun w' hSw => ?_⟩) hS ?_
          · go_simp
          clear hC
          intro hC
          try simp only [Act.put, List.setIfInBounds_toArray, List.set_cons_zero, List.set_cons_succ, List.getElem_toArray, List.getElem_cons_zero, List.getElem_cons_succ]
          refine wpAnyG_step (i := 7) (by kernel_rfl) rfl (by rfl) hC (fun K hK => ?_)
          go_simp
          refine (K9.out _).mono ?_
          rintro e w4 ⟨rfl, hb4⟩
          go_wp2_with fail
          refine hK.out _ _ (.inr ?_) ?_
          · exact ((show Fr wr _ (fun _ => False) from hS).trans (Fr.of_below hb4)).mono (by simp)
          clear hK K hC
          intro hC
          try simp only [Act.put, List.setIfInBounds_toArray, List.set_cons_zero, List.set_cons_succ, List.getElem_toArray, List.getElem_cons_zero, List.getElem_cons_succ]
          have hS4 : Fr wr w4 (fun _ => False) := ((show Fr wr _ (fun _ => False) from hS).trans (Fr.of_below hb4)).mono (by simp)
          clear hS
          have hS := hS4
          clear hS4
          clear hb4
          refine wpAnyG_takeB (i := 10) (v := .bool false) rfl (by kernel_rfl) (by kernel_rfl) (by kernel_rfl) (by kernel_rfl) (fun _ _ _ h => h) hC (Or.inl ⟨by rfl, fun w' hSw => ?_⟩) hS ?_
          · go_simp
          clear hC
          intro hC
          try simp only [Act.put, List.setIfInBounds_toArray, List.set_cons_zero, List.set_cons_succ, List.getElem_toArray, List.getElem_cons_zero, List.getElem_cons_succ]
          refine wpAnyG_takeB (i := 11) (v := .bool false) rfl (by kernel_rfl) (by kernel_rfl) (by kernel_rfl) (by kernel_rfl) (fun _ _ _ h => h) hC (Or.inl ⟨by rfl, fun w' hSw => ?_⟩) hS ?_
          · go_simp
          clear hC
          intro hC
          try simp only [Act.put, List.setIfInBounds_toArray, List.set_cons_zero, List.set_cons_succ, List.getElem_toArray, List.getElem_cons_zero, List.getElem_cons_succ]
          refine wpAnyG_takeB (i := 12) (v := .bool false) rfl (by kernel_rfl) (by kernel_rfl) (by kernel_rfl) (by kernel_rfl) (fun _ _ _ h => h) hC (Or.inl ⟨by rfl, fun w' hSw => ?_⟩) hS ?_
          · go_simp
          clear hC
          intro hC
          try simp only [Act.put, List.setIfInBounds_toArray, List.set_cons_zero, List.set_cons_succ, List.getElem_toArray, List.getElem_cons_zero, List.getElem_cons_succ]
          refine wpAnyG_takeB (i := 13) (v := undef) rfl (by kernel_rfl) (by kernel_rfl) (by kernel_rfl) (by kernel_rfl) (fun _ _ _ h => h) hC (Or.inr ⟨by rfl, rfl⟩) hS ?_
          clear hC
          intro hC
          try simp only [Act.put, List.setIfInBounds_toArray, List.set_cons_zero, List.set_cons_succ, List.getElem_toArray, List.getElem_cons_zero, List.getElem_cons_succ]
          refine wpAnyG_takeB (i := 14) (v := undef) rfl (by kernel_rfl) (by kernel_rfl) (by kernel_rfl) (by kernel_rfl) (fun _ _ _ h => h) hC (Or.inr ⟨by rfl, rfl⟩) hS ?_
          clear hC
          intro hC
          try simp only [Act.put, List.setIfInBounds_toArray, List.set_cons_zero, List.set_cons_succ, List.getElem_toArray, List.getElem_cons_zero, List.getElem_cons_succ]
          refine wpAnyG_takeB (i := 15) (v := undef) rfl (by kernel_rfl) (by kernel_rfl) (by kernel_rfl) (by kernel_rfl) (fun _ _ _ h => h) hC (Or.inr ⟨by rfl, rfl⟩) hS ?_
          clear hC
          intro hC
          try simp only [Act.put, List.setIfInBounds_toArray, List.set_cons_zero, List.set_cons_succ, List.getElem_toArray, List.getElem_cons_zero, List.getElem_cons_succ]
          refine wpAnyG_takeB (i := 16) (v := undef) rfl (by kernel_rfl) (by kernel_rfl) (by kernel_rfl) (by kernel_rfl) (fun _ _ _ h => h) hC (Or.inr ⟨by rfl, rfl⟩) hS ?_
          clear hC
          intro hC
          try simp only [Act.put, List.setIfInBounds_toArray, List.set_cons_zero, List.set_cons_succ, List.getElem_toArray, List.getElem_cons_zero, List.getElem_cons_succ]
          refine wpAnyG_takeB (i := 17) (v := undef) rfl (by kernel_rfl) (by kernel_rfl) (by kernel_rfl) (by kernel_rfl) (fun _ _ _ h => h) hC (Or.inr ⟨by rfl, rfl⟩) hS ?_
          clear hC
          intro hC
          try simp only [Act.put, List.setIfInBounds_toArray, List.set_cons_zero, List.set_cons_succ, List.getElem_toArray, List.getElem_cons_zero, List.getElem_cons_succ]
          refine wpAnyG_takeB (i := 18) (v := undef) rfl (by kernel_rfl) (by kernel_rfl) (by kernel_rfl) (by kernel_rfl) (fun _ _ _ h => h) hC (Or.inr ⟨by rfl, rfl⟩) hS ?_
          clear hC
          intro hC
          try simp only [Act.put, List.setIfInBounds_toArray, List.set_cons_zero, List.set_cons_succ, List.getElem_toArray, List.getElem_cons_zero, List.getElem_cons_succ]
          refine wpAnyG_takeB (i := 19) (v := undef) rfl (by kernel_rfl) (by kernel_rfl) (by kernel_rfl) (by kernel_rfl) (fun _ _ _ h => h) hC (Or.inr ⟨by rfl, rfl⟩) hS ?_
          clear hC
          intro hC
          try simp only [Act.put, List.setIfInBounds_toArray, List.set_cons_zero, List.set_cons_succ, List.getElem_toArray, List.getElem_cons_zero, List.getElem_cons_succ]
          refine wpAnyG_takeB (i := 20) (v := undef) rfl (by kernel_rfl) (by kernel_rfl) (by kernel_rfl) (by kernel_rfl) (fun _ _ _ h => h) hC (Or.inr ⟨by rfl, rfl⟩) hS ?_
          clear hC
          intro hC
          try simp only [Act.put, List.setIfInBounds_toArray, List.set_cons_zero, List.set_cons_succ, List.getElem_toArray, List.getElem_cons_zero, List.getElem_cons_succ]
          refine wpAnyG_takeB (i := 21) (v := .bool false) rfl (by kernel_rfl) (by kernel_rfl) (by kernel_rfl) (by kernel_rfl) (fun _ _ _ h => h) hC (Or.inl ⟨by rfl, fun w' hSw => ?_⟩) hS ?_
          · go_simp
          clear hC
          intro hC
          try simp only [Act.put, List.setIfInBounds_toArray, List.set_cons_zero, List.set_cons_succ, List.getElem_toArray, List.getElem_cons_zero, List.getElem_cons_succ]
          refine wpAnyG_done (by kernel_rfl) ?_ _
          refine NoPanic.normal ?_
          have HST := Lib.hid (HR.out.step hS HNP.out)
          clear hS c1
          go_wp2_with fail
          go_roundw
          case rel => exact ⟨i + 1, by go_num, by omega, HST.out⟩
          case measure => simp [intOf]; omega
      · have hb1 : (x == 128) = false := by simp [h128]
        have HNP : Hid (¬ IsPad xs i) := fun h => h128 (HX.out.symm.trans h.mark)
        have HST := Lib.hid (fun N => HR.out.step (Fr.of_below (below_drewN (Below.refl _ _) N)) HNP.out)
        go_wp2_with fail
        go_quiet (fail)
        go_wp2_with fail
        go_roundw
        case rel => exact ⟨i + 1, by go_num, by omega, HST.out _⟩
        case measure => simp [intOf]; omega
    · obtain rfl : i = n := by omega
      have HN : Hid (∀ k, ¬ IsPad xs k) := fun k hk => HR.out.not k (by have := hk.lt; rw [HL.out] at this; exact this) hk
      have HBE := Lib.hid HR.out.bel
      go_wp2
      go_ret2
      exact ⟨.inr ⟨HN.out, rfl⟩, HBE.out⟩
end Go.Proofs.YtfipbmibcbalhaaDoor
