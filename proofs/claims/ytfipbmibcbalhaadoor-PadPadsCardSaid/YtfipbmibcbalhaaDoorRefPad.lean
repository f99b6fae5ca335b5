/- The contract of the reference's Pad. -/
import Derived.Test.YtfipbmibcbalhaaDoorUnpad
namespace Go.Proofs.YtfipbmibcbalhaaDoor
open Go.RowKit
set_option linter.unusedVariables false
set_option linter.unusedSimpArgs false

theorem padN_one (xs : List Int) : padN xs (xs.length + 1) = xs ++ [128] := by simp [padN]
theorem padN_succ (xs : List Int) (j : Nat) (h : xs.length < j) : padN xs j ++ [0] = padN xs (j + 1) := by
  simp only [padN, List.append_assoc, List.cons_append]
  congr 2
  rw [show j + 1 - xs.length - 1 = (j - xs.length - 1) + 1 by omega, List.replicate_succ']
/-- What the reference's Pad leaves. -/
def RefPadPost (w : World) (m : Nat) (ys : List Int) (e : Ending) (w' : World) : Prop := ∃ q c, e = .returned (.slice q m c) ∧ Own w' w.heap.size q m c ys ∧ Below w.heap.size w w'

structure PadR (w : World) (q : Option Addr) (j cq : Nat) (xs : List Int) (wr : World) : Prop where
  own : Own wr w.heap.size q j cq (padN xs j)
  bel : Below w.heap.size w wr
theorem Src.one (w : World) (v : Int) (hv : 0 ≤ v ∧ v ≤ 255) : Src (w.alloc (.cells #[.int .u8 v] 5)) (some ⟨w.heap.size, 0, none⟩) 1 [v] := by
  refine ⟨rfl, by simpa using hv, fun _ => ⟨_, _, rfl, fun i hi => ?_⟩⟩
  obtain rfl : i = 0 := by omega
  rw [World.cell?_alloc_at _ _ _ _ rfl]
  rfl
theorem Own.grownBelow {w w1 w2 : World} {q : Option Addr} {j cq : Nat} {xs : List Int} (h : Own w1 w.heap.size q j cq xs) (hb : Below w.heap.size w w1) {o : Obj} (hg : (w1.alloc o).grownBy w2 (blk q)) : Below w.heap.size w w2 := by
  have F : Fr w1 w2 (fun k => some k = blk q) := ((Fr.alloc w1 o).trans (Fr.of_grown hg)).mono (by simp)
  exact hb.trans (F.below hb.size (fun k hk e => by have := (h.lt k e.symm).1; omega))

set_option maxRecDepth 100000 in
set_option maxHeartbeats 1600000 in
theorem refPad_ok (p : Option Addr) (n c m : Nat) (xs : List Int) (w : World) (h : Src w p n xs) (hp : p = none → c = 0) (hm : rbk n = (m : Int)) (hnm : n < m) (hm2 : m ≤ 2048) :
    Calls Tryd.prog 10 #[.slice p n c] w (RefPadPost w m (padN xs m)) := by
  have H := Lib.hid h
  have HL := Lib.hid h.len
  have HM := Lib.hid hm
  clear h hm
  go_enter Tryd.func10, Tryd.ntmps10
  go_wp2_with (at_builtin; refine wpList_append_bytes rfl (.tmp 4) (.tmp 5) 22 rfl w.heap.size Tryd.underlying22 Tryd.info5 none 0 0 [] rfl (Own.nil _ _) p n c xs rfl H.out hp (by omega) (Nat.le_refl _) ?_)
  intro p1 cap1 w1 hown hg _ _
  try simp only [Nat.zero_add, List.nil_append] at hown
  try rw [Nat.zero_add]
  have hb1 : Below w.heap.size w w1 := (Fr.of_grown hg).below (Nat.le_refl _) (fun k hk e => by simp [blk] at e)
  have HO1 := Lib.hid hown
  have HB1 := Lib.hid hb1
  clear hown hg hb1
  go_wp2_with (at_builtin; refine wpList_append_bytes rfl (.tmp 7) (.tmp 8) 22 rfl w.heap.size Tryd.underlying22 Tryd.info5 p1 n cap1 xs rfl (HO1.out.fr (Fr.alloc _ _) (fun _ _ h => h)) (some ⟨w1.heap.size, 0, none⟩) 1 1 [128] rfl (Src.one w1 128 (by omega)) (fun h => by cases h) (by omega) (Nat.le_trans HB1.out.size (by simp)) ?_)
  intro p2 cap2 w2 hown hg _ _
  have R2 : PadR w p2 (n + 1) cap2 xs w2 := ⟨by rw [← HL.out, padN_one, HL.out]; exact hown, HO1.out.grownBelow HB1.out hg⟩
  have HR2 := Lib.hid R2
  clear hown hg R2
  go_wp2_with fail
  go_loopw [3] (fun v wr => ∃ (j : Nat) (q : Option Addr) (cq : Nat), v = .slice q j cq ∧ n < j ∧ j ≤ m ∧ PadR w q j cq xs wr) (fun v _ => m - (match v with | .slice _ k _ => k | _ => 0))
  case atStart => exact ⟨n + 1, p2, cap2, rfl, by omega, by omega, HR2.out⟩
  case round =>
    obtain ⟨j, q, cq, rfl, hj1, hj2, hR⟩ := hrel
    have HR := Lib.hid hR
    clear hR
    have K9 := Lib.hid (refBucket_any (n : Int) wr)
    rw [HM.out] at K9
    by_cases hlt : (j : Int) < m
    · go_wp2_with fail
      refine K9.out.mono ?_
      rintro e w4 ⟨rfl, hb4⟩
      have R4 : PadR w q j cq xs w4 := ⟨HR.out.own.fr (Fr.of_below hb4) (fun _ _ h => h), HR.out.bel.trans (hb4.mono HR.out.bel.size)⟩
      have HR4 := Lib.hid R4
      clear hb4 R4
      go_wp2_with (at_builtin; refine wpList_append_bytes rfl (.tmp 16) (.tmp 17) 22 rfl w.heap.size Tryd.underlying22 Tryd.info5 q j cq (padN xs j) rfl (HR4.out.own.fr (Fr.alloc _ _) (fun _ _ h => h)) (some ⟨w4.heap.size, 0, none⟩) 1 1 [0] rfl (Src.one w4 0 (by omega)) (fun h => by cases h) (by omega) (Nat.le_trans HR4.out.bel.size (by simp)) ?_)
      intro p5 cap5 w5 hown hg _ _
      have R5 : PadR w p5 (j + 1) cap5 xs w5 := ⟨by rw [← padN_succ xs j (by rw [HL.out]; omega)]; exact hown, HR4.out.own.grownBelow HR4.out.bel hg⟩
      have HR5 := Lib.hid R5
      clear hown hg R5
      go_wp2
      go_roundw
      case rel => exact ⟨j + 1, p5, cap5, rfl, by omega, by omega, HR5.out⟩
      case measure => simp; omega
    · obtain rfl : j = m := by omega
      go_wp2_with fail
      refine K9.out.mono ?_
      rintro e w4 ⟨rfl, hb4⟩
      have R4 : PadR w q j cq xs w4 := ⟨HR.out.own.fr (Fr.of_below hb4) (fun _ _ h => h), HR.out.bel.trans (hb4.mono HR.out.bel.size)⟩
      have HR4 := Lib.hid R4
      clear hb4 R4
      go_wp2
      go_ret
      exact ⟨q, cq, rfl, HR4.out.own, HR4.out.bel⟩
end Go.Proofs.YtfipbmibcbalhaaDoor
