/- The walk of PadUnpads. -/
import Derived.Test.YtfipbmibcbalhaaDoorRefUnpad
namespace Go.Proofs.YtfipbmibcbalhaaDoor
open Go.RowKit
set_option linter.unusedVariables false
set_option linter.unusedSimpArgs false

set_option maxRecDepth 100000 in
set_option maxHeartbeats 1600000 in
theorem unpads_walk (p : Option Addr) (n c : Nat) (zs : List Int) (w : World) (hz : IsRow .u8 w p n c zs) :
    Calls Tryd.prog 3 #[.slice p n c] w fun e w' => e = .returned (.bool true) ∧ Below w.heap.size w w' := by
  obtain ⟨S0, hnc, hcm, hp⟩ := hz.src
  obtain ⟨xs, hxs⟩ : ∃ xs, zs.take n = xs := ⟨_, rfl⟩
  rw [hxs] at S0
  clear hz hxs
  have HS := Lib.hid S0
  have HP := Lib.hid hp
  clear S0 hp
  by_cases h0 : 2100 < (n : Int)
  · go_enter Tryd.func3, Tryd.ntmps3
    go_wp2_with (first | (go_at_call 5; refine (awake_any _).mono ?_; rintro e w' ⟨rfl, rfl⟩))
    go_ret
    exact ⟨rfl, Below.refl _ _⟩
  · have K6 := Lib.hid (unpad_any p n c xs w HS.out hnc (by omega))
    go_enter Tryd.func3, Tryd.ntmps3
    go_wp2_with (first | (go_at_call 5; refine (awake_any _).mono ?_; rintro e w' ⟨rfl, rfl⟩))
    refine K6.out.mono ?_
    rintro e w1 (⟨k, q, c1, hk, rfl, ho, hb⟩ | ⟨hk, rfl, rfl⟩)
    · have HK := Lib.hid hk
      have HO := Lib.hid ho
      have HB := Lib.hid hb
      have K7 := Lib.hid (refUnpad_any p n c xs w1 (HS.out.below hb) hnc HP.out (by omega))
      clear hk ho hb
      go_wp2_with fail
      refine K7.out.mono ?_
      rintro e w2 ⟨⟨l, hl, rfl⟩ | ⟨hl, rfl⟩, hb2⟩
      · obtain rfl := HK.out.uniq hl
        have q1 := (HO.out.fr (Fr.of_below hb2) (fun _ _ h => h)).src.convert (P := Tryd.prog) c1 22 5 9 Tryd.underlying22 Tryd.underlying5 Tryd.underlying9
        have q2 := (((HS.out.below HB.out).below hb2).take k (by have := HK.out.lt; rw [HS.out.len] at this; omega)).convert (P := Tryd.prog) c 22 5 9 Tryd.underlying22 Tryd.underlying5 Tryd.underlying9
        have HB2 := Lib.hid (HB.out.trans (hb2.mono HB.out.size))
        clear hl hb2
        go_wp2_with fail
        go_ret
        exact ⟨rfl, HB2.out⟩
      · exact absurd HK.out (hl _)
    · have HK := Lib.hid hk
      have K7 := Lib.hid (refUnpad_any p n c xs w HS.out hnc HP.out (by omega))
      clear hk
      go_wp2_with fail
      refine K7.out.mono ?_
      rintro e w2 ⟨⟨l, hl, rfl⟩ | ⟨hl, rfl⟩, hb2⟩
      · exact absurd hl (HK.out _)
      · have q1 := (Src.nil w2 none).convert (P := Tryd.prog) 0 22 5 9 Tryd.underlying22 Tryd.underlying5 Tryd.underlying9
        have HB2 := Lib.hid hb2
        clear hl hb2
        go_wp2_with fail
        go_ret
        exact ⟨rfl, HB2.out⟩
end Go.Proofs.YtfipbmibcbalhaaDoor
