/- The contracts of the reference's Num and Bytes. -/
import Derived.Test.YtpdgbpoplljpkaaPackText
import Derived.Deep.LoopGhost
namespace Go.Proofs.Ytpdgbpoplljpkaa
open Go.RowKit
set_option linter.unusedVariables false
set_option linter.unusedSimpArgs false

/-- What the reference's Num has made so far. -/
structure RefR (w : World) (x y : Nat) (q : Option Addr) (n c : Nat) (wr : World) : Prop where
  ex : ∃ zs f, Own wr w.heap.size q n c zs ∧ zs.length = n ∧ zs ++ encF f y = enc x ∧ y < 128 ^ (f + 1) ∧ n + f = 9
  bel : Below w.heap.size w wr

theorem fr_own {w wr w2 : World} {q : Option Addr} {n c : Nat} {zs : List Int} {o : Obj} (ho : Own wr w.heap.size q n c zs) (hb : Below w.heap.size w wr) (hg : (wr.alloc o).grownBy w2 (blk q)) : Below w.heap.size w w2 := by
  have F : Fr wr w2 (fun k => some k = blk q) := ((Fr.alloc wr o).trans (Fr.of_grown hg)).mono (by simp)
  exact hb.trans (F.below hb.size (fun k hk e => by have := (ho.lt k e.symm).1; omega))

theorem RefR.step {w wr w2 : World} {x y : Nat} {q p' : Option Addr} {n c cap' f : Nat} {zs : List Int} {o : Obj} (ho : Own wr w.heap.size q n c zs) (hl : zs.length = n) (he : zs ++ encF f y = enc x) (hy : y < 128 ^ (f + 1)) (hf : n + f = 9) (hb : Below w.heap.size w wr)
    (h128 : 128 ≤ y) (hown : Own w2 w.heap.size p' (n + 1) cap' (zs ++ [((y % 128 + 128 : Nat) : Int)])) (hg : (wr.alloc o).grownBy w2 (blk q)) : RefR w x (y / 128) p' (n + 1) cap' w2 := by
  obtain ⟨g, rfl, e, h2⟩ := encF_step f y hy h128
  exact ⟨⟨_, g, hown, by simp [hl], by rw [List.append_assoc, List.singleton_append, ← e]; exact he, h2, by omega⟩, fr_own ho hb hg⟩

/-- Bytes of the program's own making, as one answer. -/
def MadePost (w : World) (xs : List Int) (e : Ending) (w' : World) : Prop :=
  ∃ p cap, e = .returned (.slice p xs.length cap) ∧ Own w' w.heap.size p xs.length cap xs ∧ Below w.heap.size w w'

theorem RefR.fin {w wr w2 : World} {x y : Nat} {q p' : Option Addr} {n c cap' f : Nat} {zs : List Int} {o : Obj} (ho : Own wr w.heap.size q n c zs) (hl : zs.length = n) (he : zs ++ encF f y = enc x) (hb : Below w.heap.size w wr)
    (h128 : y < 128) (hown : Own w2 w.heap.size p' (n + 1) cap' (zs ++ [(y : Int)])) (hg : (wr.alloc o).grownBy w2 (blk q)) : MadePost w (enc x) (.returned (.slice p' (n + 1) cap')) w2 := by
  rw [encF_stop f y h128] at he
  have hn : (enc x).length = n + 1 := by rw [← he]; simp [hl]
  refine ⟨p', cap', by rw [hn], by rw [hn, ← he]; exact hown, fr_own ho hb hg⟩

set_option maxHeartbeats 1600000 in
theorem refNum_any (x : Nat) (hx : x < 18446744073709551616) (w : World) : Calls Try.prog 28 #[.int .u64 x] w (MadePost w (enc x)) := by
  have H0 : RefR w x x none 0 0 w := ⟨⟨[], 9, Own.nil _ _, rfl, rfl, by omega, rfl⟩, Below.refl _ _⟩
  have hx' : (x : Int) ≤ 18446744073709551615 := by omega
  clear hx
  go_enter Try.func28, Try.ntmps28
  go_wp2_with fail
  go_loopw [0, 3] (fun v u wr => ∃ (y : Nat) (q : Option Addr) (n c : Nat), v = .int .u64 y ∧ u = .slice q n c ∧ (y : Int) ≤ 18446744073709551615 ∧ RefR w x y q n c wr) (fun v u _ => (intOf v).toNat)
  case atStart => exact ⟨x, none, 0, 0, rfl, rfl, hx', H0⟩
  case round =>
    obtain ⟨y, q, n, c, rfl, rfl, hy2, ⟨⟨zs, f, ho, hl, he, hyf, hf⟩, hb⟩⟩ := hrel
    have hs := hb.size
    by_cases hy : 128 ≤ (y : Int)
    · have hq : 0 < (y : Int) / 128 := by omega
      obtain ⟨b, hbe⟩ : ∃ b : Int, ((y % 128 + 128 : Nat) : Int) = b := ⟨_, rfl⟩
      have hb1 : (y : Int) % 128 + 128 = b := by omega
      have hb2 : b % 256 = b := by omega
      have HST := Lib.hid (fun p' cap' w2 (hown : Own w2 w.heap.size p' (n + 1) cap' (zs ++ [b])) (hg : (wr.alloc (.cells #[.int .u8 b] 5)).grownBy w2 (blk q)) => RefR.step ho hl he hyf hf hb (by omega) (by rw [hbe]; exact hown) hg)
      have HO := Lib.hid (ho.fr (Fr.alloc wr (.cells #[.int .u8 b] 5)) (fun _ _ h => h))
      have HS := Lib.hid (src_one wr b (by omega))
      clear ho hl he hyf hb hbe H0
      go_wp2_with (at_builtin; refine wpList_append_bytes rfl (.tmp 7) (.tmp 12) 22 rfl w.heap.size Try.underlying22 Try.info5 q n c zs rfl HO.out (some ⟨wr.heap.size, 0, none⟩) 1 1 [b] rfl HS.out (fun e => by cases e) (by omega) (by simp; omega) ?_)
      intro p' cap' w2 hown hg _ _
      have HP := Lib.hid (HST.out p' cap' w2 hown hg)
      clear hown hg
      go_wp2
      go_roundw
      case rel => exact ⟨y / 128, p', n + 1, cap', by go_num, rfl, by omega, HP.out⟩
      case measure => simp [intOf]; omega
    · have hq : (y : Int) / 128 = 0 := by omega
      have hb2 : (y : Int) % 256 = y := by omega
      have HST := Lib.hid (fun p' cap' w2 (hown : Own w2 w.heap.size p' (n + 1) cap' (zs ++ [(y : Int)])) (hg : (wr.alloc (.cells #[.int .u8 (y : Int)] 5)).grownBy w2 (blk q)) => RefR.fin ho hl he hb (by omega) hown hg)
      have HO := Lib.hid (ho.fr (Fr.alloc wr (.cells #[.int .u8 (y : Int)] 5)) (fun _ _ h => h))
      have HS := Lib.hid (src_one wr y (by omega))
      clear ho hl he hyf hb H0
      go_wp2_with (at_builtin; refine wpList_append_bytes rfl (.tmp 16) (.tmp 19) 22 rfl w.heap.size Try.underlying22 Try.info5 q n c zs rfl HO.out (some ⟨wr.heap.size, 0, none⟩) 1 1 [(y : Int)] rfl HS.out (fun e => by cases e) (by omega) (by simp; omega) ?_)
      intro p' cap' w2 hown hg _ _
      have HP := Lib.hid (HST.out p' cap' w2 hown hg)
      clear hown hg
      go_wp2
      go_ret
      exact HP.out
end Go.Proofs.Ytpdgbpoplljpkaa
