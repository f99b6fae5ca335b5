/- The contract of pad.Unpad. -/
import Derived.Test.YtfipbmibcbalhaaDoorTrim
namespace Go.Proofs.YtfipbmibcbalhaaDoor
open Go.RowKit
set_option linter.unusedVariables false
set_option linter.unusedSimpArgs false

/-- The bytes xs are a text of k bytes, padded. -/
structure IsPad (xs : List Int) (k : Nat) : Prop where
  lt : k < xs.length
  mark : xs.getD k 0 = 128
  zero : ∀ i, k < i → i < xs.length → xs.getD i 0 = 0
  bkt : bkt k = xs.length
theorem IsPad.trim {xs : List Int} {k : Nat} (h : IsPad xs k) : Trim xs (k + 1) :=
  ⟨h.lt, fun i h1 h2 => h.zero i (by omega) h2, fun j hj => by obtain rfl : j = k := by omega
                                                               rw [h.mark]; decide⟩
theorem IsPad.uniq {xs : List Int} {k l : Nat} (h : IsPad xs k) (h' : IsPad xs l) : k = l := by
  have := h.trim.uniq h'.trim
  omega
theorem bke_of_bkt (k : Nat) (h : bkt k ≠ 0) : bke k = 0 := by
  revert h
  simp only [bkt, bke]
  (repeat' split) <;> omega

def UnpadPost (w : World) (xs : List Int) (e : Ending) (w' : World) : Prop :=
  (∃ k q c', IsPad xs k ∧ e = .returned (.tuple #[.slice q k c', .int .i64 0]) ∧ Own w' w.heap.size q k c' (xs.take k) ∧ Below w.heap.size w w') ∨
  ((∀ k, ¬ IsPad xs k) ∧ e = .returned (.tuple #[.slice none 0 0, .int .i64 2]) ∧ w = w')

set_option maxRecDepth 100000 in
set_option maxHeartbeats 1600000 in
theorem unpad_any (p : Option Addr) (n c : Nat) (xs : List Int) (w : World) (h : Src w p n xs) (hnc : n ≤ c) (hn : n ≤ 140737488355328) :
    Calls Tryd.prog 6 #[.slice p n c] w (UnpadPost w xs) := by
  have K := Lib.hid (trim_any p n c xs w h hnc hn)
  have H := Lib.hid h
  have HL := Lib.hid h.len
  clear h
  go_enter Tryd.func6, Tryd.ntmps6
  go_wp2_with fail
  refine K.out.mono ?_
  rintro e w1 ⟨j, HT, rfl, rfl⟩
  have hjn := HT.le
  rw [HL.out] at hjn
  rcases Nat.eq_zero_or_pos j with rfl | hpos
  · have HN : Hid (∀ k, ¬ IsPad xs k) := fun k hk => by
      have := hk.trim.uniq HT; omega
    have HT' := Lib.hid HT
    clear HT
    go_wp2
    go_ret2
    exact .inr ⟨HN.out, rfl, rfl⟩
  · have HT' := Lib.hid HT
    clear HT
    obtain ⟨b, o, rfl, hc⟩ := H.out.mem (by omega)
    have c1 := hc (j - 1) (by omega)
    obtain ⟨x, hx⟩ : ∃ x, xs.getD (j - 1) 0 = x := ⟨_, rfl⟩
    rw [hx] at c1
    have hji : decide ((j : Int) - 1 < 0) = false := by simp; omega
    have hjj : (j : Int) - 1 < j := by omega
    have HX := Lib.hid hx
    clear hc hx
    by_cases h128 : x = 128
    · subst h128
      have hk : (((j - 1 : Nat)) : Int) = (j : Int) - 1 := by omega
      obtain ⟨bv, hbv⟩ : ∃ x, bkt ((j : Int) - 1) = x := ⟨_, rfl⟩
      obtain ⟨ev, hev⟩ : ∃ x, bke ((j : Int) - 1) = x := ⟨_, rfl⟩
      have K11 := Lib.hid (bucket_any ((j : Int) - 1) w)
      rw [hbv, hev] at K11
      have HBV := Lib.hid hbv
      have HEV := Lib.hid hev
      have HK := Lib.hid hk
      have hno : Hid (bv ≠ n → ∀ k, ¬ IsPad xs k) := fun hne l hl => by
        have e1 := hl.trim.uniq HT'.out
        have e2 := hl.bkt
        obtain rfl : l = j - 1 := by omega
        rw [HK.out, HBV.out, HL.out] at e2
        exact hne e2
      clear hk hbv hev
      by_cases hb : bv = n
      · have he : ev = 0 := by
          rw [← HEV.out, ← HK.out]
          exact bke_of_bkt _ (by rw [HK.out, HBV.out]; omega)
        subst hb he
        have HP : Hid (IsPad xs (j - 1)) := ⟨by rw [HL.out]; omega, HX.out, fun i h1 h2 => HT'.out.zero i (by omega) h2, by rw [HK.out, HBV.out, HL.out]⟩
        have sl := slice_to (P := Tryd.prog) 22 Tryd.underlying22 Tryd.sizeOf5 (some ⟨b, o, none⟩) j c (j - 1) (by omega)
        rw [HK.out] at sl
        have K13 := Lib.hid (clone_any (some ⟨b, o, none⟩) (j - 1) c (xs.take (j - 1)) w (H.out.take (j - 1) (by omega)) (fun h => by cases h) (by omega))
        go_wp2_with fail
        refine K11.out.mono ?_
        rintro e w1 ⟨rfl, rfl⟩
        go_wp2_with fail
        refine K13.out.mono ?_
        rintro e w1 ⟨q, c', rfl, h1, h2⟩
        have H1 := Lib.hid h1
        have H2 := Lib.hid h2
        clear h1 h2
        go_wp2_with fail
        go_ret2
        exact .inl ⟨j - 1, q, c', HP.out, rfl, H1.out, H2.out⟩
      · have hb2 : (bv == (n : Int)) = false := by simp [hb]
        have HN := Lib.hid (hno.out hb)
        by_cases he : ev = 0
        · subst he
          go_wp2_with fail
          refine K11.out.mono ?_
          rintro e w1 ⟨rfl, rfl⟩
          go_wp2_with fail
          go_ret2
          exact .inr ⟨HN.out, rfl, rfl⟩
        · have he2 : (ev == 0) = false := by simp [he]
          go_wp2_with fail
          refine K11.out.mono ?_
          rintro e w1 ⟨rfl, rfl⟩
          go_wp2_with fail
          go_ret2
          exact .inr ⟨HN.out, rfl, rfl⟩
    · have HN : Hid (∀ k, ¬ IsPad xs k) := fun l hl => by
        have := hl.trim.uniq HT'.out
        have e := hl.mark
        rw [show l = j - 1 by omega, HX.out] at e
        exact h128 e
      have hb : (x == 128) = false := by simp [h128]
      go_wp2_with fail
      go_ret2
      exact .inr ⟨HN.out, rfl, rfl⟩
end Go.Proofs.YtfipbmibcbalhaaDoor
