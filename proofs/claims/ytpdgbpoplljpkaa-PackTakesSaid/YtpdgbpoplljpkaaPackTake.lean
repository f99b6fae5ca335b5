/- The contracts of In.Text, In.Flag and the law's take. -/
import Derived.Test.YtpdgbpoplljpkaaPackDec
import Derived.Test.YtpdgbpoplljpkaaPackPart
namespace Go.Proofs.Ytpdgbpoplljpkaa
open Go.RowKit
set_option linter.unusedVariables false
set_option linter.unusedSimpArgs false

set_option maxHeartbeats 400000 in
theorem inFlag_bad (B : Nat) (p : Option Addr) (n cap : Nat) (xs : List Int) (bad : Bool) (w : World) (h : InAt w B p n cap xs bad) (hk : bad = true ∨ (n : Int) = 0 ∨ 0 < n ∧ 1 < xs.getD 0 0) :
    Calls Try.prog 31 #[.pointer (some ⟨B, 0, none⟩)] w fun e w' => e = .returned (.bool false) ∧ InAt w' B p n cap xs true ∧ Fr w w' (fun k => k = B) := by
  have c0 : w.cell? ⟨B, 0, none⟩ = some (.slice p n cap) := by rw [cell_of_row w B _ _ _ _ h.cells]; rfl
  have c1 : w.cell? ⟨B, 1, none⟩ = some (.bool bad) := by rw [cell_of_row w B _ _ _ _ h.cells]; rfl
  rcases (show bad = true ∨ (bad = false ∧ (n : Int) = 0) ∨ (bad = false ∧ (0 : Int) < n ∧ 1 < xs.getD 0 0) by cases bad <;> simp at hk ⊢; omega) with rfl | ⟨rfl, h2⟩ | ⟨rfl, h2, h3⟩
  · have H := Lib.hid h
    clear hk h
    go_enter Try.func31, Try.ntmps31
    go_wp2_with (first | (go_at_call 24; refine (fail_any B p n cap xs _ w H.out).mono ?_; rintro e w1 ⟨rfl, h4, h5⟩))
    go_ret
    exact ⟨rfl, h4, h5⟩
  · have H := Lib.hid h
    clear hk h
    go_enter Try.func31, Try.ntmps31
    go_wp2_with (first | (go_at_call 24; refine (fail_any B p n cap xs _ w H.out).mono ?_; rintro e w1 ⟨rfl, h4, h5⟩))
    go_ret
    exact ⟨rfl, h4, h5⟩
  · obtain ⟨b, o, rfl, hc⟩ := h.src.mem (by omega)
    have d0 : w.cell? ⟨b, o, none⟩ = some (.int .u8 (xs.getD 0 0)) := hc 0 (by omega)
    have hn0 : ¬ (n : Int) = 0 := by omega
    obtain ⟨v, hv⟩ : ∃ v, xs.getD 0 0 = v := ⟨_, rfl⟩
    rw [hv] at d0 h3
    have H := Lib.hid h
    clear hk h hv hc
    go_enter Try.func31, Try.ntmps31
    go_wp2_with (first | (go_at_call 24; refine (fail_any B _ n cap xs _ w H.out).mono ?_; rintro e w1 ⟨rfl, h4, h5⟩))
    go_ret
    exact ⟨rfl, h4, h5⟩

set_option maxHeartbeats 400000 in
theorem inFlag_ok (B : Nat) (p : Option Addr) (n cap : Nat) (xs : List Int) (w : World) (h : InAt w B p n cap xs false) (h2 : (0 : Int) < n) (h3 : xs.getD 0 0 ≤ 1) :
    Calls Try.prog 31 #[.pointer (some ⟨B, 0, none⟩)] w (InPost w B (.bool (xs.getD 0 0 == 1)) n cap 1 xs) := by
  have c0 : w.cell? ⟨B, 0, none⟩ = some (.slice p n cap) := by rw [cell_of_row w B _ _ _ _ h.cells]; rfl
  have c1 : w.cell? ⟨B, 1, none⟩ = some (.bool false) := by rw [cell_of_row w B _ _ _ _ h.cells]; rfl
  have f0 : w.frozen? ⟨B, 0, none⟩ = false := frozen_of_row w B 0 _ _ h.cells
  have hle := h.le
  have hbig := h.big
  obtain ⟨q, sf, hq1, hq2, hq3⟩ := slice_from 22 Try.underlying22 Try.sizeOf5 h.src 1 (by omega) hle
  obtain ⟨b, o, rfl, hc⟩ := h.src.mem (by omega)
  have d0 : w.cell? ⟨b, o, none⟩ = some (.int .u8 (xs.getD 0 0)) := hc 0 (by omega)
  have hn0 : ¬ (n : Int) = 0 := by omega
  obtain ⟨v, hv⟩ : ∃ v, xs.getD 0 0 = v := ⟨_, rfl⟩
  rw [hv] at d0 h3 ⊢
  have hm0 : ((n : Int) == 0) = false := by simpa using hn0
  have hmb : decide (1 < v) = false := by simpa using h3
  have HQ1 := Lib.hid hq1
  have HQ2 := Lib.hid hq2
  have HQ3 := Lib.hid hq3
  have H := Lib.hid h
  clear h hq1 hq2 hq3 hv hc
  go_enter Try.func31, Try.ntmps31
  go_wp2
  all_goals
    first | go_ret | go_ret2 | refine bodyPost_ret (results_tmp rfl _ _ _) rfl ?_
  · have hcap : cap = 1 := by first | assumption | rfl | omega
    refine ⟨some ⟨b, o, none⟩, rfl, ⟨?_, ?_, by omega, (fun e => by cases e), by omega⟩, Fr.setCell w ⟨B, 0, none⟩ _⟩
    · rw [heap_setCell_same w B 0 _ _ _ H.out.cells, hcap]; rfl
    · have hn1 : n = 1 := by omega
      have := H.out.src.len
      have e : xs.drop 1 = [] := List.drop_eq_nil_of_le (by omega)
      rw [e, hn1]; exact Src.nil _ _
  · refine ⟨some ⟨b, o + 1, none⟩, rfl, ⟨?_, ?_, by omega, (fun e => by cases e), by omega⟩, Fr.setCell w ⟨B, 0, none⟩ _⟩
    · rw [heap_setCell_same w B 0 _ _ _ H.out.cells]; rfl
    have hs := H.out.src
    have hl := hs.len
    obtain ⟨b', o', e, hc⟩ := hs.mem (by omega)
    obtain ⟨rfl, rfl⟩ : b = b' ∧ o = o' := by simpa using e
    refine Src.fr (⟨by simp; omega, fun x hx => hs.rng x (List.mem_of_mem_drop hx), fun hn => ⟨b, o + 1, rfl, fun i hi => ?_⟩⟩ : Src w _ _ _) (Fr.setCell w ⟨B, 0, none⟩ _) ?_
    · have := hc (i + 1) (by omega)
      rw [show o + 1 + i = o + (i + 1) by omega, this]
      simp [List.getD, Nat.add_comm]
    · intro hpos a ha
      cases ha
      exact H.out.ne (by omega) ⟨b, o, none⟩ rfl
set_option maxHeartbeats 400000 in
theorem inText_bad (B : Nat) (p : Option Addr) (n cap : Nat) (xs : List Int) (bad : Bool) (most : Int) (w : World) (h : InAt w B p n cap xs bad) (hmo : most ≤ 9223372036854775807) (hk : bad = true ∨ (dec xs).2 = 0 ∨ most < 0 ∨ most < (dec xs).1 ∨ 4096 < (dec xs).1 ∨ n < (dec xs).2 + (dec xs).1) :
    Calls Try.prog 30 #[.pointer (some ⟨B, 0, none⟩), .int .i64 most] w fun e w' => e = .returned (.slice none 0 0) ∧ InAt w' B p n cap xs true ∧ Fr w w' (fun k => k = B) := by
  have c0 : w.cell? ⟨B, 0, none⟩ = some (.slice p n cap) := by rw [cell_of_row w B _ _ _ _ h.cells]; rfl
  have c1 : w.cell? ⟨B, 1, none⟩ = some (.bool bad) := by rw [cell_of_row w B _ _ _ _ h.cells]; rfl
  have hdl := dec_le xs
  have hx64 := dec_lt xs h.src.rng
  rw [h.src.len] at hdl
  have hbig := h.big
  obtain ⟨d, hd⟩ : ∃ d, dec xs = d := ⟨_, rfl⟩
  obtain ⟨x, m⟩ := d
  have HN := Lib.hid (number_any B p n cap xs bad w h)
  rw [hd] at hk HN hdl hx64
  have H := Lib.hid h
  clear h hd
  simp only at hk HN hdl hx64
  rcases (show bad = true ∨ (bad = false ∧ (m : Int) = 0) ∨ (bad = false ∧ ¬ (m : Int) = 0 ∧ most < 0) ∨ (bad = false ∧ ¬ (m : Int) = 0 ∧ 0 ≤ most ∧ min (min most 4096) ((n : Int) - m) < x) by cases bad <;> simp at hk ⊢; omega) with rfl | ⟨rfl, h2⟩ | ⟨rfl, h2, h3⟩ | ⟨rfl, h2, h3, h4⟩
  · clear hk
    go_enter Try.func30, Try.ntmps30
    go_wp2_with (first | (go_at_call 29; refine HN.out.mono ?_; rintro e w1 ⟨rfl, rfl⟩) | (go_at_call 24; refine (fail_any B p n cap xs _ w H.out).mono ?_; rintro e w1 ⟨rfl, h4, h5⟩))
    go_ret
    exact ⟨rfl, h4, h5⟩
  · clear hk
    go_enter Try.func30, Try.ntmps30
    go_wp2_with (first | (go_at_call 29; refine HN.out.mono ?_; rintro e w1 ⟨rfl, rfl⟩) | (go_at_call 24; refine (fail_any B p n cap xs _ w H.out).mono ?_; rintro e w1 ⟨rfl, h4, h5⟩))
    go_ret
    exact ⟨rfl, h4, h5⟩
  · clear hk
    go_enter Try.func30, Try.ntmps30
    go_wp2_with (first | (go_at_call 29; refine HN.out.mono ?_; rintro e w1 ⟨rfl, rfl⟩) | (go_at_call 24; refine (fail_any B p n cap xs _ w H.out).mono ?_; rintro e w1 ⟨rfl, h4, h5⟩))
    go_ret
    exact ⟨rfl, h4, h5⟩
  · clear hk
    obtain ⟨m1, hm1⟩ : ∃ m1, (if 4096 < most then 4096 else most) = m1 := ⟨_, rfl⟩
    obtain ⟨m2, hm2⟩ : ∃ m2, (if (n : Int) - m < m1 then (n : Int) - m else m1) = m2 := ⟨_, rfl⟩
    have h5 : m2 < x ∧ 0 ≤ m2 ∧ m2 ≤ 4096 := by subst hm2; subst hm1; split <;> split <;> omega
    obtain ⟨h6, h7, h8⟩ := h5
    have hw : IntKind.u64.wrap m2 = m2 := IntWalk.u64_in _ (by omega)
    go_enter Try.func30, Try.ntmps30
    go_wp2_with (first | (go_at_call 29; refine HN.out.mono ?_; rintro e w1 ⟨rfl, rfl⟩) | (go_at_call 24; refine (fail_any B p n cap xs _ w H.out).mono ?_; rintro e w1 ⟨rfl, h4, h5⟩))
    go_ret
    exact ⟨rfl, h4, h5⟩

/-- What a taking call of bytes leaves. -/
def RawPost (w : World) (B : Nat) (ts : List Int) (n cap k : Nat) (xs : List Int) (e : Ending) (w' : World) : Prop :=
  ∃ p' cap' q, e = .returned (.slice p' ts.length cap') ∧ Own w' w.heap.size p' ts.length cap' ts ∧ InAt w' B q (n - k) (cap - k) (xs.drop k) false ∧ Fr w w' (fun k => k = B)

set_option maxHeartbeats 400000 in
theorem inText_ok (B : Nat) (p : Option Addr) (n cap : Nat) (xs : List Int) (most : Int) (w : World) (h : InAt w B p n cap xs false) (hmo : most ≤ 9223372036854775807) (h0 : (dec xs).2 ≠ 0) (hm0 : 0 ≤ most) (hm1 : (dec xs).1 ≤ most) (hm2 : (dec xs).1 ≤ 4096) (hm3 : (dec xs).2 + (dec xs).1 ≤ n) :
    Calls Try.prog 30 #[.pointer (some ⟨B, 0, none⟩), .int .i64 most] w (RawPost w B ((xs.drop (dec xs).2).take (dec xs).1) n cap ((dec xs).2 + (dec xs).1) xs) := by
  have c0 : w.cell? ⟨B, 0, none⟩ = some (.slice p n cap) := by rw [cell_of_row w B _ _ _ _ h.cells]; rfl
  have c1 : w.cell? ⟨B, 1, none⟩ = some (.bool false) := by rw [cell_of_row w B _ _ _ _ h.cells]; rfl
  have f0 : w.frozen? ⟨B, 0, none⟩ = false := frozen_of_row w B 0 _ _ h.cells
  have hle := h.le
  have hbig := h.big
  have hdl := dec_le xs
  rw [h.src.len] at hdl
  obtain ⟨q, sf, hq1, hq2, hq3⟩ := slice_from 22 Try.underlying22 Try.sizeOf5 h.src (dec xs).2 hdl hle
  have HN := Lib.hid (number_any B p n cap xs false w h)
  obtain ⟨d, hd⟩ : ∃ d, dec xs = d := ⟨_, rfl⟩
  rw [hd] at hq1 HN h0 hm1 hm2 hm3 sf hdl ⊢
  obtain ⟨x, m⟩ := d
  simp only at hq1 HN h0 hm1 hm2 hm3 sf hdl ⊢
  have h0' : ¬ (m : Int) = 0 := by omega
  have hz0 : ((m : Int) == 0) = false := by simpa using h0'
  obtain ⟨m1, hn1⟩ : ∃ m1, (if 4096 < most then 4096 else most) = m1 := ⟨_, rfl⟩
  obtain ⟨m2, hn2⟩ : ∃ m2, (if (n : Int) - m < m1 then (n : Int) - m else m1) = m2 := ⟨_, rfl⟩
  have h5 : x ≤ m2 ∧ 0 ≤ m2 ∧ m2 ≤ 4096 := by subst hn2; subst hn1; split <;> split <;> omega
  obtain ⟨h6, h7, h8⟩ := h5
  have hw : IntKind.u64.wrap m2 = m2 := IntWalk.u64_in _ (by omega)
  have hw2 : IntKind.i64.wrap (x : Int) = x := IntWalk.i64_in _ (by omega)
  have hmb : decide (m2 < (x : Int)) = false := by simpa using h6
  have hmc : decide (most < 0) = false := by simpa using hm0
  have I2 : InAt (w.setCell ⟨B, 0, none⟩ (.slice q (n - m) (cap - m))) B q (n - m) (cap - m) (xs.drop m) false := by
    refine ⟨?_, hq1.fr (Fr.setCell w ⟨B, 0, none⟩ _) ?_, by omega, ?_, by omega⟩
    · rw [heap_setCell_same w B 0 _ _ _ h.cells]; rfl
    · intro hpos a ha
      obtain ⟨b, hb1, hb2⟩ := hq3 a ha
      rw [hb2]
      exact h.ne (by omega) b hb1
    · intro e
      have := h.nil (hq2.1 e)
      omega
  have K := Lib.hid (inRaw_ok B q (n - m) (cap - m) (xs.drop m) x _ I2 (by omega))
  have hlen : ((xs.drop m).take x).length = x := by rw [List.length_take, List.length_drop, h.src.len]; omega
  have HL := Lib.hid hlen
  have hsz : (w.setCell ⟨B, 0, none⟩ (.slice q (n - m) (cap - m))).heap.size = w.heap.size := by simp [World.setCell]
  have HZ := Lib.hid hsz
  have H := Lib.hid h
  clear h hq1 hq2 hq3 hd h0 I2 hlen hsz
  go_enter Try.func30, Try.ntmps30
  go_wp2_with (first | (go_at_call 29; refine HN.out.mono ?_; rintro e w1 ⟨rfl, rfl⟩) | (go_at_call 10; refine K.out.mono ?_; rintro e w1 ⟨p', cap', q', rfl, h4, h5, h6⟩))
  go_ret
  refine ⟨p', cap', q', by rw [HL.out]; rfl, by rw [HL.out, ← HZ.out]; exact h4, ?_, ?_⟩
  · rw [List.drop_drop, Nat.sub_sub, Nat.sub_sub] at h5
    exact h5
  · refine ((Fr.setCell w ⟨B, 0, none⟩ _).trans h6).mono (fun k _ e => ?_)
    rcases e with e | e <;> exact e
end Go.Proofs.Ytpdgbpoplljpkaa
