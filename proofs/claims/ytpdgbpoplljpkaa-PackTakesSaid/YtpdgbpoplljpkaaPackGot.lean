/- The contract of the reference's Got. -/
import Derived.Test.YtpdgbpoplljpkaaPackRefTake
namespace Go.Proofs.Ytpdgbpoplljpkaa
open Go.RowKit
set_option linter.unusedVariables false
set_option linter.unusedSimpArgs false

theorem slice_mid {P : Program} (t : TypeId) (ht : P.underlying t = some (.slice 5)) (hsz : ∀ w : World, (sizeOf 5).run P w = .ok 1 w) {w : World} {p : Option Addr} {n cap : Nat} {xs : List Int} (h : Src w p n xs) (l m : Nat) (hm : l + m ≤ n) (hnc : n ≤ cap) :
    ∃ q, (∀ w', (Instr.slice t (.slice p n cap) (some (.int .i64 (l : Int))) (some (.int .i64 ((l : Int) + (m : Int)))) none).run P w' = .ok (.slice q m (cap - l)) w') ∧ Src w q m ((xs.drop l).take m) := by
  have he : P.elem t = 5 := by simp [Program.elem, ht]
  refine ⟨if cap = l then p else p.map (·.add (l * 1)), fun w' => ?_, ⟨by simp [h.len]; omega, fun x hx => h.rng x (List.mem_of_mem_drop (List.mem_of_mem_take hx)), fun hn => ?_⟩⟩
  · rw [run_slice_lh w' t p n cap (by rw [he]; exact ht) .i64 .i64 (l : Int) ((l : Int) + (m : Int)) (by omega) (by omega) (by omega), he, hsz w']
    have e : ((l : Int) + (m : Int)).toNat - l = m := by omega
    simp [Result.andThen, sliced, e]
  · obtain ⟨b, o, rfl, hc⟩ := h.mem (by omega)
    refine ⟨b, o + l, by rw [if_neg (by omega)]; simp [Addr.add_lit], fun i hi => ?_⟩
    rw [Nat.add_assoc, hc (l + i) (by omega)]
    simp [List.getD, List.getElem?_drop, List.getElem?_take, hi]

/-- What is asked of the answer P, for the outcome o. -/
def GotAsk (w : World) (o : Option (Nat × List Int × Nat)) (P : Ending → World → Prop) : Prop :=
  match o with
  | none => ∀ w1, Below w.heap.size w w1 → P (.returned (.tuple #[.int .u64 0, .slice none 0 0, .int .i64 (-1)])) w1
  | some (y, ts, j) => ∀ w1 pu m cu, Below w.heap.size w w1 → Src w1 pu m ts → P (.returned (.tuple #[.int .u64 (y : Int), .slice pu m cu, .int .i64 (j : Int)])) w1

section
variable (p : Option Addr) (n c : Nat) (xs : List Int) (kk : Int) (x : Nat) (q : Option Addr) (m cc : Nat) (w : World) (hk : 0 ≤ kk ∧ kk ≤ 255) (hx : x < 18446744073709551616) (h : Src w p n xs) (hnc : n ≤ c) (hn : n ≤ 140737488355328) (P : Ending → World → Prop)
include hk hx h hnc hn

omit hx hn in
set_option maxHeartbeats 800000 in
theorem got22_0 (h4 : kk % 4 = 0) (HP : GotAsk w (got xs kk x) P) : Calls Try.prog 22 #[.slice p n c, .agg #[.int .u8 kk, .int .u64 x, .slice q m cc]] w P := by
  rw [got_0 h4] at HP
  have F : Below w.heap.size w (w.alloc (.cells #[.int .u8 kk, .int .u64 x, .slice q m cc] 42)) := below_alloc w _
  have K := refTake_any p n c xs (w.alloc (.cells #[.int .u8 kk, .int .u64 x, .slice q m cc] 42)) (h.below F) hnc
  have b1 : (w.alloc (.cells #[.int .u8 kk, .int .u64 x, .slice q m cc] 42)).cell? ⟨w.heap.size, 1, none⟩ = some (.int .u64 x) := by
    rw [cell_of_row _ _ _ _ _ _ (heap_alloc_new w _)]; rfl
  obtain ⟨d, hd⟩ : ∃ d, dec xs = d := ⟨_, rfl⟩
  obtain ⟨d1, d2⟩ := d
  rw [hd] at K HP
  simp only at K HP
  have HK := Lib.hid K
  have HF := Lib.hid F
  have HB1 := Lib.hid b1
  clear K F h hd b1
  by_cases hb : d2 = 0 ∨ x < d1
  · rw [if_pos hb] at HP
    have HH := Lib.hid HP
    clear HP
    rcases (by omega : (d2 : Int) = 0 ∨ (¬ (d2 : Int) = 0 ∧ (x : Int) < d1)) with h2 | ⟨h2, h3⟩
    · clear hb
      go_enter Try.func22, Try.ntmps22
      go_wp2_with fail
      refine HK.out.mono ?_
      rintro e w1 ⟨rfl, hb1⟩
      have hQ := HH.out w1 (HF.out.trans (hb1.mono HF.out.size))
      have HQ := Lib.hid hQ
      clear hQ hb1
      go_wp2
      go_ret3
      exact HQ.out
    · clear hb
      go_enter Try.func22, Try.ntmps22
      go_wp2_with fail
      refine HK.out.mono ?_
      rintro e w1 ⟨rfl, hb1⟩
      have hQ := HH.out w1 (HF.out.trans (hb1.mono HF.out.size))
      have e1 : w1.cell? ⟨w.heap.size, 1, none⟩ = some (.int .u64 x) := (hb1.cell (p := ⟨w.heap.size, 1, none⟩) (by show w.heap.size < (w.alloc _).heap.size; simp)).trans HB1.out
      have HQ := Lib.hid hQ
      clear hQ hb1
      go_wp2
      go_ret3
      exact HQ.out
  · rw [if_neg hb] at HP
    have HH := Lib.hid HP
    clear HP
    have hz : ((d2 : Int) == 0) = false := by simp; omega
    have hz2 : decide ((x : Int) < d1) = false := by simp; omega
    have hz2' : decide (x < d1) = false := by simp; omega
    clear hb
    go_enter Try.func22, Try.ntmps22
    go_wp2_with fail
    refine HK.out.mono ?_
    rintro e w1 ⟨rfl, hb1⟩
    have hQ := HH.out w1 none 0 0 (HF.out.trans (hb1.mono HF.out.size)) (Src.nil _ _)
    have e1 : w1.cell? ⟨w.heap.size, 1, none⟩ = some (.int .u64 x) := (hb1.cell (p := ⟨w.heap.size, 1, none⟩) (by show w.heap.size < (w.alloc _).heap.size; simp)).trans HB1.out
    have HQ := Lib.hid hQ
    clear hQ hb1
    go_wp2
    go_ret3
    exact HQ.out

set_option maxHeartbeats 800000 in
theorem got22_1 (h4 : kk % 4 = 1) (HP : GotAsk w (got xs kk x) P) : Calls Try.prog 22 #[.slice p n c, .agg #[.int .u8 kk, .int .u64 x, .slice q m cc]] w P := by
  rw [got_1 h4] at HP
  have F : Below w.heap.size w (w.alloc (.cells #[.int .u8 kk, .int .u64 x, .slice q m cc] 42)) := below_alloc w _
  have K := refTake_any p n c xs (w.alloc (.cells #[.int .u8 kk, .int .u64 x, .slice q m cc] 42)) (h.below F) hnc
  have b1 : (w.alloc (.cells #[.int .u8 kk, .int .u64 x, .slice q m cc] 42)).cell? ⟨w.heap.size, 1, none⟩ = some (.int .u64 x) := by
    rw [cell_of_row _ _ _ _ _ _ (heap_alloc_new w _)]; rfl
  have hdl := dec_le xs
  have hx1 := dec_lt xs h.rng
  have hl := h.len
  rw [hl] at hdl
  obtain ⟨d, hd⟩ : ∃ d, dec xs = d := ⟨_, rfl⟩
  obtain ⟨d1, d2⟩ := d
  rw [hd] at K HP hdl hx1
  rw [hl] at HP
  simp only at K HP hdl hx1
  obtain ⟨ix, hix⟩ : ∃ ix, IntKind.i64.wrap (x : Int) = ix := ⟨_, rfl⟩
  have hix2 : ((x : Int) ≤ 9223372036854775807 ∧ ix = x) ∨ (9223372036854775807 < (x : Int) ∧ ix < 0) := by
    by_cases h : (x : Int) ≤ 9223372036854775807
    · exact .inl ⟨h, by rw [← hix]; exact IntWalk.i64_in _ (by omega)⟩
    · refine .inr ⟨by omega, ?_⟩
      rw [← hix]
      simp [IntKind.wrap, IntKind.bits, IntKind.signed]
      omega
  have HK := Lib.hid K
  have HF := Lib.hid F
  have HB1 := Lib.hid b1
  have HS := Lib.hid h
  have hwl : IntKind.u64.wrap ((n : Int) - d2) = (n : Int) - d2 := IntWalk.u64_in _ (by omega)
  have hwi : IntKind.i64.wrap ((n : Int) - d2) = (n : Int) - d2 := IntWalk.i64_in _ (by omega)
  clear K F h hd b1
  by_cases hb : d2 = 0 ∨ 9223372036854775807 < x ∨ x < d1 ∨ 4096 < d1 ∨ n < d2 + d1
  · rw [if_pos hb] at HP
    have HH := Lib.hid HP
    clear HP
    have hb2 : (d2 : Int) = 0 ∨ (((d2 : Int) == 0) = false ∧ decide (ix < 0) = true) ∨ (((d2 : Int) == 0) = false ∧ decide (ix < 0) = false ∧ decide (x < d1) = true) ∨ (((d2 : Int) == 0) = false ∧ decide (ix < 0) = false ∧ decide (x < d1) = false ∧ decide (4096 < (d1 : Int)) = true) ∨ (((d2 : Int) == 0) = false ∧ decide (ix < 0) = false ∧ decide (x < d1) = false ∧ decide (4096 < (d1 : Int)) = false ∧ decide ((n : Int) - d2 < d1) = true) := by
      simp only [decide_eq_true_eq, decide_eq_false_iff_not, beq_eq_false_iff_ne, ne_eq]
      omega
    clear hb
    rcases hb2 with h2 | ⟨h2, h3⟩ | ⟨h2, h3, h5⟩ | ⟨h2, h3, h5, h6⟩ | ⟨h2, h3, h5, h6, h7⟩
    all_goals
      go_enter Try.func22, Try.ntmps22
      go_wp2_with fail
      refine HK.out.mono ?_
      rintro e w1 ⟨rfl, hb1⟩
      have hQ := HH.out w1 (HF.out.trans (hb1.mono HF.out.size))
      have e1 : w1.cell? ⟨w.heap.size, 1, none⟩ = some (.int .u64 x) := (hb1.cell (p := ⟨w.heap.size, 1, none⟩) (by show w.heap.size < (w.alloc _).heap.size; simp)).trans HB1.out
      have HQ := Lib.hid hQ
      clear hQ hb1
      go_wp2
      go_ret3
      exact HQ.out
  · rw [if_neg hb] at HP
    have HH := Lib.hid HP
    clear HP
    have hz : ((d2 : Int) == 0) = false := by simp; omega
    have hz1 : decide (ix < 0) = false := by simp; omega
    have hz2 : decide ((x : Int) < d1) = false := by simp; omega
    have hz2' : decide (x < d1) = false := by simp; omega
    have hz3 : decide (4096 < (d1 : Int)) = false := by simp; omega
    have hz3' : decide (4096 < d1) = false := by simp; omega
    have h5 : d1 ≤ x := by omega
    have hz4 : decide ((n : Int) - d2 < d1) = false := by simp; omega
    have hw1 : IntKind.i64.wrap (d1 : Int) = d1 := IntWalk.i64_in _ (by omega)
    obtain ⟨j, hj⟩ : ∃ j, d2 + d1 = j := ⟨_, rfl⟩
    have hw2 : IntKind.i64.wrap ((d2 : Int) + d1) = (j : Int) := by rw [IntWalk.i64_in _ (by omega)]; omega
    have hj1 : (d2 : Int) ≤ j := by omega
    have hj2 : (j : Int) ≤ c := by omega
    obtain ⟨pu, sf, hS⟩ := slice_mid 22 Try.underlying22 Try.sizeOf5 HS.out d2 d1 (by omega) hnc
    have sf' : ∀ w', (Instr.slice 22 (.slice p n c) (some (.int .i64 (d2 : Int))) (some (.int .i64 (j : Int))) none).run Try.prog w' = .ok (.slice pu d1 (c - d2)) w' := by
      intro w'
      have := sf w'
      rw [show (d2 : Int) + (d1 : Int) = (j : Int) by omega] at this
      exact this
    rw [hj] at HH
    have HS2 := Lib.hid hS
    clear hb sf hS hj
    go_enter Try.func22, Try.ntmps22
    go_wp2_with fail
    refine HK.out.mono ?_
    rintro e w1 ⟨rfl, hb1⟩
    have e1 : w1.cell? ⟨w.heap.size, 1, none⟩ = some (.int .u64 x) := (hb1.cell (p := ⟨w.heap.size, 1, none⟩) (by show w.heap.size < (w.alloc _).heap.size; simp)).trans HB1.out
    have hb3 := HF.out.trans (hb1.mono HF.out.size)
    have HB3 := Lib.hid hb3
    have S1 := HS2.out.below hb3
    have HQ := Lib.hid (fun N => HH.out (w1.drewN N) pu d1 (c - d2) (below_drewN hb3 N) ⟨S1.len, S1.rng, S1.mem⟩)
    clear hb1 hb3 S1
    go_wp2_with fail
    go_quiet (fail)
    go_wp2
    go_ret3
    exact HQ.out _

omit hn in
set_option maxHeartbeats 800000 in
theorem got22_2 (h4 : kk % 4 = 2) (HP : GotAsk w (got xs kk x) P) : Calls Try.prog 22 #[.slice p n c, .agg #[.int .u8 kk, .int .u64 x, .slice q m cc]] w P := by
  rw [got_2 h4] at HP
  have F : Below w.heap.size w (w.alloc (.cells #[.int .u8 kk, .int .u64 x, .slice q m cc] 42)) := below_alloc w _
  have hl := h.len
  obtain ⟨ix, hix⟩ : ∃ ix, IntKind.i64.wrap (x : Int) = ix := ⟨_, rfl⟩
  have hix2 : ((x : Int) ≤ 9223372036854775807 ∧ ix = x) ∨ (9223372036854775807 < (x : Int) ∧ ix < 0) := by
    by_cases h : (x : Int) ≤ 9223372036854775807
    · exact .inl ⟨h, by rw [← hix]; exact IntWalk.i64_in _ (by omega)⟩
    · refine .inr ⟨by omega, ?_⟩
      rw [← hix]
      simp [IntKind.wrap, IntKind.bits, IntKind.signed]
      omega
  have HF := Lib.hid F
  by_cases hb : 9223372036854775807 < x ∨ xs.length < x
  · rw [if_pos hb] at HP
    have hQ := HP _ F
    have HQ := Lib.hid hQ
    have hb2 : ix < 0 ∨ (¬ ix < 0 ∧ (n : Int) < ix) := by omega
    clear HP F h hb hQ hl hix2
    rcases hb2 with h2 | ⟨h2, h3⟩
    · go_enter Try.func22, Try.ntmps22
      go_wp2
      go_ret3
      exact HQ.out
    · go_enter Try.func22, Try.ntmps22
      go_wp2
      go_ret3
      exact HQ.out
  · rw [if_neg hb] at HP
    obtain rfl : ix = x := by omega
    have h1 : decide ((x : Int) < 0) = false := by simp
    have h2 : decide ((n : Int) < (x : Int)) = false := by simp; omega
    have h3 : (x : Int) ≤ c := by omega
    have HQ := Lib.hid (fun w1 (hb : Below w.heap.size w w1) => HP w1 p x c hb ((h.take x (by omega)).below hb))
    have h0 : ¬ (x : Int) < 0 := by omega
    have h02 : (x : Int) ≤ n := by omega
    clear HP F h hb hl hix2
    go_enter Try.func22, Try.ntmps22
    go_wp2_with fail
    go_quiet (fail)
    go_wp2
    go_ret3
    exact HQ.out _ (below_drewN HF.out _)

omit hx hnc in
set_option maxHeartbeats 800000 in
theorem got22_3 (h4 : kk % 4 = 3) (HP : GotAsk w (got xs kk x) P) : Calls Try.prog 22 #[.slice p n c, .agg #[.int .u8 kk, .int .u64 x, .slice q m cc]] w P := by
  rw [got_3 h4] at HP
  have F : Below w.heap.size w (w.alloc (.cells #[.int .u8 kk, .int .u64 x, .slice q m cc] 42)) := below_alloc w _
  have hl := h.len
  have HF := Lib.hid F
  by_cases hn0 : (n : Int) = 0
  · rw [if_pos (.inl (by omega))] at HP
    have HQ := Lib.hid (HP _ F)
    clear HP F h hl
    go_enter Try.func22, Try.ntmps22
    go_wp2
    go_ret3
    exact HQ.out
  · obtain ⟨b, o, rfl, hc⟩ := h.mem (by omega)
    have d0 : (w.alloc (.cells #[.int .u8 kk, .int .u64 x, .slice q m cc] 42)).cell? ⟨b, o, none⟩ = some (.int .u8 (xs.getD 0 0)) := (F.cell (p := ⟨b, o, none⟩) (block_lt_of_cell (hc 0 (by omega)))).trans (hc 0 (by omega))
    have hr : 0 ≤ xs.getD 0 0 ∧ xs.getD 0 0 ≤ 255 := by
      have : 0 < xs.length := by omega
      simp only [List.getD, List.getElem?_eq_getElem this, Option.getD_some]
      exact h.rng _ (List.getElem_mem _)
    obtain ⟨v, hv⟩ : ∃ v, xs.getD 0 0 = v := ⟨_, rfl⟩
    rw [hv] at d0 HP hr
    have hz : ((n : Int) == 0) = false := by simpa using hn0
    by_cases h1 : 1 < v
    · rw [if_pos (.inr h1)] at HP
      have HQ := Lib.hid (HP _ F)
      clear HP F h hl hc hv
      go_enter Try.func22, Try.ntmps22
      go_wp2
      go_ret3
      exact HQ.out
    · rw [if_neg (by omega)] at HP
      have hvn : ((v.toNat : Nat) : Int) = v := by omega
      have hd : decide (1 < v) = false := by simpa using h1
      have hw : IntKind.u64.wrap v = v := IntWalk.u64_in _ (by omega)
      have HQ := Lib.hid (HP _ none 0 0 F (Src.nil _ _))
      rw [hvn] at HQ
      clear HP F h hl hc hv hvn
      go_enter Try.func22, Try.ntmps22
      go_wp2
      go_ret3
      exact HQ.out

theorem got22_any (HP : GotAsk w (got xs kk x) P) : Calls Try.prog 22 #[.slice p n c, .agg #[.int .u8 kk, .int .u64 x, .slice q m cc]] w P := by
  rcases (by omega : kk % 4 = 0 ∨ kk % 4 = 1 ∨ kk % 4 = 2 ∨ kk % 4 = 3) with h4 | h4 | h4 | h4
  · exact got22_0 p n c xs kk x q m cc w hk h hnc P h4 HP
  · exact got22_1 p n c xs kk x q m cc w hk hx h hnc hn P h4 HP
  · exact got22_2 p n c xs kk x q m cc w hk hx h hnc P h4 HP
  · exact got22_3 p n c xs kk x q m cc w hk h hn P h4 HP
end
end Go.Proofs.Ytpdgbpoplljpkaa
