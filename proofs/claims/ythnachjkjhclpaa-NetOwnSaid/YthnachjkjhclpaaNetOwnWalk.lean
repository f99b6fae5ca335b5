/- The walk of NetOwn. -/
import Derived.Test.YthnachjkjhclpaaNetWay
namespace Go.Proofs.Ythnachjkjhclpaa
open Go.RowKit
set_option linter.unusedVariables false
set_option linter.unusedSimpArgs false

/-- What holds in the loop that turns three rows of bytes. -/
structure OwnL (w9 : World) (p1 p2 p3 : Option Addr) (c1 c2 c3 n : Nat) (wr : World) : Prop where
  ex : ∃ xs ys zs, Own wr 0 p1 n c1 xs ∧ Own wr 0 p2 n c2 ys ∧ Own wr 0 p3 n c3 zs
  fr : Fr w9 wr (fun i => some i = blk p1 ∨ some i = blk p2 ∨ some i = blk p3)
theorem OwnL.step {w9 : World} {g h j c1 c2 c3 n k : Nat} {wr : World} {xs ys zs : List Int} {u v x : Int} (h1 : Own wr 0 (some ⟨g, 0, none⟩) n c1 xs) (h2 : Own wr 0 (some ⟨h, 0, none⟩) n c2 ys) (h3 : Own wr 0 (some ⟨j, 0, none⟩) n c3 zs)
    (hf : Fr w9 wr (fun i => some i = blk (some ⟨g, 0, none⟩) ∨ some i = blk (some ⟨h, 0, none⟩) ∨ some i = blk (some ⟨j, 0, none⟩)))
    (n1 : g ≠ h) (n2 : g ≠ j) (n3 : h ≠ j) (hu : 0 ≤ u ∧ u ≤ 255) (hv : 0 ≤ v ∧ v ≤ 255) (hx : 0 ≤ x ∧ x ≤ 255) :
    OwnL w9 (some ⟨g, 0, none⟩) (some ⟨h, 0, none⟩) (some ⟨j, 0, none⟩) c1 c2 c3 n (((wr.setCell ⟨g, k, none⟩ (.int .u8 u)).setCell ⟨h, k, none⟩ (.int .u8 v)).setCell ⟨j, k, none⟩ (.int .u8 x)) := by
  have A1 := h1.set k u hu
  have A2 := h2.fr (Fr.setCell wr ⟨g, k, none⟩ (.int .u8 u)) (by intro i hi e; simp [blk] at hi e; omega)
  have A3 := h3.fr (Fr.setCell wr ⟨g, k, none⟩ (.int .u8 u)) (by intro i hi e; simp [blk] at hi e; omega)
  have B1 := A1.fr (Fr.setCell _ ⟨h, k, none⟩ (.int .u8 v)) (by intro i hi e; simp [blk] at hi e; omega)
  have B2 := A2.set k v hv
  have B3 := A3.fr (Fr.setCell _ ⟨h, k, none⟩ (.int .u8 v)) (by intro i hi e; simp [blk] at hi e; omega)
  refine ⟨⟨_, _, _, B1.fr (Fr.setCell _ ⟨j, k, none⟩ (.int .u8 x)) (by intro i hi e; simp [blk] at hi e; omega), B2.fr (Fr.setCell _ ⟨j, k, none⟩ (.int .u8 x)) (by intro i hi e; simp [blk] at hi e; omega), B3.set k x hx⟩, ?_⟩
  exact ((hf.set ⟨g, k, none⟩ _ (.inl rfl)).set ⟨h, k, none⟩ _ (.inr (.inl rfl))).set ⟨j, k, none⟩ _ (.inr (.inr rfl))

theorem row_cell {w : World} {base : Nat} {p : Option Addr} {n cap : Nat} {ls : List Lt} (h : w.ownsRow base 27 3 (.slice p n cap) n (ls.flatMap Lt.cells)) {k : Nat} {l : Lt} (hk : k < n) (hl : ls[k]? = some l) :
    ∃ g cur, p = some ⟨g, 0, none⟩ ∧ base ≤ g ∧ w.heap[g]? = some (.cells cur 27 (0, 0)) ∧ w.cell? ⟨g, k * 3 + 2, none⟩ = some (.slice l.q l.m l.c) ∧ n ≤ cap := by
  rcases h.2 with ⟨_, h0⟩ | ⟨g, cap', cur, h', hb, hg, h1, h2, h3, h4⟩
  · omega
  · simp only [Value.slice.injEq, true_and] at h'
    obtain ⟨rfl, rfl⟩ := h'
    refine ⟨g, cur, rfl, hb, hg, ?_, h1⟩
    rw [cell_of_row _ _ _ _ _ _ hg, ← Array.getElem?_toList, ← List.getElem?_take_of_lt (by omega : k * 3 + 2 < n * 3), h4]
    exact (flatMap_get ls k l hl).2.2

set_option maxRecDepth 100000 in
set_option maxHeartbeats 3200000 in
theorem netOwn_walk (f t : Int) (a0 : Option Addr) (len0 cap0 : Nat) (z0 : List Int) (w : World) (w0 : IsRow .u8 w a0 len0 cap0 z0) :
    Calls Try.prog 5 #[.agg #[.int .i64 f, .int .i64 t, .slice a0 len0 cap0]] w fun e w' => e = .returned (.bool true) ∧ Below w.heap.size w w' := by
  obtain ⟨S0, hc0, hcm0, hn0⟩ := w0.src
  obtain ⟨xs, hxs⟩ : ∃ xs, z0.take len0 = xs := ⟨_, rfl⟩
  rw [hxs] at S0
  clear w0 hxs
  have HBox : Hid (Below w.heap.size w (w.alloc (.cells #[.int .i64 f, .int .i64 t, .slice a0 len0 cap0] 27))) := below_alloc w _
  by_cases h0 : 500 < (len0 : Int)
  · clear S0
    go_enter Try.func5, Try.ntmps5
    go_wp2_with fail
    refine (awake_any _).mono ?_
    rintro e w1 ⟨rfl, hb1⟩
    have F1 := (Fr.of_below hb1)
    obtain ⟨b0, b1, b2, fb⟩ := letter_cells (F1.heap (heap_alloc_new w (.cells #[.int .i64 f, .int .i64 t, .slice a0 len0 cap0] 27)) (fun h => h))
    have HB1 := Lib.hid (HBox.out.trans (hb1.mono (by simp)))
    clear hb1 F1
    go_wp2_with fail
    refine (awake_any _).mono ?_
    rintro e w2 ⟨rfl, hb2⟩
    have HB2 := Lib.hid (HB1.out.trans (hb2.mono HB1.out.size))
    clear hb2
    go_wp2
    go_ret
    exact ⟨rfl, HB2.out⟩
  · go_enter Try.func5, Try.ntmps5
    go_wp2_with fail
    refine (awake_any _).mono ?_
    rintro e w1 ⟨rfl, hb1⟩
    have F1 := (Fr.of_below hb1)
    obtain ⟨b0, b1, b2, fb⟩ := letter_cells (F1.heap (heap_alloc_new w (.cells #[.int .i64 f, .int .i64 t, .slice a0 len0 cap0] 27)) (fun h => h))
    have HB1 := Lib.hid (HBox.out.trans (hb1.mono (by simp)))
    have S1 := S0.below HB1.out
    have cv := S1.convert (P := Try.prog) cap0 25 5 9 Try.underlying25 Try.underlying5 Try.underlying9
    have HS1 := Lib.hid S1
    have s1 := HB1.out.size
    have s1' : w.heap.size < w1.heap.size := block_lt_of_cell b0
    clear hb1 F1 S0 S1
    go_wp2_with (at_builtin; refine wpList_append_bytes rfl (.tmp 27) (.tmp 29) 25 rfl w1.heap.size Try.underlying25 Try.info5 (some ⟨w1.heap.size, 0, none⟩) 0 0 [] rfl (Own.empty w1) a0 len0 cap0 xs rfl (HS1.out.below (below_alloc _ _)) hn0 (by omega) (by simp) ?_)
    intro p1 cap1 w2 hown hg _ hk
    try simp only [Nat.zero_add, List.nil_append] at hown
    try rw [Nat.zero_add]
    have F2 : Fr w1 w2 (fun k => some k = some w1.heap.size) := ((Fr.alloc w1 _).trans (Fr.of_grown hg)).mono (by simp [blk])
    have HB2 := Lib.hid (HB1.out.trans (F2.below s1 (fun k hk e => by simp at e; omega)))
    have HO2 := Lib.hid hown
    have s2 := F2.size
    clear hown hg hk F2 cv b0 b1 b2 fb
    obtain ⟨w3, hw3⟩ : ∃ w3, w3 = w2.alloc (.cells #[.int .i64 0, .int .i64 0, .slice p1 len0 cap1] 27) := ⟨_, rfl⟩
    have G3 : w3.heap[w2.heap.size]? = some (.cells #[.int .i64 0, .int .i64 0, .slice p1 len0 cap1] 27 (0, 0)) := by rw [hw3]; exact heap_alloc_new w2 _
    have F3 : Fr w2 w3 (fun _ => False) := by rw [hw3]; exact Fr.alloc _ _
    have z3 : w3.heap.size = w2.heap.size + 1 := by rw [hw3]; simp
    have HW3 := Lib.hid hw3
    have HF3 := Lib.hid F3
    have HG3 := Lib.hid G3
    have HZ3 := Lib.hid z3
    clear hw3 F3 G3 z3
    go_wp2_with fail
    rw [← HW3.out]
    refine (new_any w3).mono ?_
    rintro e w4' ⟨rfl, hw4⟩
    have N4 : NetAt w4' w3.heap.size w3.heap.size none 0 0 [] := by rw [← hw4]; exact NetAt.new w3
    have F4 : Fr w3 w4' (fun _ => False) := by rw [← hw4]; exact Fr.alloc _ _
    have z4 : w4'.heap.size = w3.heap.size + 1 := by rw [← hw4]; simp
    obtain ⟨B, hB⟩ : ∃ B, B = w3.heap.size := ⟨_, rfl⟩
    rw [← hB] at N4 ⊢
    have O4 := (HO2.out.fr HF3.out (fun _ _ h => h)).fr F4 (fun _ _ h => h)
    obtain ⟨d0, d1, d2, fd⟩ := letter_cells (F4.heap HG3.out (fun h => h))
    have K5 := Lib.hid (send_ok B B none 0 0 [] ⟨0, 0, p1, len0, cap1, xs⟩ w4' N4 (Own.lok (l := ⟨0, 0, p1, len0, cap1, xs⟩) O4) (by decide) (by simp only; omega) (by omega))
    have HO4 := Lib.hid O4
    have HQ := Lib.hid hB
    have HZ4 := Lib.hid z4
    have HF4 := Lib.hid F4
    clear N4 F4 O4 z4 hB hw4
    go_wp2_with fail
    refine K5.out.mono ?_
    rintro e w5 ⟨p5, cap5, q5, c5, rfl, N5, F5, f5, g5⟩
    have z5 := F5.size
    have K6 := Lib.hid (double_ok B B p5 1 cap5 _ (by decide) (by decide) 0 w5 N5 (by simp; omega) (by have := HQ.out; have := HZ4.out; omega) ⟨0, 0, q5, len0, c5, xs⟩ rfl)
    have HN5 := Lib.hid N5
    have HF5 := Lib.hid F5
    have H5 := Lib.hid f5
    have HG5 := Lib.hid g5
    clear N5 F5 f5 g5
    go_wp2_with fail
    refine K6.out.mono ?_
    rintro e w6 ⟨p6, cap6, q6, c6, rfl, N6, F6, f6, g6⟩
    have z6 := F6.size
    have K7 := Lib.hid (at_some B B p6 2 cap6 _ (by decide) 0 w6 N6 ⟨0, 0, q5, len0, c5, xs⟩ rfl (by simp only; omega))
    have HN6 := Lib.hid N6
    have HF6 := Lib.hid F6
    have H6 := Lib.hid f6
    have HG6 := Lib.hid g6
    clear N6 F6 f6 g6 d0 d1 d2 fd
    go_wp2_with fail
    refine K7.out.mono ?_
    rintro e w7 ⟨q7, c7, rfl, O7, B7⟩
    simp only [Lt.val]
    obtain ⟨w8, hw8⟩ : ∃ w8, w8 = w7.alloc (.cells #[.int .i64 0, .int .i64 0, .slice q7 len0 c7] 27) := ⟨_, rfl⟩
    have F7 := Fr.of_below B7
    have F8 : Fr w7 w8 (fun _ => False) := by rw [hw8]; exact Fr.alloc _ _
    have z8 : w8.heap.size = w7.heap.size + 1 := by rw [hw8]; simp
    have G8 : w8.heap[w7.heap.size]? = some (.cells #[.int .i64 0, .int .i64 0, .slice q7 len0 c7] 27 (0, 0)) := by rw [hw8]; exact heap_alloc_new w7 _
    have N8 := (HN6.out.fr F7 (fun h => h) (fun _ _ h => h) (fun _ _ _ _ h => h)).fr F8 (fun h => h) (fun _ _ h => h) (fun _ _ _ _ h => h)
    have O8 := O7.fr F8 (fun _ _ h => h)
    have K9 := Lib.hid (way_any B B p6 2 cap6 _ w8 N8 (by simp; omega) (by decide))
    have z7 := F7.size
    have HW8 := Lib.hid hw8
    have HF7 := Lib.hid F7
    have HF8 := Lib.hid F8
    have HZ8 := Lib.hid z8
    have HG8 := Lib.hid G8
    have HN8 := Lib.hid N8
    have HO8 := Lib.hid O8
    have HQ7 := Lib.hid (fun k hk => O7.lt k hk)
    clear O7 B7 F7 F8 z8 G8 N8 O8 hw8
    go_wp2_with fail
    rw [← HW8.out]
    refine K9.out.mono ?_
    rintro e w9 ⟨q9, cap9, rfl, ⟨ls9, r9, l9, k9⟩, B9⟩
    obtain ⟨lw, hlw⟩ : ∃ l, ls9[1]? = some l := ⟨_, List.getElem?_eq_getElem (by omega)⟩
    obtain ⟨l1, hl1, _, _, em, eb, O9⟩ := k9 1 lw hlw
    obtain ⟨g9, cur9, rfl, hb9, hg9, hc9, _⟩ := row_cell r9 (by decide) hlw
    simp at hl1
    subst hl1
    obtain ⟨fw, tw, qw, mw, cw, bw⟩ := lw
    simp only at em eb O9 hc9
    have em' := em.symm
    have eb' := eb.symm
    subst em' eb'
    clear em eb
    have zB := HQ.out
    have z3 := HZ3.out
    have z4 := HZ4.out
    have z8 := HZ8.out
    have z9 := B9.size
    have P1 : ∀ k, blk p1 = some k → w1.heap.size ≤ k ∧ k < w2.heap.size := fun k hk => HO2.out.lt k hk
    have P5 : ∀ k, blk p5 = some k → w4'.heap.size ≤ k := fun k hk => by
      rcases H5.out k hk with e | e
      · cases e
      · exact e
    have P6 : ∀ k, blk p6 = some k → w4'.heap.size ≤ k ∧ k < w6.heap.size := fun k hk => by
      obtain ⟨_, cur, hc⟩ := ownsRow_elem HN6.out.row k hk
      refine ⟨?_, (Array.getElem?_eq_some_iff.1 hc).1⟩
      rcases H6.out k hk with e | e
      · exact P5 k e
      · omega
    have C3 : w9.heap[w2.heap.size]? = some (.cells #[.int .i64 0, .int .i64 0, .slice p1 len0 cap1] 27 (0, 0)) :=
      (Fr.of_below B9).heap (HF8.out.heap (HF7.out.heap (HF6.out.heap (HF5.out.heap (HF4.out.heap HG3.out (fun h => h)) (by
        rintro (e | e)
        · omega
        · cases e)) (by
        rintro (e | e)
        · omega
        · have := P5 _ e.symm; omega)) (fun h => h)) (fun h => h)) (fun h => h)
    have C8 : w9.heap[w7.heap.size]? = some (.cells #[.int .i64 0, .int .i64 0, .slice q7 len0 c7] 27 (0, 0)) := (Fr.of_below B9).heap HG8.out (fun h => h)
    have O1 : Own w9 0 p1 len0 cap1 xs := ((((((HO4.out.fr HF5.out (fun k hk => by
        have := P1 k hk
        rintro (e | e)
        · omega
        · cases e)).fr HF6.out (fun k hk => by
        have := P1 k hk
        rintro (e | e)
        · omega
        · have := P5 _ e.symm; omega)).fr HF7.out (fun _ _ h => h)).fr HF8.out (fun _ _ h => h)).fr (Fr.of_below B9) (fun _ _ h => h))).base (by omega)
    have O7 : Own w9 0 q7 len0 c7 xs := (HO8.out.fr (Fr.of_below B9) (fun _ _ h => h)).base (by omega)
    have N9 := HN8.out.fr (Fr.of_below B9) (fun h => h) (fun _ _ h => h) (fun _ _ _ _ h => h)
    have PW : ∀ k, blk qw = some k → w8.heap.size ≤ k ∧ ¬ k = g9 := fun k hk => by
      refine ⟨(O9.lt k hk).1, ?_⟩
      rintro rfl
      obtain ⟨cur, hc⟩ := O9.elem k hk
      rw [hg9] at hc; simp at hc
    have R0 : OwnL w9 p1 q7 qw cap1 c7 cw len0 w9 := ⟨⟨xs, xs, xs, O1, O7, O9.base (by omega)⟩, Fr.refl _ _⟩
    have HC3 := Lib.hid C3
    have HC8 := Lib.hid C8
    have HN9 := Lib.hid N9
    have HPW := Lib.hid PW
    have HP1 := Lib.hid P1
    have HP6 := Lib.hid P6
    have HG9 := Lib.hid hg9
    have HC9 := Lib.hid hc9
    have HB9 := Lib.hid hb9
    have HZB := Lib.hid zB
    clear C3 C8 N9 PW P1 P5 P6 hg9 hc9 hb9 zB z3 z4 z8 O1 O7 O9 r9 k9 l9 hlw
    go_wp2_with fail
    go_loopw [10] (fun v wr => ∃ (k : Nat), v = .int .i64 k ∧ k ≤ len0 ∧ OwnL w9 p1 q7 qw cap1 c7 cw len0 wr) (fun v _ => len0 - (intOf v).toNat)
    case atStart => exact ⟨0, rfl, Nat.zero_le _, R0⟩
    case round =>
      obtain ⟨k, rfl, hk, ⟨us, vs, ts, o1, o2, o3⟩, hfr⟩ := hrel
      have z3 := HZ3.out
      have z4 := HZ4.out
      have z8 := HZ8.out
      have A3 := hfr.heap HC3.out (by
        rintro (e | e | e)
        · have := HP1.out _ e.symm; omega
        · have := HQ7.out _ e.symm; omega
        · have := HPW.out _ e.symm; omega)
      obtain ⟨a0', a1', a2', fa'⟩ := letter_cells A3
      clear a0' a1' fa'
      by_cases hlt : (k : Int) < len0
      · have A8 := hfr.heap HC8.out (by
          rintro (e | e | e)
          · have := HP1.out _ e.symm; omega
          · have := HQ7.out _ e.symm; omega
          · have := HPW.out _ e.symm; omega)
        have A9 := hfr.cell HC9.out (by
          have := HB9.out
          intro e
          change some g9 = _ ∨ some g9 = _ ∨ some g9 = _ at e
          rcases e with e | e | e
          · have := HP1.out _ e.symm; omega
          · have := HQ7.out _ e.symm; omega
          · have := HPW.out _ e.symm; exact this.2 rfl)
        obtain ⟨_, e, _⟩ | ⟨x1, cur1, rfl, _⟩ := o1.cases
        · omega
        obtain ⟨_, e, _⟩ | ⟨x2, cur2, rfl, _⟩ := o2.cases
        · omega
        obtain ⟨_, e, _⟩ | ⟨x3, cur3, rfl, _⟩ := o3.cases
        · omega
        have r1 := HP1.out x1 rfl
        have r2 := HQ7.out x2 rfl
        have r3 := HPW.out x3 rfl
        have rb := HB9.out
        have n12 : x1 ≠ x2 := by omega
        have n13 : x1 ≠ x3 := by omega
        have n23 : x2 ≠ x3 := by omega
        obtain ⟨c1, c2, c3, c4⟩ := o1.cell k (by omega)
        obtain ⟨d1, d2, d3, d4⟩ := o2.cell k (by omega)
        obtain ⟨e1, e2, e3, e4⟩ := o3.cell k (by omega)
        obtain ⟨u, hu⟩ : ∃ x, us.getD k 0 = x := ⟨_, rfl⟩
        obtain ⟨v, hv⟩ : ∃ x, vs.getD k 0 = x := ⟨_, rfl⟩
        obtain ⟨y, hy⟩ : ∃ x, ts.getD k 0 = x := ⟨_, rfl⟩
        rw [hu] at c1 c3 c4
        rw [hv] at d1 d3 d4
        rw [hy] at e1 e3 e4
        obtain ⟨_, _, g8, _⟩ := letter_cells A8
        have s1 : ∀ a, (wr.setCell ⟨x1, k, none⟩ a).cell? ⟨x2, k, none⟩ = some (.int .u8 v) := fun a => (Fr.setCell wr ⟨x1, k, none⟩ a).cell d1 (fun e => n12 e.symm)
        have s2 : ∀ a, (wr.setCell ⟨x1, k, none⟩ a).cell? ⟨w7.heap.size, 2, none⟩ = some (.slice (some ⟨x2, 0, none⟩) len0 c7) := fun a => (Fr.setCell wr ⟨x1, k, none⟩ a).cell g8 (fun e => by simp only at e; omega)
        have s3 : ∀ a b, ((wr.setCell ⟨x1, k, none⟩ a).setCell ⟨x2, k, none⟩ b).cell? ⟨x3, k, none⟩ = some (.int .u8 y) := fun a b => (Fr.setCell _ ⟨x2, k, none⟩ b).cell ((Fr.setCell wr ⟨x1, k, none⟩ a).cell e1 (fun e => n13 e.symm)) (fun e => n23 e.symm)
        have s4 : ∀ a b, ((wr.setCell ⟨x1, k, none⟩ a).setCell ⟨x2, k, none⟩ b).cell? ⟨g9, 5, none⟩ = some (.slice (some ⟨x3, 0, none⟩) len0 cw) := fun a b => (Fr.setCell _ ⟨x2, k, none⟩ b).cell ((Fr.setCell wr ⟨x1, k, none⟩ a).cell A9 (fun e => by simp only at e; omega)) (fun e => by simp only at e; omega)
        have HST := Lib.hid (fun u v x hu hv hx => OwnL.step (k := k) (u := u) (v := v) (x := x) o1 o2 o3 hfr n12 n13 n23 hu hv hx)
        clear hu hv hy o1 o2 o3 hfr A3 A8 A9 g8 R0 z3 z4 z8
        go_wp2
        go_roundw
        case rel => exact ⟨k + 1, by go_num, by omega, HST.out _ _ _ (by omega) (by omega) (by omega)⟩
        case measure => simp [intOf]; omega
      · obtain rfl : k = len0 := by omega
        have NR := HN9.out.fr hfr (by
          have := HZB.out
          rintro (e | e | e)
          · have := HP1.out _ e.symm; omega
          · have := HQ7.out _ e.symm; omega
          · have := HPW.out _ e.symm; omega) (by
          intro i hi
          have := HP6.out i hi
          rintro (e | e | e)
          · have := HP1.out _ e.symm; omega
          · have := HQ7.out _ e.symm; omega
          · have := HPW.out _ e.symm; omega) (by
          intro x hx i hi
          have r6 := (HN6.out.lblk hx hi).1
          have r4 : w4'.heap.size ≤ i := by
            simp at hx
            rcases hx with rfl | rfl
            · exact HG5.out i hi
            · have := HG6.out i hi; omega
          rintro (e | e | e)
          · have := HP1.out _ e.symm; omega
          · have := HQ7.out _ e.symm; omega
          · have := HPW.out _ e.symm; omega)
        have K10 := Lib.hid (take_some B B p6 2 cap6 _ (by decide) 0 wr NR ⟨0, 0, q5, k, c5, xs⟩ rfl (by simp only; omega))
        have zr := hfr.size
        have HNR := Lib.hid NR
        have HFR := Lib.hid hfr
        clear NR hfr o1 o2 o3 R0 A3 hlt hk
        go_wp2_with fail
        refine K10.out.mono ?_
        rintro e w10 ⟨q10, c10, rfl, O10, N10, F10⟩
        simp only [Lt.val]
        obtain ⟨w11, hw11⟩ : ∃ w11, w11 = w10.alloc (.cells #[.int .i64 0, .int .i64 0, .slice q10 k c10] 27) := ⟨_, rfl⟩
        have z10 := F10.size
        have F11 : Fr w10 w11 (fun _ => False) := by rw [hw11]; exact Fr.alloc _ _
        have z11 : w11.heap.size = w10.heap.size + 1 := by rw [hw11]; simp
        have G11 : w11.heap[w10.heap.size]? = some (.cells #[.int .i64 0, .int .i64 0, .slice q10 k c10] 27 (0, 0)) := by rw [hw11]; exact heap_alloc_new w10 _
        have N11 := N10.fr F11 (fun h => h) (fun _ _ h => h) (fun _ _ _ _ h => h)
        have O11 := O10.fr F11 (fun _ _ h => h)
        have K12 := Lib.hid (take_some B B p6 1 cap6 _ (by decide) 0 w11 N11 ⟨0, 0, q6, k, c6, xs⟩ rfl (by simp only; omega))
        have R10 := Lib.hid (fun i hi => O10.lt i hi)
        have HW11 := Lib.hid hw11
        have HF10 := Lib.hid F10
        have HF11 := Lib.hid F11
        have HG11 := Lib.hid G11
        have HO11 := Lib.hid O11
        have HZ11 := Lib.hid z11
        have HN11 := Lib.hid N11
        clear hw11 F10 F11 G11 N11 O11 O10 N10 z11
        go_wp2_with fail
        rw [← HW11.out]
        refine K12.out.mono ?_
        rintro e w12 ⟨q12, c12, rfl, O12, N12, F12⟩
        simp only [Lt.val]
        have c12' := (N12.fr (Fr.alloc w12 (.cells #[.int .i64 0, .int .i64 0, .slice q12 k c12] 27)) (fun h => h) (fun _ _ h => h) (fun _ _ _ _ h => h)).cell
        have z12 := F12.size
        have z11 := HZ11.out
        have zb := HZB.out
        have z4 := HZ4.out
        have z3 := HZ3.out
        have z8 := HZ8.out
        have O10' := (HO11.out.fr F12 (by
          intro i hi
          have := R10.out i hi
          rintro (e | e)
          · omega
          · have := HP6.out i e.symm; omega)).fr (Fr.alloc w12 (.cells #[.int .i64 0, .int .i64 0, .slice q12 k c12] 27)) (fun _ _ h => h)
        have O12' := O12.fr (Fr.alloc w12 (.cells #[.int .i64 0, .int .i64 0, .slice q12 k c12] 27)) (fun _ _ h => h)
        have cvb := O10'.src.convert (P := Try.prog) c10 25 5 9 Try.underlying25 Try.underlying5 Try.underlying9
        have cvc := O12'.src.convert (P := Try.prog) c12 25 5 9 Try.underlying25 Try.underlying5 Try.underlying9
        obtain ⟨_, _, g11, _⟩ := letter_cells ((Fr.alloc w12 (.cells #[.int .i64 0, .int .i64 0, .slice q12 k c12] 27)).heap (F12.heap HG11.out (by
          rintro (e | e)
          · omega
          · have := HP6.out _ e.symm; omega)) (fun h => h))
        obtain ⟨_, _, g13, _⟩ := letter_cells (heap_alloc_new w12 (.cells #[.int .i64 0, .int .i64 0, .slice q12 k c12] 27))
        have FB : Below w.heap.size w (w12.alloc (.cells #[.int .i64 0, .int .i64 0, .slice q12 k c12] 27)) := by
          refine HB2.out.trans ?_
          have F := ((((HF3.out.trans HF4.out).trans HF5.out).trans HF6.out).trans ((HF7.out.trans HF8.out).trans ((Fr.of_below B9).trans HFR.out))).trans ((HF10.out.trans HF11.out).trans (F12.trans (Fr.alloc w12 (.cells #[.int .i64 0, .int .i64 0, .slice q12 k c12] 27))))
          refine F.below (by omega) (fun j hj e => ?_)
          simp only [false_or, or_false, or_assoc] at e
          rcases e with e | e | e | e | e | e | e | e | e | e | e
          · omega
          · cases e
          · omega
          · rcases H5.out j e.symm with e' | e'
            · cases e'
            · omega
          · have := HP1.out _ e.symm; omega
          · have := HQ7.out _ e.symm; omega
          · have := HPW.out _ e.symm; omega
          · omega
          · have := HP6.out _ e.symm; omega
          · omega
          · have := HP6.out _ e.symm; omega
        have HFB := Lib.hid FB
        clear O12 N12 F12 O10' O12' z11 zb z4 z3 z8 FB
        go_wp2_with fail
        refine (count_any _ _ _ _ _ c12').mono ?_
        rintro e w14 ⟨rfl, rfl⟩
        go_wp2
        go_ret
        exact ⟨rfl, HFB.out⟩
end Go.Proofs.Ythnachjkjhclpaa
