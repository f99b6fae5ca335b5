/- The contracts of Take and Double. -/
import Derived.Test.YthnachjkjhclpaaNetDel
namespace Go.Proofs.Ythnachjkjhclpaa
open Go.RowKit
set_option linter.unusedVariables false
set_option linter.unusedSimpArgs false

theorem flatMap_take (ls : List Lt) : ∀ k, k ≤ ls.length → (ls.flatMap Lt.cells).take (k * 3) = (ls.take k).flatMap Lt.cells := by
  induction ls with
  | nil => intro k hk; simp
  | cons a t ih =>
    intro k hk
    cases k with
    | zero => simp
    | succ k =>
      rw [List.flatMap_cons, List.take_succ_cons, List.flatMap_cons, List.take_append, ← ih k (by simpa using hk)]
      have : a.cells.length = 3 := rfl
      rw [this, show (k + 1) * 3 - 3 = k * 3 by omega, List.take_of_length_le (by rw [this]; omega)]
theorem flatMap_drop (ls : List Lt) : ∀ k, k ≤ ls.length → (ls.flatMap Lt.cells).drop (k * 3) = (ls.drop k).flatMap Lt.cells := by
  induction ls with
  | nil => intro k hk; simp
  | cons a t ih =>
    intro k hk
    cases k with
    | zero => simp
    | succ k =>
      rw [List.flatMap_cons, List.drop_succ_cons, List.drop_append, ← ih k (by simpa using hk)]
      have : a.cells.length = 3 := rfl
      rw [this, show (k + 1) * 3 - 3 = k * 3 by omega, List.drop_of_length_le (by rw [this]; omega), List.nil_append]
theorem flatMap_erase (ls : List Lt) (k : Nat) (hk : k < ls.length) : (ls.flatMap Lt.cells).take (k * 3) ++ (ls.flatMap Lt.cells).drop ((k + 1) * 3) = (ls.eraseIdx k).flatMap Lt.cells := by
  rw [flatMap_take _ _ (by omega), flatMap_drop _ _ (by omega), ← List.flatMap_append, List.eraseIdx_eq_take_drop_succ]
theorem flatMap_one (ls : List Lt) : ∀ u ∈ ls.flatMap Lt.cells, u.oneCell' = true := by
  intro u hu
  obtain ⟨l, _, h⟩ := List.mem_flatMap.1 hu
  simp [Lt.cells] at h
  rcases h with rfl | rfl | rfl <;> rfl

theorem letter_cells {w : World} {b : Nat} {x y z : Value} (G : w.heap[b]? = some (.cells #[x, y, z] 27 (0, 0))) : w.cell? ⟨b, 0, none⟩ = some x ∧ w.cell? ⟨b, 1, none⟩ = some y ∧ w.cell? ⟨b, 2, none⟩ = some z ∧ ∀ i, w.frozen? ⟨b, i, none⟩ = false :=
  ⟨by rw [cell_of_row w _ _ _ _ _ G]; rfl, by rw [cell_of_row w _ _ _ _ _ G]; rfl, by rw [cell_of_row w _ _ _ _ _ G]; rfl, fun i => frozen_of_row w _ i _ _ G⟩

/-- A letter is taken off. -/
def TakePost (w : World) (B base : Nat) (p : Option Addr) (n cap : Nat) (ls : List Lt) (k : Nat) (l : Lt) (e : Ending) (w' : World) : Prop :=
  ∃ q' c', e = .returned (.tuple #[Lt.val ⟨l.f, l.t, q', l.m, c', l.bs⟩, .bool true]) ∧ Own w' w.heap.size q' l.m c' l.bs ∧ NetAt w' B base p (n - 1) cap (ls.eraseIdx k) ∧ Fr w w' (fun k => k = B ∨ some k = blk p)

set_option maxRecDepth 100000 in
set_option maxHeartbeats 1600000 in
theorem take_none (B : Nat) (p : Option Addr) (cap : Nat) (i : Int) (w : World) (c0 : w.cell? ⟨B, 0, none⟩ = some (.slice p 0 cap)) :
    Calls Try.prog 9 #[.pointer (some ⟨B, 0, none⟩), .int .i64 i] w fun e w' => e = .returned (.tuple #[.agg #[.int .i64 0, .int .i64 0, .slice none 0 0], .bool false]) ∧ Below w.heap.size w w' := by
  have hBlt : B < w.heap.size := block_lt_of_cell c0
  have c1 := (Fr.alloc w (.cells #[.int .i64 0, .int .i64 0, .slice none 0 0] 27)).cell c0 (fun h => h)
  have K := Lib.hid (at_none B p cap i (w.alloc (.cells #[.int .i64 0, .int .i64 0, .slice none 0 0] 27)) c1)
  have hz : (w.alloc (.cells #[.int .i64 0, .int .i64 0, .slice none 0 0] 27)).heap.size = w.heap.size + 1 := by simp
  have HZ := Lib.hid hz
  clear hz
  go_enter Try.func9, Try.ntmps9
  go_wp2_with fail
  refine K.out.mono ?_
  rintro e w1 ⟨rfl, h2⟩
  have G : w1.heap[w.heap.size]? = some (.cells #[.int .i64 0, .int .i64 0, .slice none 0 0] 27 (0, 0)) := (h2.block _ (by rw [HZ.out]; omega)).trans (heap_alloc_new w _)
  obtain ⟨b0, b1, b2, fb⟩ := letter_cells ((Fr.alloc w1 (.cells #[.int .i64 0, .int .i64 0, .slice none 0 0] 27)).heap G (fun h => h))
  have H2 := Lib.hid h2
  have s2 : w.heap.size + 1 ≤ w1.heap.size := by have := h2.size; rw [HZ.out] at this; exact this
  clear G h2
  go_wp2
  have F := (Fr.alloc w (.cells #[.int .i64 0, .int .i64 0, .slice none 0 0] 27)).trans ((Fr.of_below H2.out).trans (Fr.alloc w1 (.cells #[.int .i64 0, .int .i64 0, .slice none 0 0] 27)))
  refine bodyPost_ret (v := .tuple #[.agg #[.int .i64 0, .int .i64 0, .slice none 0 0], .bool false]) (by simp [results, Try.results9, go_sem, b0, b1, b2]) rfl ⟨rfl, ?_⟩
  exact (((F.mono (U := fun k => k = w.heap.size) (by simp)).set ⟨w.heap.size, 0, none⟩ _ rfl).set ⟨w.heap.size, 1, none⟩ _ rfl).set ⟨w.heap.size, 2, none⟩ _ rfl |>.below (Nat.le_refl _) (fun k hk e => by omega)

set_option maxRecDepth 100000 in
set_option maxHeartbeats 3200000 in
theorem take_some (B base : Nat) (p : Option Addr) (n cap : Nat) (ls : List Lt) (hn : 0 < n) (i : Int) (w : World) (h : NetAt w B base p n cap ls) (l : Lt) (hl : ls[placeOf i n]? = some l) (hm : l.m ≤ 140737488355328) :
    Calls Try.prog 9 #[.pointer (some ⟨B, 0, none⟩), .int .i64 i] w (TakePost w B base p n cap ls (placeOf i n) l) := by
  have c0 := h.cell
  have hBlt : B < w.heap.size := block_lt_of_cell c0
  have F0 := Fr.alloc w (.cells #[.int .i64 0, .int .i64 0, .slice none 0 0] 27)
  have h0 : NetAt (w.alloc (.cells #[.int .i64 0, .int .i64 0, .slice none 0 0] 27)) B base p n cap ls := h.fr F0 (fun h => h) (fun _ _ h => h) (fun _ _ _ _ h => h)
  have K1 := Lib.hid (at_some B base p n cap ls hn i _ h0 l hl hm)
  have hk := placeOf_lt i hn
  have K2 := Lib.hid (fun W c => place_some B p n cap hn i W c)
  have hpl : placeOf i n < ls.length := (List.getElem?_eq_some_iff.1 hl).1
  have HH := Lib.hid h
  clear h0 hl h F0
  revert K1 K2 hk hpl
  generalize placeOf i n = k
  intro K1 hk K2 hpl
  obtain ⟨g, cur, rfl, hb, hg, hnc, hcm, hcs, htk⟩ := HH.out.block hn
  have hBg : B ≠ g := fun e => HH.out.nblk (by rw [e]; rfl)
  have K3 := Lib.hid (fun W (hg : W.heap[g]? = some (.cells cur 27 (0, 0))) => delete_any g n cap k _ cur W hg hk hnc hcm hcs htk (by rw [flatMap_len, HH.out.len]) (flatMap_one ls))
  have HG := Lib.hid hg
  have hglt : g < w.heap.size := (Array.getElem?_eq_some_iff.1 hg).1
  have HT := Lib.hid htk
  clear hg htk hcs
  obtain ⟨f, t, q, m, c, bs⟩ := l
  simp only at hm
  go_enter Try.func9, Try.ntmps9
  go_wp2_with fail
  refine K1.out.mono ?_
  rintro e w1 ⟨q', c', rfl, h1, h2⟩
  simp only [Lt.val]
  have F1 : Fr w w1 (fun _ => False) := ((Fr.alloc w _).trans (Fr.of_below h2)).mono (by simp)
  have F2 : Fr w (w1.alloc (.cells #[.int .i64 f, .int .i64 t, .slice q' m c'] 27)) (fun _ => False) := (F1.trans (Fr.alloc _ _)).mono (by simp)
  have G1 : w1.heap[w.heap.size]? = some (.cells #[.int .i64 0, .int .i64 0, .slice none 0 0] 27 (0, 0)) := (h2.block _ (by simp)).trans (heap_alloc_new w _)
  have c1 : (w1.alloc (.cells #[.int .i64 f, .int .i64 t, .slice q' m c'] 27)).cell? ⟨B, 0, none⟩ = some (.slice (some ⟨g, 0, none⟩) n cap) := F2.cell c0 (fun h => h)
  have K2' := Lib.hid (K2.out _ c1)
  have K3' := Lib.hid (K3.out _ (F2.heap HG.out (fun h => h)))
  have HG1 := Lib.hid G1
  have H1 := Lib.hid h1
  have H2 := Lib.hid h2
  have s1 : w.heap.size + 1 ≤ w1.heap.size := by have := h2.size; simpa using this
  have HF1 := Lib.hid F1
  have HF2 := Lib.hid F2
  clear h1 h2 F1 F2 G1
  go_wp2_with fail
  refine K2'.out.mono ?_
  rintro e w2 ⟨rfl, rfl⟩
  go_wp2_with fail
  have hw : wrap64 ((k : Int) + 1) = (k : Int) + 1 := by unfold wrap64; unfold maxLen at hcm; omega
  rw [hw]
  refine K3'.out.mono ?_
  rintro e w2 ⟨rfl, F3, cur', g3, s3, t3⟩
  have hz1 : (w1.alloc (.cells #[.int .i64 f, .int .i64 t, .slice q' m c'] 27)).heap.size = w1.heap.size + 1 := by simp
  have gB : w2.heap[B]? = some (.cells #[.slice (some ⟨g, 0, none⟩) n cap] 47 (0, 0)) := F3.heap (HF2.out.heap HH.out.cells (fun h => h)) hBg
  have gBc : w2.cell? ⟨B, 0, none⟩ = some (.slice (some ⟨g, 0, none⟩) n cap) := (cell_of_row w2 B _ _ _ _ gB).trans rfl
  have gBf : w2.frozen? ⟨B, 0, none⟩ = false := frozen_of_row w2 B _ _ _ gB
  obtain ⟨a0, a1, a2, fa⟩ := letter_cells (F3.heap (heap_alloc_new w1 (.cells #[.int .i64 f, .int .i64 t, .slice q' m c'] 27)) (by omega))
  obtain ⟨b0, b1, b2, fb⟩ := letter_cells (F3.heap ((Fr.alloc w1 (.cells #[.int .i64 f, .int .i64 t, .slice q' m c'] 27)).heap HG1.out (fun h => h)) (by omega))
  have nB1 : ¬ B = w1.heap.size := by omega
  have nB2 : ¬ B = w.heap.size := by omega
  have n12 : ¬ w.heap.size = w1.heap.size := by omega
  have HF3 := Lib.hid F3
  have HGB := Lib.hid gB
  have HG3 := Lib.hid g3
  have HS3 := Lib.hid s3
  have HT3 := Lib.hid t3
  clear F3 gB g3 s3 t3 hw
  go_wp2_with fail
  obtain ⟨v1, hv1⟩ : ∃ v1, v1 = w2.setCell ⟨B, 0, none⟩ (.slice (some ⟨g, 0, none⟩) (n - 1) cap) := ⟨_, rfl⟩
  have F4 : Fr w2 v1 (fun k => k = B) := by rw [hv1]; exact Fr.setCell _ _ _
  have GB : v1.heap[B]? = some (.cells #[.slice (some ⟨g, 0, none⟩) (n - 1) cap] 47 (0, 0)) := by rw [hv1, heap_setCell_same w2 B 0 _ _ _ HGB.out]; rfl
  rw [← hv1]
  have F5 : Fr v1 (((v1.setCell ⟨w.heap.size, 0, none⟩ (.int .i64 f)).setCell ⟨w.heap.size, 1, none⟩ (.int .i64 t)).setCell ⟨w.heap.size, 2, none⟩ (.slice q' m c')) (fun k => k = w.heap.size) :=
    (((Fr.setCell v1 ⟨w.heap.size, 0, none⟩ (.int .i64 f))).set ⟨w.heap.size, 1, none⟩ (.int .i64 t) rfl).set ⟨w.heap.size, 2, none⟩ (.slice q' m c') rfl
  have b0' : v1.cell? ⟨w.heap.size, 0, none⟩ = some (.int .i64 0) := F4.cell b0 (fun e => nB2 e.symm)
  have b1' : v1.cell? ⟨w.heap.size, 1, none⟩ = some (.int .i64 0) := F4.cell b1 (fun e => nB2 e.symm)
  have b2' : v1.cell? ⟨w.heap.size, 2, none⟩ = some (.slice none 0 0) := F4.cell b2 (fun e => nB2 e.symm)
  have P : TakePost w B base (some ⟨g, 0, none⟩) n cap ls k ⟨f, t, q, m, c, bs⟩ (.returned (.tuple #[.agg #[.int .i64 f, .int .i64 t, .slice q' m c'], .bool true])) (((v1.setCell ⟨w.heap.size, 0, none⟩ (.int .i64 f)).setCell ⟨w.heap.size, 1, none⟩ (.int .i64 t)).setCell ⟨w.heap.size, 2, none⟩ (.slice q' m c')) := by
    revert F5
    generalize (((v1.setCell ⟨w.heap.size, 0, none⟩ (.int .i64 f)).setCell ⟨w.heap.size, 1, none⟩ (.int .i64 t)).setCell ⟨w.heap.size, 2, none⟩ (.slice q' m c')) = wf
    intro F5
    have A1 : Fr w1 wf (fun k => k = g ∨ k = B ∨ k = w.heap.size) := ((Fr.alloc w1 _).trans (HF3.out.trans (F4.trans F5))).mono (by simp)
    have A0 : Fr w wf (fun k => k = B ∨ some k = blk (some ⟨g, 0, none⟩)) := (HF1.out.trans A1).mono (by
      rintro k hk (h | h | h | h)
      · exact h.elim
      · right; rw [h]; rfl
      · left; exact h
      · omega)
    refine ⟨q', c', rfl, (H1.out.fr A1 ?_).base (by simp), ⟨F5.heap GB nB2, ⟨?_, .inr ⟨g, cap, cur', rfl, hb, F5.heap (F4.heap HG3.out (fun e => hBg e.symm)) (by omega), by omega, hcm, HS3.out, ?_⟩⟩, ?_, ?_⟩, A0⟩
    · intro k' hk' e
      have := (H1.out.lt k' hk').1
      simp at this
      omega
    · rw [flatMap_len, List.length_eraseIdx_of_lt hpl, HH.out.len]
    · rw [HT3.out, flatMap_erase _ _ hpl]
    · rw [List.length_eraseIdx_of_lt hpl, HH.out.len]
    · intro x hx
      have hx' := List.mem_of_mem_eraseIdx hx
      refine (HH.out.own x hx').fr A0 ?_
      intro k' hk'
      have := HH.out.lblk hx' hk'
      rintro (e | e)
      · exact this.2.1 e
      · exact this.2.2 e
  refine bodyPost_ret (v := .tuple #[.agg #[.int .i64 f, .int .i64 t, .slice q' m c'], .bool true]) (by simp [results, Try.results9, go_sem, b0', b1', b2']) rfl P
end Go.Proofs.Ythnachjkjhclpaa
