/- The contracts of package net's smallest functions. -/
import Derived.Test.YthnachjkjhclpaaClone
import Derived.Deep.RegionHeld3
import Derived.Deep.QuietTactic
import Derived.BigQuiet
namespace Go.Proofs.Ythnachjkjhclpaa
open Go.RowKit
set_option linter.unusedVariables false
set_option linter.unusedSimpArgs false

/-- A letter as a value, and the bytes that it leads to. -/
structure Lt where
  f : Int
  t : Int
  q : Option Addr
  m : Nat
  c : Nat
  bs : List Int
def Lt.cells (l : Lt) : List Value := [.int .i64 l.f, .int .i64 l.t, .slice l.q l.m l.c]
def Lt.val (l : Lt) : Value := .agg #[.int .i64 l.f, .int .i64 l.t, .slice l.q l.m l.c]
/-- The letter's bytes lie in the world w. -/
structure Lt.Ok (l : Lt) (w : World) : Prop where
  src : Src w l.q l.m l.bs
  nil : l.q = none → l.m = 0 ∧ l.c = 0

set_option maxHeartbeats 400000 in
theorem long_any (q : Option Addr) (m c : Nat) (w : World) : Calls Try.prog 21 #[.slice q m c] w fun e w' => e = .returned (.bool (decide (16384 < (m : Int)))) ∧ w = w' := by
  go_enter Try.func21, Try.ntmps21
  go_wp2
  go_ret
  exact ⟨rfl, rfl⟩

set_option maxHeartbeats 400000 in
theorem new_any (w : World) : Calls Try.prog 7 #[] w fun e w' => e = .returned (.pointer (some ⟨w.heap.size, 0, none⟩)) ∧ w.alloc (.cells #[.slice none 0 0] 47) = w' := by
  go_enter Try.func7, Try.ntmps7
  go_wp2
  go_ret
  exact ⟨rfl, rfl⟩

/-- A copied letter. -/
def CopyPost (w : World) (l : Lt) (e : Ending) (w' : World) : Prop :=
  ∃ q' c', e = .returned (Lt.val ⟨l.f, l.t, q', l.m, c', l.bs⟩) ∧ Own w' w.heap.size q' l.m c' l.bs ∧ Below w.heap.size w w'

set_option maxHeartbeats 800000 in
theorem copied_any (l : Lt) (w : World) (h : l.Ok w) (hm : l.m ≤ 140737488355328) : Calls Try.prog 22 #[.agg #[.int .i64 l.f, .int .i64 l.t, .slice l.q l.m l.c]] w (CopyPost w l) := by
  obtain ⟨f, t, q, m, c, bs⟩ := l
  obtain ⟨hs, hq⟩ := h
  simp only at hs hq hm ⊢
  obtain ⟨W, hW⟩ : ∃ W, W = (w.alloc (.cells #[.int .i64 f, .int .i64 t, .slice q m c] 27)).alloc (.cells #[.int .i64 0, .int .i64 0, .slice none 0 0] 27) := ⟨_, rfl⟩
  have hbW : Below w.heap.size w W := by rw [hW]; exact (below_alloc w _).trans ((below_alloc _ _).mono (by simp))
  have hz : W.heap.size = w.heap.size + 2 := by rw [hW]; simp
  have g0 : W.heap[w.heap.size]? = some (.cells #[.int .i64 f, .int .i64 t, .slice q m c] 27 (0, 0)) := by rw [hW]; exact heap_alloc2_old w _ _
  have g1 : W.heap[w.heap.size + 1]? = some (.cells #[.int .i64 0, .int .i64 0, .slice none 0 0] 27 (0, 0)) := by rw [hW]; exact heap_alloc2_new w _ _
  have K := clone_any q m c bs W (hs.below hbW) hq hm
  rw [hW] at K
  have HK := Lib.hid K
  have HW := Lib.hid hW
  have HG0 := Lib.hid g0
  have HG1 := Lib.hid g1
  have HB := Lib.hid hbW
  have HZ := Lib.hid hz
  clear K hW g0 g1 hbW hz hs hq
  go_enter Try.func22, Try.ntmps22
  go_wp2_with fail
  refine HK.out.mono ?_
  rintro e w1 ⟨q', c', rfl, h1, h2⟩
  rw [← HW.out] at h1 h2
  have k0 : w1.heap[w.heap.size]? = some (.cells #[.int .i64 f, .int .i64 t, .slice q m c] 27 (0, 0)) := (h2.block _ (by rw [HZ.out]; omega)).trans HG0.out
  have k1 : w1.heap[w.heap.size + 1]? = some (.cells #[.int .i64 0, .int .i64 0, .slice none 0 0] 27 (0, 0)) := (h2.block _ (by rw [HZ.out]; omega)).trans HG1.out
  have a0 : w1.cell? ⟨w.heap.size, 0, none⟩ = some (.int .i64 f) := by rw [cell_of_row w1 _ _ _ _ _ k0]; rfl
  have a1 : w1.cell? ⟨w.heap.size, 1, none⟩ = some (.int .i64 t) := by rw [cell_of_row w1 _ _ _ _ _ k0]; rfl
  have a2 : w1.cell? ⟨w.heap.size, 2, none⟩ = some (.slice q m c) := by rw [cell_of_row w1 _ _ _ _ _ k0]; rfl
  have b0 : w1.cell? ⟨w.heap.size + 1, 0, none⟩ = some (.int .i64 0) := by rw [cell_of_row w1 _ _ _ _ _ k1]; rfl
  have b1 : w1.cell? ⟨w.heap.size + 1, 1, none⟩ = some (.int .i64 0) := by rw [cell_of_row w1 _ _ _ _ _ k1]; rfl
  have b2 : w1.cell? ⟨w.heap.size + 1, 2, none⟩ = some (.slice none 0 0) := by rw [cell_of_row w1 _ _ _ _ _ k1]; rfl
  have fa : ∀ i, w1.frozen? ⟨w.heap.size, i, none⟩ = false := fun i => frozen_of_row w1 _ i _ _ k0
  have fb : ∀ i, w1.frozen? ⟨w.heap.size + 1, i, none⟩ = false := fun i => frozen_of_row w1 _ i _ _ k1
  have HK0 := Lib.hid k0
  have HK1 := Lib.hid k1
  have H1 := Lib.hid h1
  have H2 := Lib.hid h2
  clear k0 k1 h1 h2
  go_wp2_with fail
  have z2 := H2.out.size
  have zz := HZ.out
  have F : Fr w1 ((((w1.setCell ⟨w.heap.size, 2, none⟩ (.slice q' m c')).setCell ⟨w.heap.size + 1, 0, none⟩ (.int .i64 f)).setCell ⟨w.heap.size + 1, 1, none⟩ (.int .i64 t)).setCell ⟨w.heap.size + 1, 2, none⟩ (.slice q' m c')) (fun k => k = w.heap.size ∨ k = w.heap.size + 1) :=
    ((((Fr.setCell w1 ⟨w.heap.size, 2, none⟩ _).mono (fun _ _ h => .inl h)).set _ _ (.inr rfl)).set _ _ (.inr rfl)).set _ _ (.inr rfl)
  refine bodyPost_ret (v := .agg #[.int .i64 f, .int .i64 t, .slice q' m c']) (by simp [results, Try.results22, go_sem, b0, b1, b2]) rfl ⟨q', c', rfl, (H1.out.fr F ?_).base (by omega), HB.out.trans ((H2.out.mono (by omega)).trans (F.below (by omega) ?_))⟩
  · intro k hk e
    have := (H1.out.lt k hk).1
    omega
  · intro k hk e
    omega

theorem Try.info27 : (Try.prog.info? 27).map (fun i => (i.zero, i.size, i.bytes)) = some (some (.agg #[.int .i64 0, .int .i64 0, .slice none 0 0]), 3, 40) := by kernel_rfl

/-- A net.Net in block B, with the letters ls under way. -/
structure NetAt (w : World) (B base : Nat) (p : Option Addr) (n cap : Nat) (ls : List Lt) : Prop where
  cells : w.heap[B]? = some (.cells #[.slice p n cap] 47 (0, 0))
  row : w.ownsRow base 27 3 (.slice p n cap) n (ls.flatMap Lt.cells)
  len : ls.length = n
  own : ∀ l ∈ ls, Own w base l.q l.m l.c l.bs

theorem ownsRow_fr {w w' : World} {base : Nat} {e : TypeId} {sz : Nat} {p : Option Addr} {n cap : Nat} {xs : List Value} {T : Nat → Prop} (h : w.ownsRow base e sz (.slice p n cap) n xs) (hf : Fr w w' T) (ht : ∀ k, blk p = some k → ¬ T k) : w'.ownsRow base e sz (.slice p n cap) n xs := by
  refine ⟨h.1, ?_⟩
  rcases h.2 with h' | ⟨g, cap', cur, h', hb, hg, r⟩
  · exact .inl h'
  · have e := h'
    simp only [Value.slice.injEq, true_and] at e
    obtain ⟨rfl, rfl⟩ := e
    exact .inr ⟨g, cap, cur, rfl, hb, hf.heap hg (ht g rfl), r⟩
theorem ownsRow_elem {w : World} {base : Nat} {e : TypeId} {sz : Nat} {p : Option Addr} {n cap : Nat} {xs : List Value} (h : w.ownsRow base e sz (.slice p n cap) n xs) : ∀ k, blk p = some k → base ≤ k ∧ ∃ cur, w.heap[k]? = some (.cells cur e (0, 0)) := by
  intro k hk
  rcases h.2 with ⟨h', _⟩ | ⟨g, cap', cur, h', hb, hg, r⟩
  · simp only [Value.slice.injEq] at h'
    rw [h'.1] at hk; cases hk
  · simp only [Value.slice.injEq, true_and] at h'
    obtain ⟨rfl, rfl⟩ := h'
    simp [blk] at hk; subst hk
    exact ⟨hb, cur, hg⟩
theorem NetAt.fr {w w' : World} {B base : Nat} {p : Option Addr} {n cap : Nat} {ls : List Lt} {T : Nat → Prop} (h : NetAt w B base p n cap ls) (hf : Fr w w' T) (hB : ¬ T B) (hp : ∀ k, blk p = some k → ¬ T k) (hl : ∀ l ∈ ls, ∀ k, blk l.q = some k → ¬ T k) : NetAt w' B base p n cap ls :=
  ⟨hf.heap h.cells hB, ownsRow_fr h.row hf hp, h.len, fun l hm => (h.own l hm).fr hf (hl l hm)⟩

/-- What a sending that is done leaves. -/
def SendPost (w : World) (B base : Nat) (p : Option Addr) (n : Nat) (ls : List Lt) (l : Lt) (e : Ending) (w' : World) : Prop :=
  ∃ p' cap' q' c', e = .returned (.bool true) ∧ NetAt w' B base p' (n + 1) cap' (ls ++ [⟨l.f, l.t, q', l.m, c', l.bs⟩]) ∧ Fr w w' (fun k => k = B ∨ some k = blk p) ∧ (∀ k, blk p' = some k → blk p = some k ∨ w.heap.size ≤ k) ∧
    (∀ k, blk q' = some k → w.heap.size ≤ k)

set_option maxHeartbeats 800000 in
theorem send_no (B base : Nat) (p : Option Addr) (n cap : Nat) (ls : List Lt) (l : Lt) (w : World) (h : NetAt w B base p n cap ls) (hno : 200 ≤ (n : Int) ∨ 16384 < (l.m : Int)) :
    Calls Try.prog 8 #[.pointer (some ⟨B, 0, none⟩), .agg #[.int .i64 l.f, .int .i64 l.t, .slice l.q l.m l.c]] w fun e w' => e = .returned (.bool false) ∧ Below w.heap.size w w' := by
  obtain ⟨f, t, q, m, c, bs⟩ := l
  simp only at hno ⊢
  have hBlt : B < w.heap.size := (Array.getElem?_eq_some_iff.1 h.cells).1
  have c0 : w.cell? ⟨B, 0, none⟩ = some (.slice p n cap) := by rw [cell_of_row w B _ _ _ _ h.cells]; rfl
  clear h
  by_cases h1 : 200 ≤ (n : Int)
  · clear hno
    go_enter Try.func8, Try.ntmps8
    go_wp2
    go_ret
    exact ⟨rfl, below_alloc _ _⟩
  · have h2 : 16384 < (m : Int) := by omega
    clear hno
    go_enter Try.func8, Try.ntmps8
    go_wp2_with (go_at_call 21; refine (long_any _ _ _ _).mono ?_; rintro e w' ⟨rfl, rfl⟩)
    go_ret
    exact ⟨rfl, below_alloc _ _⟩

theorem fr_after {w w1 : World} {o : Obj} (h : Below (w.alloc o).drew.heap.size (w.alloc o).drew w1) : Fr w w1 (fun _ => False) :=
  ((Fr.alloc w o).trans ((Fr.drew _).trans (Fr.of_below h))).mono (by simp)
theorem NetAt.nblk {w : World} {B base : Nat} {p : Option Addr} {n cap : Nat} {ls : List Lt} (h : NetAt w B base p n cap ls) : ¬ some B = blk p := by
  intro e
  obtain ⟨_, cur, hc⟩ := ownsRow_elem h.row B e.symm
  rw [h.cells] at hc
  simp at hc
theorem NetAt.lblk {w : World} {B base : Nat} {p : Option Addr} {n cap : Nat} {ls : List Lt} (h : NetAt w B base p n cap ls) {l : Lt} (hl : l ∈ ls) {k : Nat} (hk : blk l.q = some k) : k < w.heap.size ∧ k ≠ B ∧ ¬ some k = blk p := by
  obtain ⟨cur, hc⟩ := (h.own l hl).elem k hk
  refine ⟨((h.own l hl).lt k hk).2, ?_, ?_⟩
  · rintro rfl
    rw [h.cells] at hc; simp at hc
  · intro e
    obtain ⟨_, cur', hc'⟩ := ownsRow_elem h.row k e.symm
    rw [hc] at hc'; simp at hc'
theorem alloc_Fr' (w : World) (o : Obj) {v : World} {T : Nat → Prop} (h : Fr v w T) : Fr v (w.alloc o) T := (h.trans (Fr.alloc w o)).mono (by intro k _ h; rcases h with h | h; exact h; exact h.elim)

theorem send_done {w w1 w2 : World} {B base : Nat} {p : Option Addr} {n cap : Nat} {ls : List Lt} {l : Lt} (h : NetAt w B base p n cap ls) (hbase : base ≤ w.heap.size) (F : Fr w w1 (fun _ => False)) {o o' : Obj} {q' : Option Addr} {c' : Nat}
    (h1 : Own w1 (w.alloc o).drew.heap.size q' l.m c' l.bs) {p' : Option Addr} {cap' : Nat}
    (hown : w2.ownsRow base 27 3 (.slice p' (n + 1) cap') (n + 1) (ls.flatMap Lt.cells ++ [.int .i64 l.f, .int .i64 l.t, .slice q' l.m c'])) (hg : (w1.alloc o').grownBy w2 (blk p)) (hk : ∀ k, blk p' = some k → blk p = some k ∨ (w1.alloc o').heap.size ≤ k) :
    SendPost w B base p n ls l (.returned (.bool true)) (w2.setCell ⟨B, 0, none⟩ (.slice p' (n + 1) cap')) := by
  have hBlt : B < w.heap.size := (Array.getElem?_eq_some_iff.1 h.cells).1
  have hz : (w.alloc o).drew.heap.size = w.heap.size + 1 := by show (w.alloc o).heap.size = _; simp
  have s1 := F.size
  have F1 : Fr w1 w2 (fun k => some k = blk p) := ((Fr.alloc w1 o').trans (Fr.of_grown hg)).mono (by simp)
  have F2 : Fr w w2 (fun k => some k = blk p) := (F.trans F1).mono (by simp)
  have F3 : Fr w1 (w2.setCell ⟨B, 0, none⟩ (.slice p' (n + 1) cap')) (fun k => k = B ∨ some k = blk p) := (F1.mono (fun _ _ h => .inr h)).set _ _ (.inl rfl)
  have F4 : Fr w (w2.setCell ⟨B, 0, none⟩ (.slice p' (n + 1) cap')) (fun k => k = B ∨ some k = blk p) := (F2.mono (fun _ _ h => .inr h)).set _ _ (.inl rfl)
  have G : w2.heap[B]? = some (.cells #[.slice p n cap] 47 (0, 0)) := F2.heap h.cells h.nblk
  have hp' : ∀ k, blk p' = some k → k ≠ B := by
    intro k hk' e
    subst e
    rcases hk _ hk' with e | e
    · exact h.nblk e.symm
    · simp at e; omega
  have hpl : ∀ k, blk p = some k → k < w.heap.size := by
    intro k e
    obtain ⟨_, cur, hc⟩ := ownsRow_elem h.row k e
    exact (Array.getElem?_eq_some_iff.1 hc).1
  refine ⟨p', cap', q', c', rfl, ⟨?_, ?_, ?_, ?_⟩, F4, ?_, ?_⟩
  · rw [heap_setCell_same w2 B 0 _ _ _ G]; rfl
  · refine ownsRow_fr (T := fun k => k = B) ?_ (Fr.setCell w2 _ _) hp'
    rw [List.flatMap_append]
    exact hown
  · simp [h.len]
  · intro x hx
    rcases List.mem_append.1 hx with hx | hx
    · refine (h.own x hx).fr F4 ?_
      intro k hk'
      have := h.lblk hx hk'
      rintro (e | e)
      · exact this.2.1 e
      · exact this.2.2 e
    · simp only [List.mem_singleton] at hx
      subst hx
      refine (h1.base (by omega)).fr F3 ?_
      intro k hk'
      have := (h1.lt k hk').1
      rintro (e | e)
      · omega
      · have := hpl k e.symm; omega
  · intro k hk'
    rcases hk k hk' with e | e
    · exact .inl e
    · right; simp at e; omega
  · intro k hk'
    have := (h1.lt k hk').1
    omega

set_option maxRecDepth 100000 in
set_option maxHeartbeats 1600000 in
theorem send_ok (B base : Nat) (p : Option Addr) (n cap : Nat) (ls : List Lt) (l : Lt) (w : World) (h : NetAt w B base p n cap ls) (hl : l.Ok w) (hn : (n : Int) < 200) (hm : (l.m : Int) ≤ 16384) (hbase : base ≤ w.heap.size) :
    Calls Try.prog 8 #[.pointer (some ⟨B, 0, none⟩), .agg #[.int .i64 l.f, .int .i64 l.t, .slice l.q l.m l.c]] w (SendPost w B base p n ls l) := by
  obtain ⟨f, t, q, m, c, bs⟩ := l
  have hBlt : B < w.heap.size := (Array.getElem?_eq_some_iff.1 h.cells).1
  have c0 : w.cell? ⟨B, 0, none⟩ = some (.slice p n cap) := by rw [cell_of_row w B _ _ _ _ h.cells]; rfl
  have hbW : Below w.heap.size w (w.alloc (.cells #[.int .i64 f, .int .i64 t, .slice q m c] 27)) := below_alloc w _
  have K := copied_any ⟨f, t, q, m, c, bs⟩ (w.alloc (.cells #[.int .i64 f, .int .i64 t, .slice q m c] 27)).drew ⟨(hl.src.below hbW).drew, hl.nil⟩ (by simp only at hm ⊢; omega)
  have HK := Lib.hid K
  simp only at hm hl
  have HL := Lib.hid hl
  have H := Lib.hid h
  clear K hl h hbW
  go_enter Try.func8, Try.ntmps8
  go_wp2_with (go_at_call 21; refine (long_any _ _ _ _).mono ?_; rintro e w' ⟨rfl, rfl⟩)
  go_region_law (first
    | (go_simp; go_at_call 22; refine HK.out.mono ?_; rintro e w1 ⟨q', c', rfl, h1, h2⟩; have F := fr_after h2; have c1 : w1.cell? ⟨B, 0, none⟩ = some (.slice p n cap) := F.cell c0 (fun h => h); have c1' : ∀ o, (w1.alloc o).cell? ⟨B, 0, none⟩ = some (.slice p n cap) := fun o => (Fr.alloc w1 o).cell c1 (fun h => h); have R1 := Lib.hid (ownsRow_fr H.out.row F (fun _ _ h => h)); have HF := Lib.hid F; have H1 := Lib.hid h1; clear h1 h2 F; simp only [Lt.val])
    | (refine step_append_row rfl (.tmp 20) (.tmp 23) 34 rfl base 27 3 40 _ Try.underlying34 Try.info27 rfl (by decide) (by decide) p n cap (ls.flatMap Lt.cells) rfl (ownsRow_fr R1.out (Fr.alloc _ _) (fun _ _ h => h)) _ 1 1 rfl [.int .i64 f, .int .i64 t, .slice q' m c'] rfl (news_one _ _ _) (by simp [Value.oneCell']) (by omega) (Nat.le_trans hbase (Nat.le_trans HF.out.size (by simp))) ?_; intro p' cap' w2 hown hg hk; have G : w2.heap[B]? = some (.cells #[.slice p n cap] 47 (0, 0)) := (Fr.of_grown hg).heap ((alloc_Fr' _ _ HF.out).heap H.out.cells (fun h => h)) H.out.nblk; have c2 : w2.cell? ⟨B, 0, none⟩ = some (.slice p n cap) := (cell_of_row w2 B _ _ _ _ G).trans rfl; have f2 : w2.frozen? ⟨B, 0, none⟩ = false := frozen_of_row w2 B _ _ _ G; have HO := Lib.hid hown; have HG := Lib.hid hg; clear hown hg G))
  all_goals
    go_wp2
    go_ret
    exact send_done (l := ⟨f, t, q, m, c, bs⟩) H.out hbase HF.out H1.out HO.out HG.out hk.out
end Go.Proofs.Ythnachjkjhclpaa
