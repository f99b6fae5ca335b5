/- The reference's Net; the contract of its Send. -/
import Derived.Test.YthnachjkjhclpaaNetRef
namespace Go.Proofs.Ythnachjkjhclpaa
open Go.RowKit
set_option linter.unusedVariables false
set_option linter.unusedSimpArgs false

/-- The reference's Net in block R: the letters ls; their bytes lie below base. -/
structure RefAt (w : World) (R base : Nat) (p : Option Addr) (n cap : Nat) (ls : List Lt) : Prop where
  cells : w.heap[R]? = some (.cells #[.slice p n cap] 40 (0, 0))
  row : w.ownsRow base 27 3 (.slice p n cap) n (ls.flatMap Lt.cells)
  len : ls.length = n
  ok : ∀ l ∈ ls, l.Ok w
  low : ∀ l ∈ ls, 0 < l.m → ∀ a, l.q = some a → a.block < base

theorem RefAt.cell {w : World} {R base : Nat} {p : Option Addr} {n cap : Nat} {ls : List Lt} (h : RefAt w R base p n cap ls) : w.cell? ⟨R, 0, none⟩ = some (.slice p n cap) := by rw [cell_of_row w R _ _ _ _ h.cells]; rfl
theorem RefAt.fr {w w' : World} {R base : Nat} {p : Option Addr} {n cap : Nat} {ls : List Lt} {T : Nat → Prop} (h : RefAt w R base p n cap ls) (hf : Fr w w' T) (hR : ¬ T R) (hp : ∀ k, blk p = some k → ¬ T k) (hl : ∀ k, k < base → ¬ T k) : RefAt w' R base p n cap ls :=
  ⟨hf.heap h.cells hR, ownsRow_fr h.row hf hp, h.len, fun l hm => ⟨(h.ok l hm).src.fr hf (fun hpos a ha => hl _ (h.low l hm hpos a ha)), (h.ok l hm).nil⟩, h.low⟩
theorem RefAt.nblk {w : World} {B base : Nat} {p : Option Addr} {n cap : Nat} {ls : List Lt} (h : RefAt w B base p n cap ls) : ¬ some B = blk p := by
  intro e
  obtain ⟨_, cur, hc⟩ := ownsRow_elem h.row B e.symm
  rw [h.cells] at hc
  simp at hc
theorem RefAt.pblk {w : World} {B base : Nat} {p : Option Addr} {n cap : Nat} {ls : List Lt} (h : RefAt w B base p n cap ls) : ∀ k, blk p = some k → base ≤ k ∧ k < w.heap.size := by
  intro k e
  obtain ⟨hb, cur, hc⟩ := ownsRow_elem h.row k e
  exact ⟨hb, (Array.getElem?_eq_some_iff.1 hc).1⟩

def RefSendPost (w : World) (R base : Nat) (p : Option Addr) (n : Nat) (ls : List Lt) (l : Lt) (e : Ending) (w' : World) : Prop :=
  ∃ p' cap', e = .returned (.bool true) ∧ RefAt w' R base p' (n + 1) cap' (ls ++ [l]) ∧ Fr w w' (fun k => k = R ∨ some k = blk p) ∧ (∀ k, blk p' = some k → blk p = some k ∨ w.heap.size ≤ k)

set_option maxHeartbeats 800000 in
theorem refSend_no (R base : Nat) (p : Option Addr) (n cap : Nat) (ls : List Lt) (l : Lt) (w : World) (h : RefAt w R base p n cap ls) (hno : 200 ≤ (n : Int) ∨ 16384 < (l.m : Int)) :
    Calls Try.prog 17 #[.pointer (some ⟨R, 0, none⟩), .agg #[.int .i64 l.f, .int .i64 l.t, .slice l.q l.m l.c]] w fun e w' => e = .returned (.bool false) ∧ Below w.heap.size w w' := by
  obtain ⟨f, t, q, m, c, bs⟩ := l
  simp only at hno ⊢
  have hBlt : R < w.heap.size := (Array.getElem?_eq_some_iff.1 h.cells).1
  have c0 := h.cell
  clear h
  by_cases h1 : 200 ≤ (n : Int)
  · clear hno
    go_enter Try.func17, Try.ntmps17
    go_wp2
    go_ret
    exact ⟨rfl, below_alloc _ _⟩
  · have h2 : 16384 < (m : Int) := by omega
    clear hno
    go_enter Try.func17, Try.ntmps17
    go_wp2
    go_ret
    exact ⟨rfl, below_alloc _ _⟩

theorem refSend_done {w w1 w2 : World} {R base : Nat} {p : Option Addr} {n cap : Nat} {ls : List Lt} {l : Lt} (h : RefAt w R base p n cap ls) (hl : l.Ok w) (hlow : 0 < l.m → ∀ a, l.q = some a → a.block < base) (hbase : base ≤ w.heap.size) (hR : base ≤ R) (F : Fr w w1 (fun _ => False)) {o' : Obj} {p' : Option Addr} {cap' : Nat}
    (hown : w2.ownsRow base 27 3 (.slice p' (n + 1) cap') (n + 1) (ls.flatMap Lt.cells ++ l.cells)) (hg : (w1.alloc o').grownBy w2 (blk p)) (hk : ∀ k, blk p' = some k → blk p = some k ∨ (w1.alloc o').heap.size ≤ k) :
    RefSendPost w R base p n ls l (.returned (.bool true)) (w2.setCell ⟨R, 0, none⟩ (.slice p' (n + 1) cap')) := by
  have hBlt : R < w.heap.size := (Array.getElem?_eq_some_iff.1 h.cells).1
  have s1 := F.size
  have F1 : Fr w1 w2 (fun k => some k = blk p) := ((Fr.alloc w1 o').trans (Fr.of_grown hg)).mono (by simp)
  have F2 : Fr w w2 (fun k => some k = blk p) := (F.trans F1).mono (by simp)
  have F4 : Fr w (w2.setCell ⟨R, 0, none⟩ (.slice p' (n + 1) cap')) (fun k => k = R ∨ some k = blk p) := (F2.mono (fun _ _ h => .inr h)).set _ _ (.inl rfl)
  have G : w2.heap[R]? = some (.cells #[.slice p n cap] 40 (0, 0)) := F2.heap h.cells h.nblk
  have hp' : ∀ k, blk p' = some k → k ≠ R := by
    intro k hk' e
    subst e
    rcases hk _ hk' with e | e
    · exact h.nblk e.symm
    · simp at e; omega
  have hT : ∀ k, k < base → ¬ (k = R ∨ some k = blk p) := fun k hk' e => by
    rcases e with e | e
    · omega
    · have := (h.pblk k e.symm).1; omega
  refine ⟨p', cap', rfl, ⟨?_, ?_, ?_, ?_, ?_⟩, F4, ?_⟩
  · rw [heap_setCell_same w2 R 0 _ _ _ G]; rfl
  · refine ownsRow_fr (T := fun k => k = R) ?_ (Fr.setCell w2 _ _) hp'
    rw [List.flatMap_append]
    simpa using hown
  · simp [h.len]
  · intro x hx
    rcases List.mem_append.1 hx with hx | hx
    · exact ⟨(h.ok x hx).src.fr F4 (fun hpos a ha => hT _ (h.low x hx hpos a ha)), (h.ok x hx).nil⟩
    · simp only [List.mem_singleton] at hx
      subst hx
      exact ⟨hl.src.fr F4 (fun hpos a ha => hT _ (hlow hpos a ha)), hl.nil⟩
  · intro x hx
    rcases List.mem_append.1 hx with hx | hx
    · exact h.low x hx
    · simp only [List.mem_singleton] at hx
      subst hx
      exact hlow
  · intro k hk'
    rcases hk k hk' with e | e
    · exact .inl e
    · right; simp at e; omega

set_option maxRecDepth 100000 in
set_option maxHeartbeats 1600000 in
theorem refSend_ok (R base : Nat) (p : Option Addr) (n cap : Nat) (ls : List Lt) (l : Lt) (w : World) (h : RefAt w R base p n cap ls) (hl : l.Ok w) (hlow : 0 < l.m → ∀ a, l.q = some a → a.block < base) (hn : (n : Int) < 200) (hm : (l.m : Int) ≤ 16384) (hbase : base ≤ w.heap.size) (hR : base ≤ R) :
    Calls Try.prog 17 #[.pointer (some ⟨R, 0, none⟩), .agg #[.int .i64 l.f, .int .i64 l.t, .slice l.q l.m l.c]] w (RefSendPost w R base p n ls l) := by
  obtain ⟨f, t, q, m, c, bs⟩ := l
  have hBlt : R < w.heap.size := (Array.getElem?_eq_some_iff.1 h.cells).1
  have c0 := h.cell
  have F : Fr w (w.alloc (.cells #[.int .i64 f, .int .i64 t, .slice q m c] 27)).drew (fun _ => False) := ((Fr.alloc w _).trans (Fr.drew _)).mono (by simp)
  have c1 := F.cell c0 (fun h => h)
  have c1' : ∀ o, ((w.alloc (.cells #[.int .i64 f, .int .i64 t, .slice q m c] 27)).drew.alloc o).cell? ⟨R, 0, none⟩ = some (.slice p n cap) := fun o => (Fr.alloc _ o).cell c1 (fun h => h)
  have R1 := Lib.hid (ownsRow_fr h.row F (fun _ _ h => h))
  simp only at hm
  have hz : (w.alloc (.cells #[.int .i64 f, .int .i64 t, .slice q m c] 27)).drew.heap.size = w.heap.size + 1 := by show (w.alloc _).heap.size = _; simp
  have hnw : ∀ j u, ([.int .i64 f, .int .i64 t, .slice q m c] : List Value)[j]? = some u → ((w.alloc (.cells #[.int .i64 f, .int .i64 t, .slice q m c] 27)).drew.alloc (.cells #[.int .i64 f, .int .i64 t, .slice q m c] 27)).cell? ((⟨w.heap.size + 1, 0, none⟩ : Addr).add j) = some u := by
    have := news_one (w.alloc (.cells #[.int .i64 f, .int .i64 t, .slice q m c] 27)).drew [.int .i64 f, .int .i64 t, .slice q m c] 27
    rw [hz] at this
    exact this
  have HNW := Lib.hid hnw
  clear hnw hz
  have HF := Lib.hid F
  have H := Lib.hid h
  have HL := Lib.hid hl
  have HLOW := Lib.hid hlow
  clear hl h F hlow
  go_enter Try.func17, Try.ntmps17
  go_wp2_with fail
  go_region_law (refine step_append_row rfl (.tmp 21) (.tmp 23) 34 rfl base 27 3 40 _ Try.underlying34 Try.info27 rfl (by decide) (by decide) p n cap (ls.flatMap Lt.cells) rfl (ownsRow_fr R1.out (Fr.alloc _ _) (fun _ _ h => h)) ⟨w.heap.size + 1, 0, none⟩ 1 1 rfl [.int .i64 f, .int .i64 t, .slice q m c] rfl HNW.out (by simp [Value.oneCell']) (by omega) (Nat.le_trans hbase (Nat.le_trans HF.out.size (by simp))) ?_; intro p' cap' w2 hown hg hk; have G : w2.heap[R]? = some (.cells #[.slice p n cap] 40 (0, 0)) := (Fr.of_grown hg).heap ((alloc_Fr' _ _ HF.out).heap H.out.cells (fun h => h)) H.out.nblk; have c2 : w2.cell? ⟨R, 0, none⟩ = some (.slice p n cap) := (cell_of_row w2 R _ _ _ _ G).trans rfl; have f2 : w2.frozen? ⟨R, 0, none⟩ = false := frozen_of_row w2 R _ _ _ G; have HO := Lib.hid hown; have HG := Lib.hid hg; clear hown hg G)
  all_goals
    go_wp2
    go_ret
    exact refSend_done (l := ⟨f, t, q, m, c, bs⟩) H.out HL.out HLOW.out hbase hR HF.out HO.out HG.out hk.out
end Go.Proofs.Ythnachjkjhclpaa
