/- The two nets of NetPlays, side by side; what holds in its loop. Plain laws. -/
import Derived.Test.YthnachjkjhclpaaNetPlaysWalk
namespace Go.Proofs.Ythnachjkjhclpaa
open Go.RowKit
set_option linter.unusedVariables false
set_option linter.unusedSimpArgs false

/-- The program's net in block B and the reference's in block R. -/
structure Pair (w : World) (base B R : Nat) (p q : Option Addr) (n n' cap cap' : Nat) (ls ls' : List Lt) : Prop where
  net : NetAt w B base p n cap ls
  ref : RefAt w R base q n' cap' ls'
  sep : ∀ i, blk q = some i → blk p ≠ some i
  hB : base ≤ B
  hR : base ≤ R
section
variable {w w' : World} {base B R : Nat} {p q : Option Addr} {n n' cap cap' : Nat} {ls ls' : List Lt}
theorem NetAt.plt (h : NetAt w B base p n cap ls) : ∀ i, blk p = some i → base ≤ i ∧ i < w.heap.size := by
  intro i hi
  obtain ⟨a, cur, hc⟩ := ownsRow_elem h.row i hi
  exact ⟨a, (Array.getElem?_eq_some_iff.1 hc).1⟩
theorem Pair.BR (h : Pair w base B R p q n n' cap cap' ls ls') : B ≠ R := by
  rintro rfl
  have a := h.net.cells
  rw [h.ref.cells] at a
  simp at a
theorem Pair.qB (h : Pair w base B R p q n n' cap cap' ls ls') : ¬ some B = blk q := by
  intro e
  obtain ⟨_, cur, hc⟩ := ownsRow_elem h.ref.row B e.symm
  rw [h.net.cells] at hc
  simp at hc
theorem Pair.pR (h : Pair w base B R p q n n' cap cap' ls ls') : ¬ some R = blk p := by
  intro e
  obtain ⟨_, cur, hc⟩ := ownsRow_elem h.net.row R e.symm
  rw [h.ref.cells] at hc
  simp at hc
theorem Pair.Blt (h : Pair w base B R p q n n' cap cap' ls ls') : B < w.heap.size := (Array.getElem?_eq_some_iff.1 h.net.cells).1
theorem Pair.Rlt (h : Pair w base B R p q n n' cap cap' ls ls') : R < w.heap.size := (Array.getElem?_eq_some_iff.1 h.ref.cells).1
theorem Pair.lne (h : Pair w base B R p q n n' cap cap' ls ls') {l : Lt} (hl : l ∈ ls) {k : Nat} (hk : blk l.q = some k) : k ≠ R ∧ ¬ some k = blk q := by
  obtain ⟨cur, hc⟩ := (h.net.own l hl).elem k hk
  refine ⟨?_, ?_⟩
  · rintro rfl
    rw [h.ref.cells] at hc; simp at hc
  · intro e
    obtain ⟨_, cur', hc'⟩ := ownsRow_elem h.ref.row k e.symm
    rw [hc] at hc'; simp at hc'
/-- A world that only has more. -/
theorem Pair.quiet (h : Pair w base B R p q n n' cap cap' ls ls') (F : Fr w w' (fun _ => False)) : Pair w' base B R p q n n' cap cap' ls ls' :=
  ⟨h.net.fr F (fun h => h) (fun _ _ h => h) (fun _ _ _ _ h => h), h.ref.fr F (fun h => h) (fun _ _ h => h) (fun _ _ h => h), h.sep, h.hB, h.hR⟩
/-- The program's net goes on. -/
theorem Pair.netGo (h : Pair w base B R p q n n' cap cap' ls ls') (F : Fr w w' (fun k => k = B ∨ some k = blk p)) {p2 : Option Addr} {n2 cap2 : Nat} {ls2 : List Lt} (N : NetAt w' B base p2 n2 cap2 ls2) (hp : ∀ i, blk p2 = some i → blk p = some i ∨ w.heap.size ≤ i) : Pair w' base B R p2 q n2 n' cap2 cap' ls2 ls' := by
  refine ⟨N, h.ref.fr F ?_ ?_ ?_, ?_, h.hB, h.hR⟩
  · rintro (e | e)
    · exact h.BR e.symm
    · exact h.pR e
  · rintro k hk (e | e)
    · subst e; exact h.qB hk.symm
    · exact h.sep k hk e.symm
  · rintro k hk (e | e)
    · have := h.hB; omega
    · have := (h.net.plt k e.symm).1; omega
  · intro i hi e
    rcases hp i e with e | e
    · exact h.sep i hi e
    · have := (h.ref.pblk i hi).2; omega
/-- The reference's net goes on. -/
theorem Pair.refGo (h : Pair w base B R p q n n' cap cap' ls ls') (F : Fr w w' (fun k => k = R ∨ some k = blk q)) {q2 : Option Addr} {n2 cap2 : Nat} {ls2 : List Lt} (N : RefAt w' R base q2 n2 cap2 ls2) (hq : ∀ i, blk q2 = some i → blk q = some i ∨ w.heap.size ≤ i) : Pair w' base B R p q2 n n2 cap cap2 ls ls2 := by
  refine ⟨h.net.fr F ?_ ?_ ?_, N, ?_, h.hB, h.hR⟩
  · rintro (e | e)
    · exact h.BR e
    · exact h.qB e
  · rintro k hk (e | e)
    · subst e; exact h.pR hk.symm
    · exact h.sep k e.symm hk
  · rintro l hl k hk (e | e)
    · exact (h.lne hl hk).1 e
    · exact (h.lne hl hk).2 e
  · intro i hi e
    rcases hq i hi with e' | e'
    · exact h.sep i e' e
    · have := (h.net.plt i e).2; omega
end

/-- What holds in the loop of the calls. -/
structure PlayL (w1 : World) (B R n : Nat) (p q : Option Addr) (cap cap' : Nat) (ls ls' : List Lt) (wr : World) : Prop where
  pair : Pair wr w1.heap.size B R p q n n cap cap' ls ls'
  le : n ≤ 200
  alike : ∀ (k : Nat) (a b : Lt), ls[k]? = some a → ls'[k]? = some b → Alike a b
  few : ∀ l ∈ ls', l.m ≤ 16384
  bel : Below w1.heap.size w1 wr
theorem PlayL.fewN {w1 : World} {B R n : Nat} {p q : Option Addr} {cap cap' : Nat} {ls ls' : List Lt} {wr : World} (h : PlayL w1 B R n p q cap cap' ls ls' wr) : ∀ l ∈ ls, l.m ≤ 16384 := by
  intro l hl
  obtain ⟨k, hk, rfl⟩ := List.mem_iff_getElem.1 hl
  have e1 := h.pair.net.len
  have e2 := h.pair.ref.len
  have := h.alike k _ _ (List.getElem?_eq_getElem hk) (List.getElem?_eq_getElem (show k < ls'.length by omega))
  rw [this.2.2.1]
  exact h.few _ (List.getElem_mem _)
def PlayLoop (w1 : World) (B R : Nat) (wr : World) : Prop := ∃ n p q cap cap' ls ls', PlayL w1 B R n p q cap cap' ls ls' wr
theorem PlayLoop.start (w1 : World) : PlayLoop w1 w1.heap.size (w1.heap.size + 1) ((w1.alloc (.cells #[.slice none 0 0] 47)).alloc (.cells #[.slice none 0 0] 40)) := by
  have F1 := Fr.alloc w1 (.cells #[.slice none 0 0] 47)
  have F2 := Fr.alloc (w1.alloc (.cells #[.slice none 0 0] 47)) (.cells #[.slice none 0 0] 40)
  refine ⟨0, none, none, 0, 0, [], [], ⟨⟨(NetAt.new w1).fr F2 (fun h => h) (fun _ _ h => h) (fun _ _ _ _ h => h), ⟨?_, World.ownsRow_nil _ _ _ _, rfl, by simp, by simp⟩, by simp [blk], Nat.le_refl _, by omega⟩, by omega, by simp, by simp, ?_⟩⟩
  · have := heap_alloc_new (w1.alloc (.cells #[.slice none 0 0] 47)) (.cells #[.slice none 0 0] 40)
    rw [show (w1.alloc (.cells #[.slice none 0 0] 47)).heap.size = w1.heap.size + 1 by simp] at this
    exact this
  · exact ((F1.trans F2).below (Nat.le_refl _) (fun _ _ h => by rcases h with h | h <;> exact h))

/-- The place that the reference answers. -/
def refIx (i : Int) (n : Nat) : Int := if n = 0 then -1 else placeOf i n
theorem refPlace_any (B : Nat) (p : Option Addr) (n cap : Nat) (i : Int) (w : World) (c0 : w.cell? ⟨B, 0, none⟩ = some (.slice p n cap)) :
    Calls Try.prog 16 #[.pointer (some ⟨B, 0, none⟩), .int .i64 i] w fun e w' => e = .returned (.int .i64 (refIx i n)) ∧ w = w' := by
  cases n with
  | zero => exact refPlace_none B p cap i w c0
  | succ n => exact (refPlace_some B p (n + 1) cap (by omega) i w c0).mono (fun e w' h => ⟨by rw [h.1]; rfl, h.2⟩)

/-- A call in its box. -/
structure BoxAt (w : World) (X : Nat) (kk ix f t : Int) (q : Option Addr) (m c : Nat) : Prop where
  cells : w.heap[X]? = some (.cells #[.int .u8 kk, .int .i64 ix, .int .i64 f, .int .i64 t, .slice q m c] 42 (0, 0))
theorem BoxAt.fr {w w' : World} {X : Nat} {kk ix f t : Int} {q : Option Addr} {m c : Nat} {T : Nat → Prop} (h : BoxAt w X kk ix f t q m c) (F : Fr w w' T) (hT : ¬ T X) : BoxAt w' X kk ix f t q m c := ⟨F.heap h.cells hT⟩
theorem BoxAt.cell {w : World} {X : Nat} {kk ix f t : Int} {q : Option Addr} {m c : Nat} (h : BoxAt w X kk ix f t q m c) :
    w.cell? ⟨X, 0, none⟩ = some (.int .u8 kk) ∧ w.cell? ⟨X, 1, none⟩ = some (.int .i64 ix) ∧ w.cell? ⟨X, 2, none⟩ = some (.int .i64 f) ∧ w.cell? ⟨X, 3, none⟩ = some (.int .i64 t) ∧ w.cell? ⟨X, 4, none⟩ = some (.slice q m c) :=
  ⟨(cell_of_row w _ _ _ _ _ h.cells).trans rfl, (cell_of_row w _ _ _ _ _ h.cells).trans rfl, (cell_of_row w _ _ _ _ _ h.cells).trans rfl, (cell_of_row w _ _ _ _ _ h.cells).trans rfl, (cell_of_row w _ _ _ _ _ h.cells).trans rfl⟩
/-- The box is no block of the two nets. -/
theorem Pair.apart {w : World} {base B R : Nat} {p q : Option Addr} {n n' cap cap' : Nat} {ls ls' : List Lt} (h : Pair w base B R p q n n' cap cap' ls ls') : ∀ k, w.heap.size ≤ k → ¬ (k = B ∨ some k = blk p) ∧ ¬ (k = R ∨ some k = blk q) := by
  intro k hk
  have a := h.Blt
  have b := h.Rlt
  refine ⟨?_, ?_⟩
  · rintro (e | e)
    · omega
    · have := (h.net.plt k e.symm).2; omega
  · rintro (e | e)
    · omega
    · have := (h.ref.pblk k e.symm).2; omega

set_option maxRecDepth 100000 in
set_option maxHeartbeats 1600000 in
theorem double_none (B : Nat) (p : Option Addr) (cap : Nat) (i : Int) (w : World) (c0 : w.cell? ⟨B, 0, none⟩ = some (.slice p 0 cap)) :
    Calls Try.prog 12 #[.pointer (some ⟨B, 0, none⟩), .int .i64 i] w fun e w' => e = .returned (.bool false) ∧ Below w.heap.size w w' := by
  have K1 := Lib.hid (at_none B p cap i w c0)
  clear c0
  go_enter Try.func12, Try.ntmps12
  go_wp2_with fail
  refine K1.out.mono ?_
  rintro e w1 ⟨rfl, h1⟩
  have H1 := Lib.hid h1
  clear h1
  go_wp2
  go_ret
  exact ⟨rfl, H1.out.trans ((below_alloc _ _).mono H1.out.size)⟩
theorem PlayL.quiet {w1 : World} {B R n : Nat} {p q : Option Addr} {cap cap' : Nat} {ls ls' : List Lt} {wr w' : World} (h : PlayL w1 B R n p q cap cap' ls ls' wr) (F : Fr wr w' (fun _ => False)) : PlayL w1 B R n p q cap cap' ls ls' w' :=
  ⟨h.pair.quiet F, h.le, h.alike, h.few, h.bel.trans (F.below h.bel.size (fun _ _ h => h))⟩
/-- What a call that came in says, in the loop. -/
structure OpIn (w1 W : World) (B R X : Nat) (p q : Option Addr) (kk ix f t : Int) (xq : Option Addr) (m c : Nat) (bs : List Int) : Prop where
  box : BoxAt W X kk ix f t xq m c
  apart : ¬ (X = B ∨ some X = blk p) ∧ ¬ (X = R ∨ some X = blk q)
  lo : w1.heap.size ≤ X
  ok : (Lt.mk f t xq m c bs).Ok W
  low : 0 < m → ∀ a, xq = some a → a.block < w1.heap.size
theorem PlayL.enter {w1 : World} {B R n : Nat} {p q : Option Addr} {cap cap' : Nat} {ls ls' : List Lt} {wr : World} (h : PlayL w1 B R n p q cap cap' ls ls' wr) {kk ix f t : Int} {xq : Option Addr} {m c : Nat} {bs : List Int} (hO : (OpV.mk kk ix ⟨f, t, xq, m, c, bs⟩).Ok w1) {W : World} (hW : wr.alloc (.cells #[.int .u8 kk, .int .i64 ix, .int .i64 f, .int .i64 t, .slice xq m c] 42) = W) {X : Nat} (hX : wr.heap.size = X) :
    PlayL w1 B R n p q cap cap' ls ls' W ∧ OpIn w1 W B R X p q kk ix f t xq m c bs := by
  subst hW hX
  have F := Fr.alloc wr (.cells #[.int .u8 kk, .int .i64 ix, .int .i64 f, .int .i64 t, .slice xq m c] 42)
  refine ⟨h.quiet F, ⟨heap_alloc_new wr _⟩, h.pair.apart _ (Nat.le_refl _), h.bel.size, ?_, ?_⟩
  · exact ⟨hO.lt.src.below (h.quiet F).bel, hO.lt.nil⟩
  · intro hm a ha
    exact hO.lt.src.lt hm a ha
theorem Fr.drewN (w : World) (n : Nat) : Fr w (w.drewN n) (fun _ => False) := Fr.of_below (below_drewN (Below.refl _ _) n)
/-- What the round's end asks. -/
theorem PlayL.ends {w1 : World} {B R n : Nat} {p q : Option Addr} {cap cap' : Nat} {ls ls' : List Lt} {wr : World} (h : PlayL w1 B R n p q cap cap' ls ls' wr) :
    (∀ N, (wr.drewN N).cell? ⟨B, 0, none⟩ = some (.slice p n cap)) ∧ (∀ N, (wr.drewN N).cell? ⟨R, 0, none⟩ = some (.slice q n cap')) ∧ (∀ N, PlayLoop w1 B R (wr.drewN N)) :=
  ⟨fun N => (h.quiet (Fr.drewN _ N)).pair.net.cell, fun N => (h.quiet (Fr.drewN _ N)).pair.ref.cell, fun N => ⟨n, p, q, cap, cap', ls, ls', h.quiet (Fr.drewN _ N)⟩⟩
/-- A letter of both nets. -/
theorem PlayL.pick {w1 : World} {B R n : Nat} {p q : Option Addr} {cap cap' : Nat} {ls ls' : List Lt} {wr : World} (h : PlayL w1 B R n p q cap cap' ls ls' wr) {j : Nat} (hj : j < n) :
    ∃ f t m bs q4 c4 q5 c5, ls[j]? = some ⟨f, t, q4, m, c4, bs⟩ ∧ ls'[j]? = some ⟨f, t, q5, m, c5, bs⟩ ∧ m ≤ 16384 := by
  have e1 := h.pair.net.len
  have e2 := h.pair.ref.len
  obtain ⟨l, hl⟩ : ∃ l, ls[j]? = some l := ⟨_, List.getElem?_eq_getElem (by omega)⟩
  obtain ⟨l', hl'⟩ : ∃ l', ls'[j]? = some l' := ⟨_, List.getElem?_eq_getElem (by omega)⟩
  have al := h.alike j l l' hl hl'
  have hm := h.few l' (List.mem_of_getElem? hl')
  obtain ⟨f, t, q, m, c, bs⟩ := l
  obtain ⟨f', t', q', m', c', bs'⟩ := l'
  obtain ⟨a1, a2, a3, a4⟩ := al
  simp only at a1 a2 a3 a4 hm
  subst a1 a2 a3 a4
  exact ⟨f, t, m, bs, q, c, q', c', hl, hl', hm⟩
theorem RefAt.rowAt {w : World} {R base : Nat} {q : Option Addr} {n cap : Nat} {ls : List Lt} (h : RefAt w R base q n cap ls) {j : Nat} (hj : j < n) {l : Lt} (hl : ls[j]? = some l) :
    ∃ g cur, q = some ⟨g, 0, none⟩ ∧ n ≤ cap ∧ w.heap[g]? = some (.cells cur 27 (0, 0)) ∧ w.cell? ⟨g, j * 3, none⟩ = some (.int .i64 l.f) ∧ w.cell? ⟨g, j * 3 + 1, none⟩ = some (.int .i64 l.t) ∧ w.cell? ⟨g, j * 3 + 2, none⟩ = some (.slice l.q l.m l.c) := by
  obtain ⟨g, cur, rfl, hb, hg, hnc, hcm, hcs, htk⟩ := h.block (by omega)
  obtain ⟨e0, e1, e2⟩ := flatMap_get ls _ l hl
  have hx : ∀ i, i < 3 → w.cell? ⟨g, j * 3 + i, none⟩ = (ls.flatMap Lt.cells)[j * 3 + i]? := by
    intro i hi
    rw [cell_of_row _ _ _ _ _ _ hg, ← htk, List.getElem?_take_of_lt (by omega), Array.getElem?_toList]
  exact ⟨g, cur, rfl, hnc, hg, (hx 0 (by omega)).trans e0, (hx 1 (by omega)).trans e1, (hx 2 (by omega)).trans e2⟩
theorem refIx_pos {i : Int} {n : Nat} (hn : 0 < n) {v : Int} (h : refIx i n = v) : ∃ j : Nat, placeOf i n = j ∧ v = j ∧ j < n :=
  ⟨_, rfl, by rw [← h, refIx, if_neg (by omega)], placeOf_lt i hn⟩
theorem Pair.netBelow {w1 w w' : World} {B R : Nat} {p q : Option Addr} {n n' cap cap' : Nat} {ls ls' : List Lt} (h : Pair w w1.heap.size B R p q n n' cap cap' ls ls') (hb : Below w1.heap.size w1 w) (F : Fr w w' (fun k => k = B ∨ some k = blk p)) : Below w1.heap.size w1 w' :=
  hb.trans (F.below hb.size (fun k hk e => by
    rcases e with e | e
    · have := h.hB; omega
    · have := (h.net.plt k e.symm).1; omega))
theorem Pair.refBelow {w1 w w' : World} {B R : Nat} {p q : Option Addr} {n n' cap cap' : Nat} {ls ls' : List Lt} (h : Pair w w1.heap.size B R p q n n' cap cap' ls ls') (hb : Below w1.heap.size w1 w) (F : Fr w w' (fun k => k = R ∨ some k = blk q)) : Below w1.heap.size w1 w' :=
  hb.trans (F.below hb.size (fun k hk e => by
    rcases e with e | e
    · have := h.hR; omega
    · have := (h.ref.pblk k e.symm).1; omega))
theorem RefAt.turned {w : World} {R base g : Nat} {n cap : Nat} {ls : List Lt} (h : RefAt w R base (some ⟨g, 0, none⟩) n cap ls) {j : Nat} {l : Lt} (hl : ls[j]? = some l) {q : Option Addr} {m c : Nat} {bs : List Int} (hlow : 0 < m → ∀ a, q = some a → a.block < base) (hok : (Lt.mk l.f l.t q m c bs).Ok w) :
    RefAt (w.setCell ⟨g, j * 3 + 2, none⟩ (.slice q m c)) R base (some ⟨g, 0, none⟩) n cap (ls.set j ⟨l.f, l.t, q, m, c, bs⟩) := by
  have hg := (h.pblk g rfl).1
  have F := Fr.setCell w ⟨g, j * 3 + 2, none⟩ (.slice q m c)
  have hR : ¬ R = g := fun e => h.nblk (by rw [e]; rfl)
  have key : ∀ x ∈ ls.set j ⟨l.f, l.t, q, m, c, bs⟩, x.Ok w ∧ (0 < x.m → ∀ a, x.q = some a → a.block < base) := by
    intro x hx
    rcases List.mem_or_eq_of_mem_set hx with hx | rfl
    · exact ⟨h.ok x hx, h.low x hx⟩
    · exact ⟨hok, hlow⟩
  refine ⟨F.heap h.cells hR, ?_, by simp [h.len], fun x hx => ?_, fun x hx => (key x hx).2⟩
  · rw [← flatMap_set ls j l q m c bs hl]
    exact (h.row.stored (j * 3 + 2) (.slice q m c)).1
  · refine ⟨(key x hx).1.src.fr F (fun hp a ha e => ?_), (key x hx).1.nil⟩
    have := (key x hx).2 hp a ha
    simp only at e
    omega
theorem Pair.turned {w : World} {base B R g : Nat} {p : Option Addr} {n n' cap cap' : Nat} {ls ls' : List Lt} (h : Pair w base B R p (some ⟨g, 0, none⟩) n n' cap cap' ls ls') {j : Nat} {l : Lt} (hl : ls'[j]? = some l) {q : Option Addr} {m c : Nat} {bs : List Int} (hlow : 0 < m → ∀ a, q = some a → a.block < base) (hok : (Lt.mk l.f l.t q m c bs).Ok w) :
    Pair (w.setCell ⟨g, j * 3 + 2, none⟩ (.slice q m c)) base B R p (some ⟨g, 0, none⟩) n n' cap cap' ls (ls'.set j ⟨l.f, l.t, q, m, c, bs⟩) :=
  h.refGo ((Fr.setCell w _ _).mono (fun k _ e => .inr (by rw [e]; rfl))) (h.ref.turned hl hlow hok) (fun i hi => .inl hi)
theorem PlayL.turn {w1 : World} {B R n : Nat} {p q : Option Addr} {cap cap' : Nat} {ls ls' : List Lt} {wr : World} (h : PlayL w1 B R n p q cap cap' ls ls' wr) {W5 w6 : World} {j : Nat} {f t : Int} {xq q' : Option Addr} {m c c' : Nat} {bs : List Int} (hm : m ≤ 16384)
    (hp : Pair W5 w1.heap.size B R p q n n cap cap' ls (ls'.set j ⟨f, t, xq, m, c, bs⟩)) (hb : Below w1.heap.size w1 W5) (N : NetAt w6 B w1.heap.size p n cap (ls.set j ⟨f, t, q', m, c', bs⟩)) (F : Fr W5 w6 (fun i => some i = blk p)) :
    PlayL w1 B R n p q cap cap' (ls.set j ⟨f, t, q', m, c', bs⟩) (ls'.set j ⟨f, t, xq, m, c, bs⟩) w6 := by
  have F' := F.mono (U := fun k => k = B ∨ some k = blk p) (fun _ _ e => .inr e)
  refine ⟨hp.netGo F' N (fun i hi => .inl hi), h.le, ?_, ?_, hp.netBelow hb F'⟩
  · intro k a b ha hb
    rw [List.getElem?_set] at ha hb
    split at ha
    · rename_i hjk
      rw [if_pos hjk] at hb
      split at ha
      · split at hb
        · simp at ha hb
          subst ha hb
          exact ⟨rfl, rfl, rfl, rfl⟩
        · cases hb
      · cases ha
    · rename_i hjk
      rw [if_neg hjk] at hb
      exact h.alike k a b ha hb
  · intro l hl
    rcases List.mem_or_eq_of_mem_set hl with hl | rfl
    · exact h.few l hl
    · exact hm
theorem OpIn.okFr {w1 W : World} {B R X : Nat} {p q : Option Addr} {kk ix f t : Int} {xq : Option Addr} {m c : Nat} {bs : List Int} (h : OpIn w1 W B R X p q kk ix f t xq m c bs) {w' : World} {T : Nat → Prop} (F : Fr W w' T) (hT : ∀ k, k < w1.heap.size → ¬ T k) : (Lt.mk f t xq m c bs).Ok w' :=
  ⟨h.ok.src.fr F (fun hp a ha => hT _ (h.low hp a ha)), h.ok.nil⟩
theorem Pair.lowNet {w : World} {base B R : Nat} {p q : Option Addr} {n n' cap cap' : Nat} {ls ls' : List Lt} (h : Pair w base B R p q n n' cap cap' ls ls') : ∀ k, k < base → ¬ (k = B ∨ some k = blk p) := by
  intro k hk e
  rcases e with e | e
  · have := h.hB; omega
  · have := (h.net.plt k e.symm).1; omega
/-- A letter more in both. -/
theorem PlayL.sent {w1 : World} {B R n : Nat} {p q : Option Addr} {cap cap' : Nat} {ls ls' : List Lt} {wr : World} (h : PlayL w1 B R n p q cap cap' ls ls' wr) {w6 : World} {p2 q2 : Option Addr} {cap2 cap2' : Nat} {f t : Int} {q4 q5 : Option Addr} {m c4 c5 : Nat} {bs : List Int} (hn : n < 200) (hm : m ≤ 16384)
    (hp : Pair w6 w1.heap.size B R p2 q2 (n + 1) (n + 1) cap2 cap2' (ls ++ [⟨f, t, q4, m, c4, bs⟩]) (ls' ++ [⟨f, t, q5, m, c5, bs⟩])) (hb : Below w1.heap.size w1 w6) :
    PlayL w1 B R (n + 1) p2 q2 cap2 cap2' (ls ++ [⟨f, t, q4, m, c4, bs⟩]) (ls' ++ [⟨f, t, q5, m, c5, bs⟩]) w6 := by
  have e1 := h.pair.net.len
  have e2 := h.pair.ref.len
  refine ⟨hp, by omega, ?_, ?_, hb⟩
  · intro k a b ha hb
    rw [List.getElem?_append] at ha hb
    by_cases hk : k < n
    · rw [if_pos (by omega)] at ha hb
      exact h.alike k a b ha hb
    · rw [if_neg (by omega)] at ha hb
      rw [e1] at ha
      rw [e2] at hb
      cases hkn : k - n with
      | zero =>
        rw [hkn] at ha hb
        simp at ha hb
        subst ha hb
        exact ⟨rfl, rfl, rfl, rfl⟩
      | succ i =>
        rw [hkn] at ha
        simp at ha
  · intro l hl
    rcases List.mem_append.1 hl with hl | hl
    · exact h.few l hl
    · simp only [List.mem_singleton] at hl
      subst hl
      exact hm
/-- A letter less in both. -/
theorem PlayL.taken {w1 : World} {B R n : Nat} {p q : Option Addr} {cap cap' : Nat} {ls ls' : List Lt} {wr : World} (h : PlayL w1 B R n p q cap cap' ls ls' wr) {w6 : World} {p2 q2 : Option Addr} {cap2 cap2' j : Nat}
    (hp : Pair w6 w1.heap.size B R p2 q2 (n - 1) (n - 1) cap2 cap2' (ls.eraseIdx j) (ls'.take j ++ ls'.drop (j + 1))) (hb : Below w1.heap.size w1 w6) :
    PlayL w1 B R (n - 1) p2 q2 cap2 cap2' (ls.eraseIdx j) (ls'.take j ++ ls'.drop (j + 1)) w6 := by
  have e1 := h.pair.net.len
  have e2 := h.pair.ref.len
  have hl := h.le
  refine ⟨hp, by omega, ?_, ?_, hb⟩
  · intro k a b ha hb
    rw [← List.eraseIdx_eq_take_drop_succ] at hb
    rw [List.getElem?_eraseIdx] at ha hb
    split at ha
    · rename_i hk
      rw [if_pos hk] at hb
      exact h.alike k a b ha hb
    · rename_i hk
      rw [if_neg hk] at hb
      exact h.alike _ a b ha hb
  · intro l hl
    rcases List.mem_append.1 hl with hl | hl
    · exact h.few l (List.mem_of_mem_take hl)
    · exact h.few l (List.mem_of_mem_drop hl)
/-- What holds in the loop over the letters that Way told. -/
structure WayL (w1 : World) (B R n : Nat) (p q : Option Addr) (cap cap' : Nat) (ls ls' : List Lt) (b2 : Nat) (r : Option Addr) (cr : Nat) (W : World) : Prop where
  play : PlayL w1 B R n p q cap cap' ls ls' W
  ex : ∃ ls2, W.ownsRow b2 27 3 (.slice r n cr) n (ls2.flatMap Lt.cells) ∧ ls2.length = n ∧ Copies W b2 ls ls2
section
variable {w1 : World} {B R n : Nat} {p q : Option Addr} {cap cap' : Nat} {ls ls' : List Lt} {b2 : Nat} {r : Option Addr} {cr : Nat} {W W' : World}
theorem WayL.quiet (h : WayL w1 B R n p q cap cap' ls ls' b2 r cr W) (F : Fr W W' (fun _ => False)) : WayL w1 B R n p q cap cap' ls ls' b2 r cr W' := by
  obtain ⟨ls2, h1, h2, h3⟩ := h.ex
  refine ⟨h.play.quiet F, ls2, ownsRow_fr h1 F (fun _ _ h => h), h2, fun j l hj => ?_⟩
  obtain ⟨l0, a1, a2, a3, a4, a5, a6⟩ := h3 j l hj
  exact ⟨l0, a1, a2, a3, a4, a5, a6.fr F (fun _ _ h => h)⟩
theorem row_cells {w : World} {base : Nat} {p : Option Addr} {n cap : Nat} {ls : List Lt} (h : w.ownsRow base 27 3 (.slice p n cap) n (ls.flatMap Lt.cells)) {k : Nat} {l : Lt} (hk : k < n) (hl : ls[k]? = some l) :
    ∃ g, p = some ⟨g, 0, none⟩ ∧ n ≤ cap ∧ w.cell? ⟨g, k * 3, none⟩ = some (.int .i64 l.f) ∧ w.cell? ⟨g, k * 3 + 1, none⟩ = some (.int .i64 l.t) ∧ w.cell? ⟨g, k * 3 + 2, none⟩ = some (.slice l.q l.m l.c) := by
  rcases h.2 with ⟨_, h0⟩ | ⟨g, cap', cur, h', hb, hg, h1, h2, h3, h4⟩
  · omega
  · simp only [Value.slice.injEq, true_and] at h'
    obtain ⟨rfl, rfl⟩ := h'
    obtain ⟨e0, e1, e2⟩ := flatMap_get ls k l hl
    have hx : ∀ i, i < 3 → w.cell? ⟨g, k * 3 + i, none⟩ = (ls.flatMap Lt.cells)[k * 3 + i]? := by
      intro i hi
      rw [cell_of_row _ _ _ _ _ _ hg, ← h4, List.getElem?_take_of_lt (by omega), Array.getElem?_toList]
    exact ⟨g, rfl, h1, (hx 0 (by omega)).trans e0, (hx 1 (by omega)).trans e1, (hx 2 (by omega)).trans e2⟩
theorem WayL.pick (h : WayL w1 B R n p q cap cap' ls ls' b2 r cr W) {j : Nat} (hj : j < n) :
    ∃ f t m bs q4 c4 q5 c5 g g', r = some ⟨g, 0, none⟩ ∧ q = some ⟨g', 0, none⟩ ∧ n ≤ cr ∧ n ≤ cap' ∧
      (W.cell? ⟨g, j * 3, none⟩ = some (.int .i64 f) ∧ W.cell? ⟨g, j * 3 + 1, none⟩ = some (.int .i64 t) ∧ W.cell? ⟨g, j * 3 + 2, none⟩ = some (.slice q4 m c4)) ∧
      (W.cell? ⟨g', j * 3, none⟩ = some (.int .i64 f) ∧ W.cell? ⟨g', j * 3 + 1, none⟩ = some (.int .i64 t) ∧ W.cell? ⟨g', j * 3 + 2, none⟩ = some (.slice q5 m c5)) ∧ Src W q4 m bs ∧ Src W q5 m bs := by
  obtain ⟨ls2, h1, h2, h3⟩ := h.ex
  obtain ⟨l2, hl2⟩ : ∃ l, ls2[j]? = some l := ⟨_, List.getElem?_eq_getElem (by omega)⟩
  obtain ⟨l0, a1, a2, a3, a4, a5, a6⟩ := h3 j l2 hl2
  obtain ⟨f, t, m, bs, q0, c0, q5, c5, k1, k2, k3⟩ := h.play.pick hj
  rw [k1] at a1
  obtain rfl := Option.some.inj a1
  simp only at a2 a3 a4 a5
  obtain ⟨f2, t2, q4, m2, c4, bs2⟩ := l2
  simp only at a2 a3 a4 a5 a6
  subst a2 a3 a4 a5
  obtain ⟨g, e1, e2, e3⟩ := row_cells h1 hj hl2
  obtain ⟨g', e1', e2', e3'⟩ := row_cells h.play.pair.ref.row hj k2
  exact ⟨f2, t2, m2, bs2, q4, c4, q5, c5, g, g', e1, e1', e2, e2', e3, e3', a6.src, (h.play.pair.ref.ok _ (List.mem_of_getElem? k2)).src⟩
end
end Go.Proofs.Ythnachjkjhclpaa
