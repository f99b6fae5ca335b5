/- Frames of worlds; slices of bytes that the program itself made and appends to. Nothing here speaks of the program. -/
import Derived.Test.YtfipbmibcbalhaaDoorMem
import Derived.Deep.RegionLaw
namespace Go.Proofs.YtfipbmibcbalhaaDoor
open Go.RowKit
set_option linter.unusedVariables false
set_option linter.unusedSimpArgs false

/-- w' is w with new blocks, and with writes to the blocks T alone. -/
structure Fr (w w' : World) (T : Nat → Prop) : Prop where
  os : w'.os = w.os
  tape : w'.tape = w.tape
  output : w'.output = w.output
  size : w.heap.size ≤ w'.heap.size
  block : ∀ k, k < w.heap.size → ¬ T k → w'.heap[k]? = w.heap[k]?

theorem Fr.refl (w : World) (T : Nat → Prop) : Fr w w T := ⟨rfl, rfl, rfl, Nat.le_refl _, fun _ _ _ => rfl⟩
theorem Fr.trans {a b c : World} {T U : Nat → Prop} (h : Fr a b T) (k : Fr b c U) : Fr a c (fun i => T i ∨ U i) :=
  ⟨k.os.trans h.os, k.tape.trans h.tape, k.output.trans h.output, Nat.le_trans h.size k.size,
   fun i hi hn => (k.block i (Nat.lt_of_lt_of_le hi h.size) (fun x => hn (.inr x))).trans (h.block i hi (fun x => hn (.inl x)))⟩
theorem Fr.mono {a b : World} {T U : Nat → Prop} (h : Fr a b T) (hu : ∀ k, k < a.heap.size → T k → U k) : Fr a b U :=
  ⟨h.os, h.tape, h.output, h.size, fun k hk hn => h.block k hk (fun x => hn (hu k hk x))⟩
theorem Fr.of_grown {w w' : World} {row : Option Nat} (h : w.grownBy w' row) : Fr w w' (fun k => some k = row) := ⟨h.os, h.tape, h.output, h.size, h.block⟩
theorem Fr.of_below {w w' : World} (h : Below w.heap.size w w') : Fr w w' (fun _ => False) := ⟨h.os, h.tape, h.output, h.size, fun k hk _ => h.block k hk⟩
theorem Fr.below {w w' : World} {T : Nat → Prop} (h : Fr w w' T) {B : Nat} (hB : B ≤ w.heap.size) (ht : ∀ k, k < B → ¬ T k) : Below B w w' :=
  ⟨h.os, h.tape, h.output, h.size, fun k hk => h.block k (by omega) (ht k hk)⟩
theorem Fr.drew (w : World) : Fr w w.drew (fun _ => False) := ⟨rfl, rfl, rfl, Nat.le_refl _, fun _ _ _ => rfl⟩
theorem Fr.alloc (w : World) (o : Obj) : Fr w (w.alloc o) (fun _ => False) := Fr.of_below (below_alloc w o)
theorem Fr.setCell (w : World) (a : Addr) (v : Value) : Fr w (w.setCell a v) (fun k => k = a.block) :=
  ⟨rfl, rfl, rfl, by simp [World.setCell], fun k _ hk => Below.heap_setCell _ _ _ _ hk⟩
/-- One store more. -/
theorem Fr.set {w w' : World} {T : Nat → Prop} (h : Fr w w' T) (a : Addr) (v : Value) (ha : T a.block) : Fr w (w'.setCell a v) T :=
  (h.trans (Fr.setCell w' a v)).mono (fun k _ hk => hk.elim id (fun e => e ▸ ha))
theorem Fr.heap {w w' : World} {T : Nat → Prop} (h : Fr w w' T) {k : Nat} {o : Obj} (hk : w.heap[k]? = some o) (ht : ¬ T k) : w'.heap[k]? = some o := by
  rw [h.block k (Array.getElem?_eq_some_iff.1 hk).1 ht]; exact hk
theorem Fr.cell {w w' : World} {T : Nat → Prop} (h : Fr w w' T) {a : Addr} {v : Value} (hc : w.cell? a = some v) (ht : ¬ T a.block) : w'.cell? a = some v := by
  rw [World.cell?_of_block (h.block _ (block_lt_of_cell hc) ht)]; exact hc
theorem Src.fr {w w' : World} {T : Nat → Prop} {p : Option Addr} {n : Nat} {xs : List Int} (h : Src w p n xs) (hf : Fr w w' T) (ht : 0 < n → ∀ a, p = some a → ¬ T a.block) : Src w' p n xs := by
  refine ⟨h.len, h.rng, fun hn => ?_⟩
  obtain ⟨b, o, rfl, hc⟩ := h.mem hn
  exact ⟨b, o, rfl, fun i hi => hf.cell (hc i hi) (show ¬ T b from ht hn ⟨b, o, none⟩ rfl)⟩

/-- Drawing changes no fact on memory. -/
theorem Src.drew {w : World} {p : Option Addr} {n : Nat} {xs : List Int} (h : Src w p n xs) : Src w.drew p n xs := ⟨h.len, h.rng, h.mem⟩

/-- A slice of n bytes xs in a block of the program's own making (from base on), or nil. -/
structure Own (w : World) (base : Nat) (p : Option Addr) (n cap : Nat) (xs : List Int) : Prop where
  row : w.ownsRow base 5 1 (.slice p n cap) n (xs.map (Value.int .u8))
  rng : ∀ x ∈ xs, 0 ≤ x ∧ x ≤ 255

def blk (p : Option Addr) : Option Nat := p.map (·.block)
theorem ownBlock_slice (p : Option Addr) (n c : Nat) : (Value.slice p n c).ownBlock = blk p := by cases p <;> rfl

theorem Own.len {w : World} {base : Nat} {p : Option Addr} {n cap : Nat} {xs : List Int} (h : Own w base p n cap xs) : xs.length = n := by simpa using h.row.1
theorem Own.nil (w : World) (base : Nat) : Own w base none 0 0 [] := ⟨World.ownsRow_nil _ _ _ _, by simp⟩
theorem Own.empty (w : World) : Own (w.alloc (.cells #[] 5)) w.heap.size (some ⟨w.heap.size, 0, none⟩) 0 0 [] :=
  ⟨⟨rfl, .inr ⟨w.heap.size, 0, #[], rfl, Nat.le_refl _, heap_alloc_new w _, Nat.le_refl _, Nat.zero_le _, rfl, rfl⟩⟩, by simp⟩
theorem Own.cases {w : World} {base : Nat} {p : Option Addr} {n cap : Nat} {xs : List Int} (h : Own w base p n cap xs) :
    (p = none ∧ n = 0 ∧ cap = 0 ∧ xs = []) ∨ ∃ g cur, p = some ⟨g, 0, none⟩ ∧ base ≤ g ∧ w.heap[g]? = some (.cells cur 5 (0, 0)) ∧ n ≤ cap ∧ cap ≤ maxLen ∧ cur.size = cap ∧ cur.toList.take n = xs.map (Value.int .u8) := by
  have hl := h.len
  rcases h.row.2 with ⟨h', h2⟩ | ⟨g, cap', cur, h', hb, hg, hnc, hcm, hcs, ht⟩
  · simp only [Value.slice.injEq] at h'
    obtain ⟨rfl, rfl, rfl⟩ := h'
    exact .inl ⟨rfl, rfl, rfl, List.eq_nil_of_length_eq_zero hl⟩
  · simp only [Value.slice.injEq, true_and] at h'
    obtain ⟨rfl, rfl⟩ := h'
    exact .inr ⟨g, cur, rfl, hb, hg, hnc, hcm, by simpa using hcs, by simpa using ht⟩
theorem Own.capnil {w : World} {base : Nat} {p : Option Addr} {n cap : Nat} {xs : List Int} (h : Own w base p n cap xs) : p = none → cap = 0 := by
  intro e
  rcases h.cases with ⟨_, _, h, _⟩ | ⟨g, _, e', _⟩
  · exact h
  · rw [e] at e'; cases e'
theorem Own.head {w : World} {base : Nat} {p : Option Addr} {n cap : Nat} {xs : List Int} (h : Own w base p n cap xs) (hn : 0 < n) : ∃ g, p = some ⟨g, 0, none⟩ := by
  rcases h.cases with ⟨_, e, _⟩ | ⟨g, _, e, _⟩
  · omega
  · exact ⟨g, e⟩
theorem Own.le {w : World} {base : Nat} {p : Option Addr} {n cap : Nat} {xs : List Int} (h : Own w base p n cap xs) : n ≤ cap := by
  rcases h.cases with ⟨_, rfl, rfl, _⟩ | ⟨_, _, _, _, _, h, _⟩
  · exact Nat.le_refl _
  · exact h
theorem Own.lt {w : World} {base : Nat} {p : Option Addr} {n cap : Nat} {xs : List Int} (h : Own w base p n cap xs) : ∀ k, blk p = some k → base ≤ k ∧ k < w.heap.size := by
  intro k hk
  rcases h.cases with ⟨rfl, _⟩ | ⟨g, cur, rfl, hb, hg, _⟩
  · cases hk
  · simp [blk] at hk; subst hk
    exact ⟨hb, (Array.getElem?_eq_some_iff.1 hg).1⟩
theorem Own.elem {w : World} {base : Nat} {p : Option Addr} {n cap : Nat} {xs : List Int} (h : Own w base p n cap xs) : ∀ k, blk p = some k → ∃ cur, w.heap[k]? = some (.cells cur 5 (0, 0)) := by
  intro k hk
  rcases h.cases with ⟨rfl, _⟩ | ⟨g, cur, rfl, hb, hg, _⟩
  · cases hk
  · simp [blk] at hk; subst hk
    exact ⟨cur, hg⟩
/-- A block of other elements is not the row. -/
theorem Own.ne {w : World} {base : Nat} {p : Option Addr} {n cap : Nat} {xs : List Int} (h : Own w base p n cap xs) {B : Nat} {cs : Array Value} {t : TypeId} {f : Nat × Nat}
    (hB : w.heap[B]? = some (.cells cs t f)) (ht : t ≠ 5) : ¬ some B = blk p := by
  intro e
  obtain ⟨cur, hc⟩ := h.elem B e.symm
  rw [hB] at hc
  simp at hc
  exact ht hc.2.1
theorem Own.src {w : World} {base : Nat} {p : Option Addr} {n cap : Nat} {xs : List Int} (h : Own w base p n cap xs) : Src w p n xs := by
  refine ⟨h.len, h.rng, fun hn => ?_⟩
  rcases h.cases with ⟨_, rfl, _⟩ | ⟨g, cur, rfl, hb, hg, hnc, hcm, hcs, ht⟩
  · omega
  · refine ⟨g, 0, rfl, fun i hi => ?_⟩
    rw [Nat.zero_add, cell_of_row w g i cur 5 (0, 0) hg]
    have e := congrArg (fun l => l[i]?) ht
    have hl := h.len
    simp only [List.getElem?_take, hi, if_true, Array.getElem?_toList, List.getElem?_map, List.getElem?_eq_getElem (show i < xs.length by omega), Option.map_some] at e
    rw [e]
    simp [List.getD, List.getElem?_eq_getElem (show i < xs.length by omega)]
theorem Own.fr {w w' : World} {base : Nat} {p : Option Addr} {n cap : Nat} {xs : List Int} {T : Nat → Prop} (h : Own w base p n cap xs) (hf : Fr w w' T) (ht : ∀ k, blk p = some k → ¬ T k) : Own w' base p n cap xs := by
  refine ⟨⟨h.row.1, ?_⟩, h.rng⟩
  rcases h.row.2 with h' | ⟨g, cap', cur, h', hb, hg, r⟩
  · exact .inl h'
  · simp only [Value.slice.injEq, true_and] at h'
    obtain ⟨rfl, rfl⟩ := h'
    exact .inr ⟨g, cap, cur, rfl, hb, hf.heap hg (ht g rfl), r⟩
theorem Own.drew {w : World} {base : Nat} {p : Option Addr} {n cap : Nat} {xs : List Int} (h : Own w base p n cap xs) : Own w.drew base p n cap xs := ⟨h.row, h.rng⟩
theorem Own.base {w : World} {base b' : Nat} {p : Option Addr} {n cap : Nat} {xs : List Int} (h : Own w base p n cap xs) (hb : b' ≤ base) : Own w b' p n cap xs := by
  refine ⟨⟨h.row.1, ?_⟩, h.rng⟩
  rcases h.row.2 with h' | ⟨g, cap', cur, h', hb', r⟩
  · exact .inl h'
  · exact .inr ⟨g, cap', cur, h', by omega, r⟩

/-- 'v[j] = x'. -/
theorem Own.set {w : World} {base g n cap : Nat} {xs : List Int} (h : Own w base (some ⟨g, 0, none⟩) n cap xs) (j : Nat) (v : Int) (hv : 0 ≤ v ∧ v ≤ 255) :
    Own (w.setCell ⟨g, j, none⟩ (.int .u8 v)) base (some ⟨g, 0, none⟩) n cap (xs.set j v) := by
  refine ⟨?_, fun x hx => ?_⟩
  · have := (h.row.stored j (.int .u8 v)).1
    rwa [List.map_set]
  · rcases List.mem_or_eq_of_mem_set hx with hx | rfl
    · exact h.rng x hx
    · exact hv
/-- An element's cell. -/
theorem Own.cell {w : World} {base g n cap : Nat} {xs : List Int} (h : Own w base (some ⟨g, 0, none⟩) n cap xs) (j : Nat) (hj : j < n) :
    w.cell? ⟨g, j, none⟩ = some (.int .u8 (xs.getD j 0)) ∧ w.frozen? ⟨g, j, none⟩ = false ∧ 0 ≤ xs.getD j 0 ∧ xs.getD j 0 ≤ 255 := by
  have hl := h.len
  have e : xs.getD j 0 = xs[j]'(by omega) := by simp [List.getD, List.getElem?_eq_getElem (show j < xs.length by omega)]
  refine ⟨?_, h.row.frozenAt j, ?_⟩
  · rw [h.row.cellAt j (by omega), e]; simp [List.getElem?_eq_getElem (show j < xs.length by omega)]
  · rw [e]; exact h.rng _ (List.getElem_mem _)

/-- 'append(p, q...)' of bytes. -/
theorem run_append_bytes {P : Program} (w : World) (base : Nat) (t ty : TypeId) (ht : P.underlying t = some (.slice 5))
    (hi : (P.info? 5).map (fun i => (i.zero, i.size, i.bytes)) = some (some (.int .u8 0), 1, 1))
    (p : Option Addr) (n cap : Nat) (xs : List Int) (hown : Own w base p n cap xs) (q : Option Addr) (m c : Nat) (ys : List Int) (hsrc : Src w q m ys) (hq : q = none → c = 0)
    (hbytes : n + m ≤ 140737488355328) (hbase : base ≤ w.heap.size) :
    ∃ p' cap' w', (Builtin.append_ #[t, t] ty #[.slice p n cap, .slice q m c]).run P w = .ok (.slice p' (n + m) cap') w' ∧ Own w' base p' (n + m) cap' (xs ++ ys) ∧ w.grownBy w' (blk p) ∧
      (p' = none ↔ p = none ∧ m = 0) ∧ (∀ k, blk p' = some k → blk p = some k ∨ w.heap.size ≤ k) := by
  obtain ⟨i, hi1, hi2, hi3, hi4⟩ := info_parts hi
  have hrng : ∀ x ∈ xs ++ ys, 0 ≤ x ∧ x ≤ 255 := by
    intro x hx
    rcases List.mem_append.1 hx with h | h
    · exact hown.rng x h
    · exact hsrc.rng x h
  cases q with
  | none =>
    obtain rfl := hq rfl
    have hm : m = 0 := by
      rcases Nat.eq_zero_or_pos m with h | h
      · exact h
      · obtain ⟨b, o, h', _⟩ := hsrc.mem h; cases h'
    subst hm
    obtain rfl : ys = [] := List.eq_nil_of_length_eq_zero hsrc.len
    refine ⟨p, cap, w, run_append_owned_none (P := P) w base t ty 5 i 1 ht hi1 _ n _ hown.row, by simpa using hown, ⟨rfl, rfl, rfl, Nat.le_refl _, fun _ _ _ => rfl⟩, by simp, fun k hk => .inl hk⟩
  | some a =>
    have hnews : ∀ j u, (ys.map (Value.int .u8))[j]? = some u → w.cell? (a.add j) = some u := by
      intro j u hj
      have hpos : 0 < (ys.map (Value.int .u8)).length := by
        rcases Nat.eq_zero_or_pos (ys.map (Value.int .u8)).length with h | h
        · rw [List.eq_nil_of_length_eq_zero h] at hj; simp at hj
        · exact h
      obtain ⟨ad, h1, h2⟩ := hsrc.srcCells w (Below.refl _ _) hpos
      obtain rfl := Option.some.inj h1
      exact h2 j u hj
    obtain ⟨v', w', hr, h2, h3, h4⟩ := run_append_own (P := P) w base t ty 5 i (.int .u8 0) 1 1 ht hi1 hi2 hi3 hi4 rfl (by decide) (.slice p n cap) n _ hown.row a m c (ys.map (Value.int .u8))
      (by simp [hsrc.len]) hnews (ints_oneCell _ _) (by unfold maxLen; omega) (by omega) hbase
    obtain ⟨p', cap', rfl⟩ : ∃ p' cap', v' = .slice p' (n + m) cap' := by
      rcases h2.2 with ⟨rfl, h0⟩ | ⟨g, cap', cur, rfl, _⟩
      · exact ⟨none, 0, by rw [h0]⟩
      · exact ⟨_, _, rfl⟩
    have hn := hown.cases
    refine ⟨p', cap', w', hr, ⟨by simpa using h2, hrng⟩, by rw [← ownBlock_slice p n cap]; exact h3, ?_, ?_⟩
    rotate_left
    · intro k hk
      rcases hn with ⟨rfl, rfl, rfl, rfl⟩ | ⟨g, cur, rfl, hb, hg, hnc, hcm, hcs, htk⟩
      · right
        obtain ⟨v2, w2, hr2, k2, _, _⟩ := run_append_own (P := P) w w.heap.size t ty 5 i (.int .u8 0) 1 1 ht hi1 hi2 hi3 hi4 rfl (by decide) (.slice none 0 0) 0 [] (World.ownsRow_nil _ _ _ _) a m c (ys.map (Value.int .u8))
          (by simp [hsrc.len]) hnews (ints_oneCell _ _) (by unfold maxLen; omega) (by omega) (Nat.le_refl _)
        rw [hr] at hr2
        simp only [Result.ok.injEq] at hr2
        obtain ⟨rfl, rfl⟩ := hr2
        exact (k2.lt k (by rw [ownBlock_slice]; exact hk)).1
      · by_cases hroom : n + m ≤ cap
        · left
          have hr2 := run_append_room (P := P) w t ty 5 i ht hi1 g n cap cur hg a m c (ys.map (Value.int .u8)) (by simp [hsrc.len, hi3]) hnews (ints_oneCell _ _) hroom (by simp [hi3, hsrc.len]; omega)
          rw [hr] at hr2
          simp only [Result.ok.injEq, Value.slice.injEq] at hr2
          rw [hr2.1.1] at hk
          exact hk
        · right
          obtain ⟨v2, w2, hr2, k2, _⟩ := run_append_arg_grows (P := P) w t ty 5 i (.int .u8 0) 1 1 ht hi1 hi2 hi3 hi4 rfl (by decide) ⟨g, 0, none⟩ n cap (xs.map (Value.int .u8)) (by simp [hown.len]) (hown.row.cells (g := g) rfl) a m c (ys.map (Value.int .u8))
            (by simp [hsrc.len]) hnews (by omega) (by unfold maxLen; omega) (by omega)
          rw [hr] at hr2
          simp only [Result.ok.injEq] at hr2
          obtain ⟨rfl, rfl⟩ := hr2
          exact (k2.lt k (by rw [ownBlock_slice]; exact hk)).1
    constructor
    · intro hp
      have h2' : Own w' base p' (n + m) cap' (xs ++ ys) := ⟨by simpa using h2, hrng⟩
      rcases h2'.cases with ⟨_, e1, e2, _⟩ | ⟨g, _, e, _⟩
      · have := h4.1 (by rw [hp, e1, e2])
        simp only [Value.slice.injEq] at this
        exact ⟨this.1.1, this.2⟩
      · rw [hp] at e; cases e
    · rintro ⟨rfl, rfl⟩
      rcases hn with ⟨_, rfl, rfl, _⟩ | ⟨g, _, e, _⟩
      · have := h4.2 ⟨rfl, rfl⟩
        simp only [Value.slice.injEq] at this
        exact this.1
      · cases e

theorem wpList_append_bytes {P : Program} {w : World} {ops : Array Oper} {rest : List Oper} {o : Oper} {a : Act} {Q : Exit → Act → World → Prop} (hgd : o.guard = none) (s x : Operand) (t : TypeId)
    (ho : o.op = .call { callee := .builtin .append, args := #[s, x], argTypes := #[t, t] }) (base : Nat) (ht : P.underlying t = some (.slice 5))
    (hi : (P.info? 5).map (fun i => (i.zero, i.size, i.bytes)) = some (some (.int .u8 0), 1, 1))
    (p : Option Addr) (n cap : Nat) (xs : List Int) (hs : a.eval s = .slice p n cap) (hown : Own w base p n cap xs) (q : Option Addr) (m c : Nat) (ys : List Int) (hx : a.eval x = .slice q m c) (hsrc : Src w q m ys) (hq : q = none → c = 0)
    (hbytes : n + m ≤ 140737488355328) (hbase : base ≤ w.heap.size)
    (h : ∀ p' cap' w', Own w' base p' (n + m) cap' (xs ++ ys) → w.grownBy w' (blk p) → Hid (p' = none ↔ p = none ∧ m = 0) → Hid (∀ k, blk p' = some k → blk p = some k ∨ w.heap.size ≤ k) → wpList P ops Q rest (a.put o.dst (.slice p' (n + m) cap')) w') : wpList P ops Q (o :: rest) a w := by
  obtain ⟨p', cap', w', hr, h2, h3, h4, h5⟩ := run_append_bytes (P := P) w base t o.type ht hi p n cap xs hown q m c ys hsrc hq hbytes hbase
  refine wpList_plain hgd fun K hK => ?_
  unfold Oper.wp execOp
  simp only [ho, resolve, invoke, builtin, Sem.run_bind, Sem.run_pure, Result.andThen_ok, List.map_toArray, List.map_cons, List.map_nil, hs, hx, hr]
  exact hK _ _ (h p' cap' w' h2 h3 h4 h5)

/-- The same as one step of a region that draws its order ('go_region_law'). -/
theorem step_append_bytes {P : Program} {ops : Array Oper} {o : Oper} {a : Act} {w : World} {K : Act → World → Prop} {Q : Exit → Act → World → Prop} {E : Prop} (hgd : o.guard = none) (s x : Operand) (t : TypeId)
    (ho : o.op = .call { callee := .builtin .append, args := #[s, x], argTypes := #[t, t] }) (base : Nat) (ht : P.underlying t = some (.slice 5))
    (hi : (P.info? 5).map (fun i => (i.zero, i.size, i.bytes)) = some (some (.int .u8 0), 1, 1))
    (p : Option Addr) (n cap : Nat) (xs : List Int) (hs : a.eval s = .slice p n cap) (hown : Own w base p n cap xs) (q : Option Addr) (m c : Nat) (ys : List Int) (hx : a.eval x = .slice q m c) (hsrc : Src w q m ys) (hq : q = none → c = 0)
    (hbytes : n + m ≤ 140737488355328) (hbase : base ≤ w.heap.size)
    (h : ∀ p' cap' w', Own w' base p' (n + m) cap' (xs ++ ys) → w.grownBy w' (blk p) → Hid (p' = none ↔ p = none ∧ m = 0) → Hid (∀ k, blk p' = some k → blk p = some k ∨ w.heap.size ≤ k) → K (a.put o.dst (.slice p' (n + m) cap')) w') :
    if Region.wanted o (yielded ops a.tmps) = true then Oper.wp P o a w K Q else E := by
  obtain ⟨p', cap', w', hr, h2, h3, h4, h5⟩ := run_append_bytes (P := P) w base t o.type ht hi p n cap xs hown q m c ys hsrc hq hbytes hbase
  rw [if_pos (by simp [Region.wanted, hgd])]
  unfold Oper.wp execOp
  simp only [ho, resolve, invoke, builtin, Sem.run_bind, Sem.run_pure, Result.andThen_ok, List.map_toArray, List.map_cons, List.map_nil, hs, hx, hr]
  exact h p' cap' w' h2 h3 h4 h5

/-- 'append(p, q...)' of elements of whatever size, into a row of the program's own. -/
theorem run_append_row {P : Program} (w : World) (base : Nat) (t ty e : TypeId) (sz bytes : Nat) (z : Value) (ht : P.underlying t = some (.slice e))
    (hi : (P.info? e).map (fun i => (i.zero, i.size, i.bytes)) = some (some z, sz, bytes)) (hzs : z.cells.size = sz) (hsz : 0 < sz) (hb0 : 0 < bytes)
    (p : Option Addr) (n cap : Nat) (xs : List Value) (hown : w.ownsRow base e sz (.slice p n cap) n xs) (a : Addr) (m c : Nat) (news : List Value) (hl : news.length = m * sz)
    (hnews : ∀ j u, news[j]? = some u → w.cell? (a.add j) = some u) (h1 : ∀ u ∈ news, u.oneCell' = true)
    (hbytes : (n + m) * bytes ≤ 140737488355328) (hbase : base ≤ w.heap.size) :
    ∃ p' cap' w', (Builtin.append_ #[t, t] ty #[.slice p n cap, .slice (some a) m c]).run P w = .ok (.slice p' (n + m) cap') w' ∧ w'.ownsRow base e sz (.slice p' (n + m) cap') (n + m) (xs ++ news) ∧ w.grownBy w' (blk p) ∧
      (∀ k, blk p' = some k → blk p = some k ∨ w.heap.size ≤ k) := by
  obtain ⟨i, hi1, hi2, hi3, hi4⟩ := info_parts hi
  have hnm : n + m ≤ maxLen := by
    have : (n + m) * 1 ≤ (n + m) * bytes := Nat.mul_le_mul_left _ hb0
    unfold maxLen; omega
  obtain ⟨v', w', hr, h2, h3, h4⟩ := run_append_own (P := P) w base t ty e i z sz bytes ht hi1 hi2 hi3 hi4 hzs hsz (.slice p n cap) n _ hown a m c news hl hnews h1 hnm hbytes hbase
  obtain ⟨p', cap', rfl⟩ : ∃ p' cap', v' = .slice p' (n + m) cap' := by
    rcases h2.2 with ⟨rfl, h0⟩ | ⟨g, cap', cur, rfl, _⟩
    · exact ⟨none, 0, by rw [h0]⟩
    · exact ⟨_, _, rfl⟩
  refine ⟨p', cap', w', hr, h2, by rw [← ownBlock_slice p n cap]; exact h3, fun k hk => ?_⟩
  rcases hown.2 with ⟨h', h0⟩ | ⟨g, cap1, cur, h', hb, hg, hnc, hcm, hcs, htk⟩
  · right
    simp only [Value.slice.injEq] at h'
    obtain ⟨rfl, rfl, rfl⟩ := h'
    have hx : xs = [] := List.eq_nil_of_length_eq_zero (by simpa using hown.1)
    subst hx
    obtain ⟨v2, w2, hr2, k2, _, _⟩ := run_append_own (P := P) w w.heap.size t ty e i z sz bytes ht hi1 hi2 hi3 hi4 hzs hsz (.slice none 0 0) 0 [] (World.ownsRow_nil _ _ _ _) a m c news hl hnews h1 hnm hbytes (Nat.le_refl _)
    rw [hr] at hr2
    simp only [Result.ok.injEq] at hr2
    obtain ⟨rfl, rfl⟩ := hr2
    exact (k2.lt k (by rw [ownBlock_slice]; exact hk)).1
  · simp only [Value.slice.injEq, true_and] at h'
    obtain ⟨rfl, rfl⟩ := h'
    by_cases hroom : n + m ≤ cap
    · left
      have hr2 := run_append_room (P := P) w t ty e i ht hi1 g n cap cur hg a m c news (by rw [hi3]; exact hl) hnews h1 hroom (by rw [hi3, hl, hcs, ← Nat.add_mul]; exact Nat.mul_le_mul_right _ hroom)
      rw [hr] at hr2
      simp only [Result.ok.injEq, Value.slice.injEq] at hr2
      rw [hr2.1.1] at hk
      exact hk
    · right
      obtain ⟨v2, w2, hr2, k2, _⟩ := run_append_arg_grows (P := P) w t ty e i z sz bytes ht hi1 hi2 hi3 hi4 hzs hsz ⟨g, 0, none⟩ n cap xs hown.1 (hown.cells (g := g) rfl) a m c news hl hnews (by omega) hnm hbytes
      rw [hr] at hr2
      simp only [Result.ok.injEq] at hr2
      obtain ⟨rfl, rfl⟩ := hr2
      exact (k2.lt k (by rw [ownBlock_slice]; exact hk)).1

theorem step_append_row {P : Program} {ops : Array Oper} {o : Oper} {a : Act} {w : World} {K : Act → World → Prop} {Q : Exit → Act → World → Prop} {E : Prop} (hgd : o.guard = none) (s x : Operand) (t : TypeId)
    (ho : o.op = .call { callee := .builtin .append, args := #[s, x], argTypes := #[t, t] }) (base : Nat) (e : TypeId) (sz bytes : Nat) (z : Value) (ht : P.underlying t = some (.slice e))
    (hi : (P.info? e).map (fun i => (i.zero, i.size, i.bytes)) = some (some z, sz, bytes)) (hzs : z.cells.size = sz) (hsz : 0 < sz) (hb0 : 0 < bytes)
    (p : Option Addr) (n cap : Nat) (xs : List Value) (hs : a.eval s = .slice p n cap) (hown : w.ownsRow base e sz (.slice p n cap) n xs) (ad : Addr) (m c : Nat) (hx : a.eval x = .slice (some ad) m c) (news : List Value) (hl : news.length = m * sz)
    (hnews : ∀ j u, news[j]? = some u → w.cell? (ad.add j) = some u) (h1 : ∀ u ∈ news, u.oneCell' = true)
    (hbytes : (n + m) * bytes ≤ 140737488355328) (hbase : base ≤ w.heap.size)
    (h : ∀ p' cap' w', w'.ownsRow base e sz (.slice p' (n + m) cap') (n + m) (xs ++ news) → w.grownBy w' (blk p) → Hid (∀ k, blk p' = some k → blk p = some k ∨ w.heap.size ≤ k) → K (a.put o.dst (.slice p' (n + m) cap')) w') :
    if Region.wanted o (yielded ops a.tmps) = true then Oper.wp P o a w K Q else E := by
  obtain ⟨p', cap', w', hr, h2, h3, h4⟩ := run_append_row (P := P) w base t o.type e sz bytes z ht hi hzs hsz hb0 p n cap xs hown ad m c news hl hnews h1 hbytes hbase
  rw [if_pos (by simp [Region.wanted, hgd])]
  unfold Oper.wp execOp
  simp only [ho, resolve, invoke, builtin, Sem.run_bind, Sem.run_pure, Result.andThen_ok, List.map_toArray, List.map_cons, List.map_nil, hs, hx, hr]
  exact h p' cap' w' h2 h3 h4

/-- The cells of one element in a new block. -/
theorem news_one (w : World) (cs : List Value) (t : TypeId) : ∀ j u, cs[j]? = some u → (w.alloc (.cells cs.toArray t)).cell? ((⟨w.heap.size, 0, none⟩ : Addr).add j) = some u := by
  intro j u hj
  rw [Addr.add_lit, Nat.zero_add, World.cell?_alloc_at _ _ _ _ rfl]
  simpa using hj

/-- 'p[k:]', the address behind one name. -/
theorem slice_from {P : Program} (t : TypeId) (ht : P.underlying t = some (.slice 5)) (hsz : ∀ w : World, (sizeOf 5).run P w = .ok 1 w) {w : World} {p : Option Addr} {n cap : Nat} {xs : List Int} (h : Src w p n xs) (k : Nat) (hk : k ≤ n) (hnc : n ≤ cap) :
    ∃ q, (∀ w', (Instr.slice t (.slice p n cap) (some (.int .i64 (k : Int))) none none).run P w' = .ok (.slice q (n - k) (cap - k)) w') ∧ Src w q (n - k) (xs.drop k) ∧ (q = none ↔ p = none) ∧ (∀ a, q = some a → ∃ b, p = some b ∧ a.block = b.block) := by
  have he : P.elem t = 5 := by simp [Program.elem, ht]
  refine ⟨if cap = k then p else p.map (·.add (k * 1)), fun w' => ?_, ⟨by simp [h.len], fun x hx => h.rng x (List.mem_of_mem_drop hx), fun hn => ?_⟩, ?_, ?_⟩
  · rw [run_slice_l w' t p n cap (by rw [he]; exact ht) .i64 (k : Int) (by omega) (by omega), he, hsz w']
    simp [Result.andThen, sliced]
  · obtain ⟨b, o, rfl, hc⟩ := h.mem (by omega)
    refine ⟨b, o + k, by rw [if_neg (by omega)]; simp [Addr.add_lit], fun i hi => ?_⟩
    rw [Nat.add_assoc, hc (k + i) (by omega)]
    simp [List.getD, List.getElem?_drop]
  · split
    · rfl
    · cases p <;> simp
  · intro a ha
    split at ha
    · exact ⟨a, ha, rfl⟩
    · cases p with
      | none => simp at ha
      | some b => simp at ha; subst ha; exact ⟨b, rfl, by unfold Addr.add; split <;> rfl⟩
/-- 'p[:k]'. -/
theorem slice_to {P : Program} (t : TypeId) (ht : P.underlying t = some (.slice 5)) (hsz : ∀ w : World, (sizeOf 5).run P w = .ok 1 w) (p : Option Addr) (n cap : Nat) (k : Nat) (hk : k ≤ cap) :
    ∀ w', (Instr.slice t (.slice p n cap) none (some (.int .i64 (k : Int))) none).run P w' = .ok (.slice p k cap) w' := by
  have he : P.elem t = 5 := by simp [Program.elem, ht]
  intro w'
  rw [run_slice_h w' t p n cap (by rw [he]; exact ht) .i64 (k : Int) (by omega) (by omega), he, hsz w']
  simp only [Result.andThen, sliced]
  congr 1
  cases p <;> simp [Addr.add]
end Go.Proofs.YtfipbmibcbalhaaDoor
