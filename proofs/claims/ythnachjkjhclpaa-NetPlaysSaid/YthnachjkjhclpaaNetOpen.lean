/- A row of calls that comes in, opened. -/
import Derived.Test.YthnachjkjhclpaaNetRef
import Derived.ChangeSlices
import Derived.ChangeSame
import Derived.Deep.Slices
import Derived.Deep.Fields
namespace Go.Proofs.Ythnachjkjhclpaa
open Go.RowKit Go.ChangeShapes Go.WideShapes Go.Deep
set_option linter.unusedVariables false
set_option linter.unusedSimpArgs false

section
variable {H : Type} {enc : TypeId × Value → H} {w : World} {base : Nat} {held : Bool}

/-- One letter that came in. -/
theorem letter_open {n : Nat} {v0 v1 v2 : Value} {x : DataW H × List MemPlace} (ht : DataW.trod enc Try.prog w base (fun _ => true) held n 27 [v0, v1, v2] = some x) :
    ∃ l : Lt, l.Ok w ∧ v0 = .int .i64 l.f ∧ v1 = .int .i64 l.t ∧ v2 = .slice l.q l.m l.c := by
  obtain ⟨ys, n', hn', hy, hlen, hyl, hf⟩ := DataW.trod_struct Try.underlying27 ht
  have k3 : Try.prog.cellsOf 3 = 1 := by kernel_rfl
  have k5 : Try.prog.cellsOf 5 = 1 := by kernel_rfl
  have k25 : Try.prog.cellsOf 25 = 1 := by kernel_rfl
  have g0 : DataW.trod enc Try.prog w base (fun _ => true) held n' 3 [v0] = ys[0]? := by have : DataW.trod enc Try.prog w base (fun _ => true) held n' 3 (List.take (Try.prog.cellsOf 3) (List.drop 0 [v0, v1, v2])) = ys[0]? := hf 0 _ rfl; rw [k3] at this; exact this
  have g1 : DataW.trod enc Try.prog w base (fun _ => true) held n' 3 [v1] = ys[1]? := by have : DataW.trod enc Try.prog w base (fun _ => true) held n' 3 (List.take (Try.prog.cellsOf 3) (List.drop 1 [v0, v1, v2])) = ys[1]? := hf 1 _ rfl; rw [k3] at this; exact this
  have g2 : DataW.trod enc Try.prog w base (fun _ => true) held n' 25 [v2] = ys[2]? := by have : DataW.trod enc Try.prog w base (fun _ => true) held n' 25 (List.take (Try.prog.cellsOf 25) (List.drop 2 [v0, v1, v2])) = ys[2]? := hf 2 _ rfl; rw [k25] at this; exact this
  have hyl3 : ys.length = 3 := hyl
  match ys, hyl3 with
  | [y0, y1, y2], _ =>
    simp only [List.getElem?_cons_zero, List.getElem?_cons_succ] at g0 g1 g2
    obtain ⟨z0, e0, _, w0⟩ := DataW.trod_int Try.underlying3 g0
    obtain ⟨z1, e1, _, w1⟩ := DataW.trod_int Try.underlying3 g1
    simp only [List.cons.injEq, and_true] at e0 e1
    rcases open_ints Try.underlying25 Try.underlying5 k5 g2 with ⟨e2, _⟩ | ⟨a, l, c, zs, e2, _, hlc, hm, hz, hd, hcell, hwz⟩
    · simp only [List.cons.injEq, and_true] at e2
      exact ⟨⟨z0, z1, none, 0, 0, []⟩, ⟨Src.nil _ _, fun _ => ⟨rfl, rfl⟩⟩, e0, e1, e2⟩
    · simp only [List.cons.injEq, and_true] at e2
      have hz' : zs.length = c := by simpa using hz
      exact ⟨⟨z0, z1, some a, l, c, zs.take l⟩, ⟨Src.of_row hlc hz' hcell hwz, (fun h => by cases h)⟩, e0, e1, e2⟩

/-- One call that came in. -/
theorem op_open {n : Nat} {cs : List Value} {x : DataW H × List MemPlace} {b o : Nat} (hc : ∀ j, j < 5 → w.cell? ⟨b, o + j, none⟩ = cs[j]?) (hl : cs.length = 5)
    (ht : DataW.trod enc Try.prog w base (fun _ => true) held n 42 cs = some x) :
    ∃ p : OpV, p.Ok w ∧ w.cell? ⟨b, o, none⟩ = some (.int .u8 p.k) ∧ w.cell? ⟨b, o + 1, none⟩ = some (.int .i64 p.i) ∧ w.cell? ⟨b, o + 2, none⟩ = some (.int .i64 p.l.f) ∧ w.cell? ⟨b, o + 3, none⟩ = some (.int .i64 p.l.t) ∧ w.cell? ⟨b, o + 4, none⟩ = some (.slice p.l.q p.l.m p.l.c) := by
  obtain ⟨ys, n', hn', hy, hlen, hyl, hf⟩ := DataW.trod_struct Try.underlying42 ht
  match cs, hl with
  | [v0, v1, v2, v3, v4], _ =>
    have k3 : Try.prog.cellsOf 3 = 1 := by kernel_rfl
    have k5 : Try.prog.cellsOf 5 = 1 := by kernel_rfl
    have k27 : Try.prog.cellsOf 27 = 3 := by kernel_rfl
    have g0 : DataW.trod enc Try.prog w base (fun _ => true) held n' 5 [v0] = ys[0]? := by have : DataW.trod enc Try.prog w base (fun _ => true) held n' 5 (List.take (Try.prog.cellsOf 5) (List.drop 0 [v0, v1, v2, v3, v4])) = ys[0]? := hf 0 _ rfl; rw [k5] at this; exact this
    have g1 : DataW.trod enc Try.prog w base (fun _ => true) held n' 3 [v1] = ys[1]? := by have : DataW.trod enc Try.prog w base (fun _ => true) held n' 3 (List.take (Try.prog.cellsOf 3) (List.drop 1 [v0, v1, v2, v3, v4])) = ys[1]? := hf 1 _ rfl; rw [k3] at this; exact this
    have g2 : DataW.trod enc Try.prog w base (fun _ => true) held n' 27 [v2, v3, v4] = ys[2]? := by have : DataW.trod enc Try.prog w base (fun _ => true) held n' 27 (List.take (Try.prog.cellsOf 27) (List.drop 2 [v0, v1, v2, v3, v4])) = ys[2]? := hf 2 _ rfl; rw [k27] at this; exact this
    have hyl3 : ys.length = 3 := hyl
    match ys, hyl3 with
    | [y0, y1, y2], _ =>
      simp only [List.getElem?_cons_zero, List.getElem?_cons_succ] at g0 g1 g2
      obtain ⟨z0, e0, _, w0⟩ := DataW.trod_int Try.underlying5 g0
      obtain ⟨z1, e1, _, w1⟩ := DataW.trod_int Try.underlying3 g1
      obtain ⟨l, hl, e2, e3, e4⟩ := letter_open g2
      simp only [List.cons.injEq, and_true] at e0 e1
      subst e0 e1 e2 e3 e4
      have r0 : 0 ≤ z0 ∧ z0 ≤ 255 := by simpa [Lit.wf, IntKind.min, IntKind.max, IntKind.signed, IntKind.bits] using w0
      have r1 : -9223372036854775808 ≤ z1 ∧ z1 ≤ 9223372036854775807 := by simpa [Lit.wf, IntKind.min, IntKind.max, IntKind.signed, IntKind.bits] using w1
      exact ⟨⟨z0, z1, l⟩, ⟨hl, r0, r1⟩, hc 0 (by omega), hc 1 (by omega), hc 2 (by omega), hc 3 (by omega), hc 4 (by omega)⟩

/-- A row of calls that came in. -/
theorem ops_open {a : Option Addr} {len cap fuel : Nat} {x : DataW H × List MemPlace} (h : DataW.trod enc Try.prog w base (fun _ => true) held fuel 36 [.slice a len cap] = some x) :
    ∃ ps, Ops w a len ps := by
  rcases open_slice Try.underlying36 h with ⟨hcs, _⟩ | ⟨a', len', cap', m, n, D, Pl, hcs, hb, hl, hm, hmm, hx, hi⟩
  · simp only [List.cons.injEq, and_true, Value.slice.injEq] at hcs
    obtain ⟨rfl, rfl, rfl⟩ := hcs
    exact ⟨[], ⟨rfl, by simp, fun h => by omega⟩⟩
  · simp only [List.cons.injEq, and_true, Value.slice.injEq] at hcs
    obtain ⟨rfl, rfl, rfl⟩ := hcs
    have k42 : Try.prog.cellsOf 42 = 5 := by kernel_rfl
    rw [k42] at hi hx
    obtain ⟨b, o, s⟩ := a'
    have hs : 0 < len → s = none := fun h0 => by
      obtain ⟨cs, hc, ht⟩ := hi 0 (by simp at hmm; omega)
      obtain ⟨_, hcl, hat⟩ := World.cells?_some hc
      have h1 := hat 0 (by omega)
      rw [List.getElem?_eq_getElem (by omega)] at h1
      simpa [Addr.add] using World.cell?_spot h1
    have hm' : m = cap := by simpa using hmm
    have key : ∀ k, k ≤ len → ∃ ps : List OpV, ps.length = k ∧ ∀ (i : Nat) (p : OpV), ps[i]? = some p → p.Ok w ∧ w.cell? ⟨b, o + i * 5, none⟩ = some (.int .u8 p.k) ∧ w.cell? ⟨b, o + i * 5 + 1, none⟩ = some (.int .i64 p.i) ∧ w.cell? ⟨b, o + i * 5 + 2, none⟩ = some (.int .i64 p.l.f) ∧ w.cell? ⟨b, o + i * 5 + 3, none⟩ = some (.int .i64 p.l.t) ∧ w.cell? ⟨b, o + i * 5 + 4, none⟩ = some (.slice p.l.q p.l.m p.l.c) := by
      intro k
      induction k with
      | zero => intro _; exact ⟨[], rfl, by simp⟩
      | succ k ih =>
        intro hk
        obtain ⟨ps, hpl, hps⟩ := ih (by omega)
        obtain ⟨cs, hc, ht⟩ := hi k (by omega)
        obtain ⟨_, hcl, hat⟩ := World.cells?_some hc
        obtain rfl := hs (by omega)
        obtain ⟨p, q1⟩ := op_open (b := b) (o := o + k * 5) (fun j hj => by have := hat j hj; rw [Addr.add_lit, Addr.add_lit] at this; exact this) hcl ht
        refine ⟨ps ++ [p], by simp [hpl], fun i p' hp' => ?_⟩
        by_cases hik : i < ps.length
        · rw [List.getElem?_append_left hik] at hp'
          exact hps i p' hp'
        · have : i = k := by
            have := (List.getElem?_eq_some_iff.1 hp').1
            simp at this; omega
          subst this
          rw [List.getElem?_append_right (by omega)] at hp'
          simp [hpl] at hp'
          subst hp'
          exact q1
    obtain ⟨ps, hpl, hps⟩ := key len (Nat.le_refl _)
    refine ⟨ps, ⟨hpl, fun p hp => ?_, fun h0 => ?_⟩⟩
    · obtain ⟨i, hi, rfl⟩ := List.mem_iff_getElem.1 hp
      exact (hps i _ (List.getElem?_eq_getElem hi)).1
    · obtain rfl := hs h0
      exact ⟨b, o, rfl, fun i p hp => (hps i p hp).2⟩
end
end Go.Proofs.Ythnachjkjhclpaa
