/- A row of parts that comes in, opened; what the bulk bounds. -/
import Derived.Test.YtpdgbpoplljpkaaPackFew
import Derived.ChangeSlices
import Derived.ChangeSame
import Derived.Deep.Slices
import Derived.Deep.Fields
namespace Go.Proofs.Ytpdgbpoplljpkaa
open Go.RowKit Go.ChangeShapes Go.WideShapes Go.Deep
set_option linter.unusedVariables false
set_option linter.unusedSimpArgs false

theorem bulk_pos {H : Type} (d : DataW H) : 1 ≤ Rows.uptoBulk d := by
  cases d with
  | lit l => cases l <;> simp [Rows.uptoBulk]
  | _ => simp [Rows.uptoBulk]
theorem bulk_mem {H : Type} {d : DataW H} : ∀ {l : List (DataW H)}, d ∈ l → Rows.uptoBulk d ≤ Rows.uptoBulkAll l
  | x :: r, h => by
    simp only [Rows.uptoBulkAll]
    rcases List.mem_cons.1 h with e | e
    · subst e; omega
    · have := bulk_mem e; omega
theorem bulk_len {H : Type} : ∀ (l : List (DataW H)), l.length ≤ Rows.uptoBulkAll l
  | [] => by simp [Rows.uptoBulkAll]
  | x :: r => by have := bulk_pos x; have := bulk_len r; simp only [Rows.uptoBulkAll, List.length_cons]; omega

section
variable {H : Type} {enc : TypeId × Value → H} {w : World} {base : Nat} {held : Bool}

/-- One part that came in. -/
theorem part_open {n : Nat} {cs : List Value} {x : DataW H × List MemPlace} {b o : Nat} {s : Option Nat} (hc : ∀ j, j < 3 → w.cell? ⟨b, o + j, none⟩ = cs[j]?) (hl : cs.length = 3)
    (ht : DataW.trod enc Try.prog w base (fun _ => true) held n 42 cs = some x) :
    ∃ p : Pt, p.Ok w ∧ w.cell? ⟨b, o, none⟩ = some (.int .u8 p.k) ∧ w.cell? ⟨b, o + 1, none⟩ = some (.int .u64 (p.x : Int)) ∧ w.cell? ⟨b, o + 2, none⟩ = some (.slice p.q p.m p.c) ∧ p.m ≤ Rows.uptoBulk x.1 := by
  obtain ⟨ys, n', hn', hy, hlen, hyl, hf⟩ := DataW.trod_struct Try.underlying42 ht
  match cs, hl with
  | [v0, v1, v2], _ =>
    have k5 : Try.prog.cellsOf 5 = 1 := by kernel_rfl
    have k40 : Try.prog.cellsOf 40 = 1 := by kernel_rfl
    have k22 : Try.prog.cellsOf 22 = 1 := by kernel_rfl
    have g0 : DataW.trod enc Try.prog w base (fun _ => true) held n' 5 [v0] = ys[0]? := by have : DataW.trod enc Try.prog w base (fun _ => true) held n' 5 (List.take (Try.prog.cellsOf 5) (List.drop 0 [v0, v1, v2])) = ys[0]? := hf 0 _ rfl; rw [k5] at this; exact this
    have g1 : DataW.trod enc Try.prog w base (fun _ => true) held n' 40 [v1] = ys[1]? := by have : DataW.trod enc Try.prog w base (fun _ => true) held n' 40 (List.take (Try.prog.cellsOf 40) (List.drop 1 [v0, v1, v2])) = ys[1]? := hf 1 _ rfl; rw [k40] at this; exact this
    have g2 : DataW.trod enc Try.prog w base (fun _ => true) held n' 22 [v2] = ys[2]? := by have : DataW.trod enc Try.prog w base (fun _ => true) held n' 22 (List.take (Try.prog.cellsOf 22) (List.drop 2 [v0, v1, v2])) = ys[2]? := hf 2 _ rfl; rw [k22] at this; exact this
    have hyl3 : ys.length = 3 := hyl
    match ys, hyl3 with
    | [y0, y1, y2], _ =>
      simp only [List.getElem?_cons_zero, List.getElem?_cons_succ] at g0 g1 g2
      obtain ⟨z0, e0, _, w0⟩ := DataW.trod_int Try.underlying5 g0
      obtain ⟨z1, e1, _, w1⟩ := DataW.trod_int Try.underlying40 g1
      simp only [List.cons.injEq, and_true] at e0 e1
      subst e0 e1
      have r0 : 0 ≤ z0 ∧ z0 ≤ 255 := by simpa [Lit.wf, IntKind.min, IntKind.max, IntKind.signed, IntKind.bits] using w0
      have r1 : 0 ≤ z1 ∧ z1 ≤ 18446744073709551615 := by simpa [Lit.wf, IntKind.min, IntKind.max, IntKind.signed, IntKind.bits] using w1
      have c0 := hc 0 (by omega)
      have c1 := hc 1 (by omega)
      have c2 := hc 2 (by omega)
      simp only [List.getElem?_cons_zero, List.getElem?_cons_succ, Nat.add_zero] at c0 c1 c2
      have hbulk : Rows.uptoBulk y2.1 ≤ Rows.uptoBulk x.1 := by
        rw [hy]
        simp only [Rows.uptoBulk]
        have := bulk_mem (d := y2.1) (l := [y0.1, y1.1, y2.1]) (by simp)
        simpa using Nat.le_succ_of_le this
      rcases open_ints Try.underlying22 Try.underlying5 k5 g2 with ⟨e2, _⟩ | ⟨a, l, c, zs, e2, _, hlc, hm, hz, hd, hcell, hwz⟩
      · simp only [List.cons.injEq, and_true] at e2
        subst e2
        refine ⟨⟨z0, z1.toNat, none, 0, 0, []⟩, ⟨Src.nil _ _, fun _ => rfl, r0, by simp only; omega⟩, c0, ?_, c2, Nat.zero_le _⟩
        rw [c1]; simp only; congr 2; omega
      · simp only [List.cons.injEq, and_true] at e2
        subst e2
        have hz' : zs.length = c := by simpa using hz
        refine ⟨⟨z0, z1.toNat, some a, l, c, zs.take l⟩, ⟨Src.of_row hlc hz' hcell hwz, (fun h => by cases h), r0, by simp only; omega⟩, c0, ?_, c2, ?_⟩
        · rw [c1]; simp only; congr 2; omega
        · have h1 := bulk_len (lits (H := H) .u8 (zs.take l))
          have h2 : (lits (H := H) .u8 (zs.take l)).length = l := by simp [lits]; omega
          rw [hd] at hbulk
          simp only [Rows.uptoBulk] at hbulk
          simp only
          omega

/-- A row of parts that came in. -/
theorem parts_open {a : Option Addr} {len cap fuel : Nat} {x : DataW H × List MemPlace} (h : DataW.trod enc Try.prog w base (fun _ => true) held fuel 36 [.slice a len cap] = some x) :
    ∃ ps, Parts w a len ps ∧ (a = none → len = 0 ∧ cap = 0) ∧ ∀ p ∈ ps, p.m ≤ Rows.uptoBulk x.1 := by
  rcases open_slice Try.underlying36 h with ⟨hcs, _⟩ | ⟨a', len', cap', m, n, D, Pl, hcs, hb, hl, hm, hmm, hx, hi⟩
  · simp only [List.cons.injEq, and_true, Value.slice.injEq] at hcs
    obtain ⟨rfl, rfl, rfl⟩ := hcs
    exact ⟨[], ⟨rfl, by simp, fun h => by omega⟩, fun _ => ⟨rfl, rfl⟩, by simp⟩
  · simp only [List.cons.injEq, and_true, Value.slice.injEq] at hcs
    obtain ⟨rfl, rfl, rfl⟩ := hcs
    have k42 : Try.prog.cellsOf 42 = 3 := by kernel_rfl
    rw [k42] at hi hx
    obtain ⟨b, o, s⟩ := a'
    have hs : 0 < len → s = none := fun h0 => by
      obtain ⟨cs, hc, ht⟩ := hi 0 (by simp at hmm; omega)
      obtain ⟨_, hcl, hat⟩ := World.cells?_some hc
      have h1 := hat 0 (by omega)
      rw [List.getElem?_eq_getElem (by omega)] at h1
      simpa [Addr.add] using World.cell?_spot h1
    have hm' : m = cap := by simpa using hmm
    have key : ∀ k, k ≤ len → ∃ ps : List Pt, ps.length = k ∧ ∀ (i : Nat) (p : Pt), ps[i]? = some p → p.Ok w ∧ w.cell? ⟨b, o + i * 3, none⟩ = some (.int .u8 p.k) ∧ w.cell? ⟨b, o + i * 3 + 1, none⟩ = some (.int .u64 (p.x : Int)) ∧ w.cell? ⟨b, o + i * 3 + 2, none⟩ = some (.slice p.q p.m p.c) ∧ p.m ≤ Rows.uptoBulk x.1 := by
      intro k
      induction k with
      | zero => intro _; exact ⟨[], rfl, by simp⟩
      | succ k ih =>
        intro hk
        obtain ⟨ps, hpl, hps⟩ := ih (by omega)
        obtain ⟨cs, hc, ht⟩ := hi k (by omega)
        obtain ⟨_, hcl, hat⟩ := World.cells?_some hc
        obtain rfl := hs (by omega)
        obtain ⟨p, q1, q2, q3, q4, q5⟩ := part_open (b := b) (o := o + k * 3) (s := none) (fun j hj => by have := hat j hj; rw [Addr.add_lit, Addr.add_lit] at this; exact this) hcl ht
        refine ⟨ps ++ [p], by simp [hpl], fun i p' hp' => ?_⟩
        by_cases hik : i < ps.length
        · rw [List.getElem?_append_left hik] at hp'
          exact hps i p' hp'
        · have : i = k := by
            have := (List.getElem?_eq_some_iff.1 hp').1
            simp at this; omega
          subst this
          rw [List.getElem?_append_right (by omega)] at hp'
          simp [hpl] at hp'
          subst hp'
          refine ⟨q1, q2, q3, q4, Nat.le_trans q5 ?_⟩
          rw [hx]
          simp only [Rows.uptoBulk]
          have := bulk_mem (d := D i) (l := (List.range len).map D) (List.mem_map.2 ⟨i, List.mem_range.2 (by omega), rfl⟩)
          omega
    obtain ⟨ps, hpl, hps⟩ := key len (Nat.le_refl _)
    refine ⟨ps, ⟨hpl, fun p hp => ?_, fun h0 => ?_⟩, (fun h => by cases h), fun p hp => ?_⟩
    · obtain ⟨i, hi, rfl⟩ := List.mem_iff_getElem.1 hp
      exact (hps i _ (List.getElem?_eq_getElem hi)).1
    · obtain rfl := hs h0
      exact ⟨b, o, rfl, fun i p hp => ⟨(hps i p hp).2.1, (hps i p hp).2.2.1, (hps i p hp).2.2.2.1⟩⟩
    · obtain ⟨i, hi, rfl⟩ := List.mem_iff_getElem.1 hp
      exact (hps i _ (List.getElem?_eq_getElem hi)).2.2.2.2
end
end Go.Proofs.Ytpdgbpoplljpkaa
