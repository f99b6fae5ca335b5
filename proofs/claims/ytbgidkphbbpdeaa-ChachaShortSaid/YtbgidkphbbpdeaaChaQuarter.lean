/- The contract of chacha's quarter. -/
import Derived.Test.YtbgidkphbbpdeaaChaBase
import Derived.Deep.RegionLaw
import Derived.StillTailTactics
namespace Go.Proofs.Ytbgidkphbbpdeaa
open Go.RowKit
set_option linter.unusedVariables false
set_option linter.unusedSimpArgs false

/-- Sixteen words in block B. -/
structure Grid (w : World) (B : Nat) (t : TypeId) (gs : List Nat) : Prop where
  cells : w.heap[B]? = some (.cells (gs.map fun (x : Nat) => Value.int .u32 (x : Int)).toArray t (0, 0))
  len : gs.length = 16
  lt : ∀ x ∈ gs, x < 4294967296
theorem Grid.fr {w w' : World} {B : Nat} {t : TypeId} {gs : List Nat} {T : Nat → Prop} (h : Grid w B t gs) (hf : Fr w w' T) (hB : ¬ T B) : Grid w' B t gs := ⟨hf.heap h.cells hB, h.len, h.lt⟩
theorem Grid.cell {w : World} {B : Nat} {t : TypeId} {gs : List Nat} (h : Grid w B t gs) (i : Nat) (hi : i < 16) : w.cell? ⟨B, i, none⟩ = some (.int .u32 (gs.getD i 0 : Nat)) := by
  rw [cell_of_row w B _ _ _ _ h.cells]
  have := h.len
  simp [List.getD, List.getElem?_eq_getElem (show i < gs.length by omega)]
theorem Grid.frozen {w : World} {B : Nat} {t : TypeId} {gs : List Nat} (h : Grid w B t gs) (i : Nat) : w.frozen? ⟨B, i, none⟩ = false := frozen_of_row w B _ _ _ h.cells
theorem Grid.getD_lt {w : World} {B : Nat} {t : TypeId} {gs : List Nat} (h : Grid w B t gs) (i : Nat) : gs.getD i 0 < 4294967296 := by
  by_cases hi : i < gs.length
  · have := h.lt (gs[i]) (List.getElem_mem _)
    simpa [List.getD, List.getElem?_eq_getElem hi] using this
  · simp [List.getD, List.getElem?_eq_none (by omega : gs.length ≤ i)]
theorem Grid.set {w : World} {B : Nat} {t : TypeId} {gs : List Nat} (h : Grid w B t gs) (i : Nat) (v : Nat) (hv : v < 4294967296) : Grid (w.setCell ⟨B, i, none⟩ (.int .u32 (v : Int))) B t (gs.set i v) := by
  refine ⟨?_, by simp [h.len], fun x hx => ?_⟩
  · rw [heap_setCell_same w B i _ _ _ h.cells]
    simp [List.map_set]
  · rcases List.mem_or_eq_of_mem_set hx with hx | rfl
    · exact h.lt x hx
    · exact hv
theorem Grid.drew {w : World} {B : Nat} {t : TypeId} {gs : List Nat} (h : Grid w B t gs) : Grid w.drew B t gs := ⟨h.cells, h.len, h.lt⟩

/-- Half of a quarter round. -/
def half (r1 r2 : Nat) (gs : List Nat) (a b c d : Nat) : List Nat :=
  let s1 := gs.set a ((gs.getD a 0 + gs.getD b 0) % 4294967296)
  let s2 := s1.set d (itL r1 (s1.getD d 0 ^^^ s1.getD a 0))
  let s3 := s2.set c ((s2.getD c 0 + s2.getD d 0) % 4294967296)
  s3.set b (itL r2 (s3.getD b 0 ^^^ s3.getD c 0))
def qround (gs : List Nat) (a b c d : Nat) : List Nat := half 8 7 (half 16 12 gs a b c d) a b c d

/-- The grid, and the two numbers of the round, in the world W. -/
structure QW (wr : World) (B nb : Nat) (t : TypeId) (r1 r2 : Int) (gs : List Nat) (W : World) : Prop where
  grid : Grid W B t gs
  n0 : W.cell? ⟨nb, 0, none⟩ = some (.int .i64 r1)
  n1 : W.cell? ⟨nb, 1, none⟩ = some (.int .i64 r2)
  fr : Fr wr W (fun k => k = B)
  ne : nb ≠ B
theorem QW.start {wr : World} {B : Nat} {t : TypeId} {r1 r2 : Int} {gs : List Nat} (h : Grid wr B t gs) (i v : Nat) (hv : v < 4294967296) :
    QW wr B wr.heap.size t r1 r2 (gs.set i v) ((wr.setCell ⟨B, i, none⟩ (.int .u32 (v : Int))).alloc (.cells #[.int .i64 r1, .int .i64 r2] 58)).drew := by
  have hB : B < wr.heap.size := (Array.getElem?_eq_some_iff.1 h.cells).1
  have hs : (wr.setCell ⟨B, i, none⟩ (.int .u32 (v : Int))).heap.size = wr.heap.size := by simp [World.setCell]
  have hn := heap_alloc_new (wr.setCell ⟨B, i, none⟩ (.int .u32 (v : Int))) (.cells #[.int .i64 r1, .int .i64 r2] 58)
  rw [hs] at hn
  refine ⟨((h.set i v hv).fr (Fr.alloc _ _) (fun h => h)).drew, ?_, ?_, ?_, by omega⟩
  · show ((wr.setCell ⟨B, i, none⟩ (.int .u32 (v : Int))).alloc _).cell? _ = _
    rw [cell_of_row _ _ _ _ _ _ hn]; rfl
  · show ((wr.setCell ⟨B, i, none⟩ (.int .u32 (v : Int))).alloc _).cell? _ = _
    rw [cell_of_row _ _ _ _ _ _ hn]; rfl
  · exact ((Fr.setCell wr ⟨B, i, none⟩ _).trans ((Fr.alloc _ _).trans (Fr.drew _))).mono (by simp)
theorem QW.set {wr : World} {B nb : Nat} {t : TypeId} {r1 r2 : Int} {gs : List Nat} {W : World} (h : QW wr B nb t r1 r2 gs W) (i v : Nat) (hv : v < 4294967296) : QW wr B nb t r1 r2 (gs.set i v) (W.setCell ⟨B, i, none⟩ (.int .u32 (v : Int))).drew :=
  ⟨(h.grid.set i v hv).drew, (Fr.setCell W ⟨B, i, none⟩ _).cell h.n0 h.ne, (Fr.setCell W ⟨B, i, none⟩ _).cell h.n1 h.ne, (h.fr.set ⟨B, i, none⟩ _ rfl).trans (Fr.drew _) |>.mono (by simp), h.ne⟩

theorem QW.begin {w wr : World} {B : Nat} {t : TypeId} {r1 r2 : Int} {gs : List Nat} (h : Grid wr B t gs) (hf : Fr w wr (fun k => k = B)) :
    QW w B wr.heap.size t r1 r2 gs (wr.alloc (.cells #[.int .i64 r1, .int .i64 r2] 58)) := by
  have hB : B < wr.heap.size := (Array.getElem?_eq_some_iff.1 h.cells).1
  have hn := heap_alloc_new wr (.cells #[.int .i64 r1, .int .i64 r2] 58)
  refine ⟨h.fr (Fr.alloc _ _) (fun h => h), ?_, ?_, ?_, by omega⟩
  · rw [cell_of_row _ _ _ _ _ _ hn]; rfl
  · rw [cell_of_row _ _ _ _ _ _ hn]; rfl
  · exact (hf.trans (Fr.alloc _ _)).mono (by simp)
theorem QW.store {wr : World} {B nb : Nat} {t : TypeId} {r1 r2 : Int} {gs : List Nat} {W : World} (h : QW wr B nb t r1 r2 gs W) (i v : Nat) (hv : v < 4294967296) : QW wr B nb t r1 r2 (gs.set i v) (W.drew.setCell ⟨B, i, none⟩ (.int .u32 (v : Int))) :=
  ⟨h.grid.drew.set i v hv, (Fr.setCell W.drew ⟨B, i, none⟩ _).cell h.n0 h.ne, (Fr.setCell W.drew ⟨B, i, none⟩ _).cell h.n1 h.ne, ((h.fr.trans (Fr.drew _)).mono (U := fun k => k = B) (by simp)).set ⟨B, i, none⟩ _ rfl, h.ne⟩

theorem ix0 (w : World) : (Instr.index 59 (.agg #[.int .i64 16, .int .i64 12, .int .i64 8, .int .i64 7]) (.int .i64 0)).run Try.prog w = .ok (.agg #[.int .i64 16, .int .i64 12]) w := by kernel_rfl
theorem ix1 (w : World) : (Instr.index 59 (.agg #[.int .i64 16, .int .i64 12, .int .i64 8, .int .i64 7]) (.int .i64 1)).run Try.prog w = .ok (.agg #[.int .i64 8, .int .i64 7]) w := by kernel_rfl

set_option maxRecDepth 100000 in
set_option maxHeartbeats 1600000 in
theorem quarter_any (B : Nat) (t : TypeId) (gs : List Nat) (a b c d : Nat) (ha : a < 16) (hb : b < 16) (hc : c < 16) (hd : d < 16) (w : World) (h : Grid w B t gs) :
    Calls Try.prog 22 #[.pointer (some ⟨B, 0, none⟩), .int .i64 (a : Int), .int .i64 (b : Int), .int .i64 (c : Int), .int .i64 (d : Int)] w fun e w' => e = .returned (.tuple #[]) ∧ Grid w' B t (qround gs a b c d) ∧ Fr w w' (fun k => k = B) := by
  have H := Lib.hid h
  have hai : (a : Int) < 16 := by omega
  have hbi : (b : Int) < 16 := by omega
  have hci : (c : Int) < 16 := by omega
  have hdi : (d : Int) < 16 := by omega
  clear h
  go_enter Try.func22, Try.ntmps22
  go_wp2_with fail
  go_loopw [15] (fun v wr => ∃ (i : Nat) (fs : List Nat), v = .int .i64 i ∧ i ≤ 2 ∧ Grid wr B t fs ∧ Fr w wr (fun k => k = B) ∧ fs = (if i = 0 then gs else if i = 1 then half 16 12 gs a b c d else qround gs a b c d)) (fun v _ => 2 - (intOf v).toNat)
  case atStart => exact ⟨0, gs, rfl, by omega, H.out, Fr.refl _ _, rfl⟩
  case round =>
    obtain ⟨i, fs, rfl, hi, hG, hF, hfs⟩ := hrel
    rcases (by omega : i = 0 ∨ i = 1 ∨ i = 2) with rfl | rfl | rfl
    · have HFS := Lib.hid hfs
      clear hfs
      have Q0 := Lib.hid (QW.begin (r1 := 16) (r2 := 12) hG hF)
      have e0 := ix0 wr
      clear hG hF
      go_wp2_with fail
      clear e0
      obtain ⟨W0, hW⟩ : ∃ W, W = wr.alloc (.cells #[.int .i64 16, .int .i64 12] 58) := ⟨_, rfl⟩
      rw [← hW] at Q0 ⊢
      clear hW

      obtain ⟨x, hx⟩ : ∃ x, fs.getD a 0 = x := ⟨_, rfl⟩
      obtain ⟨y, hy⟩ : ∃ x, fs.getD b 0 = x := ⟨_, rfl⟩
      have G := Q0.out.grid.drew
      have cp := G.cell a ha
      have cq := G.cell b hb
      have fp := G.frozen a
      have lp := G.getD_lt a
      have lq := G.getD_lt b
      rw [hx] at cp lp
      rw [hy] at cq lq
      obtain ⟨v, hv⟩ : ∃ v, (x + y) % 4294967296 = v := ⟨_, rfl⟩
      have sv : IntKind.u32.wrap ((x : Int) + y) = (v : Int) := by rw [IntKind.wrap_u32]; omega
      have hvl : v < 4294967296 := by omega
      obtain ⟨s1, hs1⟩ : ∃ s, s = fs.set a v := ⟨_, rfl⟩
      have Q1 := Lib.hid (Q0.out.store a v hvl)
      rw [← hs1] at Q1
      have HS1 := Lib.hid (show s1 = fs.set a ((fs.getD a 0 + fs.getD b 0) % 4294967296) by rw [hx, hy, hv]; exact hs1)
      clear hx hy hv hs1 G
      go_wp2_with fail
      go_still_tail 13, (by kernel_rfl)
      change wpList _ _ _ _ _ W0.drew
      generalize hW : W0.drew = w2 at cp cq fp ⊢
      go_wp2_with fail
      rw [← hW]
      clear hW cp cq fp lp lq sv hvl
      obtain ⟨W1, hW⟩ : ∃ W, W = W0.drew.setCell ⟨B, a, none⟩ (.int .u32 (v : Int)) := ⟨_, rfl⟩
      rw [← hW] at Q1 ⊢
      clear hW

      obtain ⟨x, hx⟩ : ∃ x, s1.getD d 0 = x := ⟨_, rfl⟩
      obtain ⟨y, hy⟩ : ∃ x, s1.getD a 0 = x := ⟨_, rfl⟩
      have G := Q1.out.grid.drew
      have cp := G.cell d hd
      have cq := G.cell a ha
      have fp := G.frozen d
      have lp := G.getD_lt d
      have lq := G.getD_lt a
      rw [hx] at cp lp
      rw [hy] at cq lq
      obtain ⟨z, hz⟩ : ∃ z, x ^^^ y = z := ⟨_, rfl⟩
      have hzl : z < 4294967296 := by rw [← hz]; exact Nat.xor_lt_two_pow (n := 32) lp lq
      have bz : bits BinOp.xor IntKind.u32 (x : Int) (y : Int) = (z : Int) := by rw [bits_xor_u32_nat x y lp lq, hz]
      obtain ⟨v, hv⟩ : ∃ v, itL 16 z = v := ⟨_, rfl⟩
      have K := Lib.hid (rot16 z (by omega))
      rw [hv] at K
      have hvl : v < 4294967296 := by rw [← hv]; exact itL_lt z hzl 16
      have n0 : W1.drew.cell? ⟨wr.heap.size, 0, none⟩ = some (.int .i64 16) := Q1.out.n0
      obtain ⟨s2, hs2⟩ : ∃ s, s = s1.set d v := ⟨_, rfl⟩
      have Q2 := Lib.hid (Q1.out.store d v hvl)
      rw [← hs2] at Q2
      have HS2 := Lib.hid (show s2 = s1.set d (itL 16 (s1.getD d 0 ^^^ s1.getD a 0)) by rw [hx, hy, hz, hv]; exact hs2)
      clear hx hy hz hv hs2 G
      go_wp2_with fail
      go_still_tail 18, (by kernel_rfl)
      still_call ((K.out _).mono (fun _ _ h => ⟨h.1, h.2.symm⟩))
      repeat still_step
      try refine wpStill_nil ?_
      change wpList _ _ _ _ _ W1.drew
      generalize hW : W1.drew = w2 at cp cq fp n0 ⊢
      go_wp2_with fail
      rw [← hW]
      clear hW cp cq fp n0 lp lq bz hvl hzl K
      obtain ⟨W2, hW⟩ : ∃ W, W = W1.drew.setCell ⟨B, d, none⟩ (.int .u32 (v : Int)) := ⟨_, rfl⟩
      rw [← hW] at Q2 ⊢
      clear hW

      obtain ⟨x, hx⟩ : ∃ x, s2.getD c 0 = x := ⟨_, rfl⟩
      obtain ⟨y, hy⟩ : ∃ x, s2.getD d 0 = x := ⟨_, rfl⟩
      have G := Q2.out.grid.drew
      have cp := G.cell c hc
      have cq := G.cell d hd
      have fp := G.frozen c
      have lp := G.getD_lt c
      have lq := G.getD_lt d
      rw [hx] at cp lp
      rw [hy] at cq lq
      obtain ⟨v, hv⟩ : ∃ v, (x + y) % 4294967296 = v := ⟨_, rfl⟩
      have sv : IntKind.u32.wrap ((x : Int) + y) = (v : Int) := by rw [IntKind.wrap_u32]; omega
      have hvl : v < 4294967296 := by omega
      obtain ⟨s3, hs3⟩ : ∃ s, s = s2.set c v := ⟨_, rfl⟩
      have Q3 := Lib.hid (Q2.out.store c v hvl)
      rw [← hs3] at Q3
      have HS3 := Lib.hid (show s3 = s2.set c ((s2.getD c 0 + s2.getD d 0) % 4294967296) by rw [hx, hy, hv]; exact hs3)
      clear hx hy hv hs3 G
      go_wp2_with fail
      go_still_tail 13, (by kernel_rfl)
      change wpList _ _ _ _ _ W2.drew
      generalize hW : W2.drew = w2 at cp cq fp ⊢
      go_wp2_with fail
      rw [← hW]
      clear hW cp cq fp lp lq sv hvl
      obtain ⟨W3, hW⟩ : ∃ W, W = W2.drew.setCell ⟨B, c, none⟩ (.int .u32 (v : Int)) := ⟨_, rfl⟩
      rw [← hW] at Q3 ⊢
      clear hW

      obtain ⟨x, hx⟩ : ∃ x, s3.getD b 0 = x := ⟨_, rfl⟩
      obtain ⟨y, hy⟩ : ∃ x, s3.getD c 0 = x := ⟨_, rfl⟩
      have G := Q3.out.grid.drew
      have cp := G.cell b hb
      have cq := G.cell c hc
      have fp := G.frozen b
      have lp := G.getD_lt b
      have lq := G.getD_lt c
      rw [hx] at cp lp
      rw [hy] at cq lq
      obtain ⟨z, hz⟩ : ∃ z, x ^^^ y = z := ⟨_, rfl⟩
      have hzl : z < 4294967296 := by rw [← hz]; exact Nat.xor_lt_two_pow (n := 32) lp lq
      have bz : bits BinOp.xor IntKind.u32 (x : Int) (y : Int) = (z : Int) := by rw [bits_xor_u32_nat x y lp lq, hz]
      obtain ⟨v, hv⟩ : ∃ v, itL 12 z = v := ⟨_, rfl⟩
      have K := Lib.hid (rot12 z (by omega))
      rw [hv] at K
      have hvl : v < 4294967296 := by rw [← hv]; exact itL_lt z hzl 12
      have n0 : W3.drew.cell? ⟨wr.heap.size, 1, none⟩ = some (.int .i64 12) := Q3.out.n1
      obtain ⟨s4, hs4⟩ : ∃ s, s = s3.set b v := ⟨_, rfl⟩
      have Q4 := Lib.hid (Q3.out.store b v hvl)
      rw [← hs4] at Q4
      have HS4 := Lib.hid (show s4 = s3.set b (itL 12 (s3.getD b 0 ^^^ s3.getD c 0)) by rw [hx, hy, hz, hv]; exact hs4)
      clear hx hy hz hv hs4 G
      go_wp2_with fail
      go_still_tail 18, (by kernel_rfl)
      still_call ((K.out _).mono (fun _ _ h => ⟨h.1, h.2.symm⟩))
      repeat still_step
      try refine wpStill_nil ?_
      change wpList _ _ _ _ _ W3.drew
      generalize hW : W3.drew = w2 at cp cq fp n0 ⊢
      go_wp2_with fail
      rw [← hW]
      clear hW cp cq fp n0 lp lq bz hvl hzl K
      obtain ⟨W4, hW⟩ : ∃ W, W = W3.drew.setCell ⟨B, b, none⟩ (.int .u32 (v : Int)) := ⟨_, rfl⟩
      rw [← hW] at Q4 ⊢
      clear hW

      have E : s4 = half 16 12 fs a b c d := by
        simp only [half]
        rw [← HS1.out, ← HS2.out, ← HS3.out, ← HS4.out]
      have HE := Lib.hid E
      clear E
      go_wp2_with fail
      go_roundw
      case rel => exact ⟨1, s4, by go_num, by omega, Q4.out.grid, Q4.out.fr, by rw [HE.out, HFS.out]; rfl⟩
      case measure => simp [intOf]
    · have HFS := Lib.hid hfs
      clear hfs
      have Q0 := Lib.hid (QW.begin (r1 := 8) (r2 := 7) hG hF)
      have e0 := ix1 wr
      clear hG hF
      go_wp2_with fail
      clear e0
      obtain ⟨W0, hW⟩ : ∃ W, W = wr.alloc (.cells #[.int .i64 8, .int .i64 7] 58) := ⟨_, rfl⟩
      rw [← hW] at Q0 ⊢
      clear hW

      obtain ⟨x, hx⟩ : ∃ x, fs.getD a 0 = x := ⟨_, rfl⟩
      obtain ⟨y, hy⟩ : ∃ x, fs.getD b 0 = x := ⟨_, rfl⟩
      have G := Q0.out.grid.drew
      have cp := G.cell a ha
      have cq := G.cell b hb
      have fp := G.frozen a
      have lp := G.getD_lt a
      have lq := G.getD_lt b
      rw [hx] at cp lp
      rw [hy] at cq lq
      obtain ⟨v, hv⟩ : ∃ v, (x + y) % 4294967296 = v := ⟨_, rfl⟩
      have sv : IntKind.u32.wrap ((x : Int) + y) = (v : Int) := by rw [IntKind.wrap_u32]; omega
      have hvl : v < 4294967296 := by omega
      obtain ⟨s1, hs1⟩ : ∃ s, s = fs.set a v := ⟨_, rfl⟩
      have Q1 := Lib.hid (Q0.out.store a v hvl)
      rw [← hs1] at Q1
      have HS1 := Lib.hid (show s1 = fs.set a ((fs.getD a 0 + fs.getD b 0) % 4294967296) by rw [hx, hy, hv]; exact hs1)
      clear hx hy hv hs1 G
      go_wp2_with fail
      go_still_tail 13, (by kernel_rfl)
      change wpList _ _ _ _ _ W0.drew
      generalize hW : W0.drew = w2 at cp cq fp ⊢
      go_wp2_with fail
      rw [← hW]
      clear hW cp cq fp lp lq sv hvl
      obtain ⟨W1, hW⟩ : ∃ W, W = W0.drew.setCell ⟨B, a, none⟩ (.int .u32 (v : Int)) := ⟨_, rfl⟩
      rw [← hW] at Q1 ⊢
      clear hW

      obtain ⟨x, hx⟩ : ∃ x, s1.getD d 0 = x := ⟨_, rfl⟩
      obtain ⟨y, hy⟩ : ∃ x, s1.getD a 0 = x := ⟨_, rfl⟩
      have G := Q1.out.grid.drew
      have cp := G.cell d hd
      have cq := G.cell a ha
      have fp := G.frozen d
      have lp := G.getD_lt d
      have lq := G.getD_lt a
      rw [hx] at cp lp
      rw [hy] at cq lq
      obtain ⟨z, hz⟩ : ∃ z, x ^^^ y = z := ⟨_, rfl⟩
      have hzl : z < 4294967296 := by rw [← hz]; exact Nat.xor_lt_two_pow (n := 32) lp lq
      have bz : bits BinOp.xor IntKind.u32 (x : Int) (y : Int) = (z : Int) := by rw [bits_xor_u32_nat x y lp lq, hz]
      obtain ⟨v, hv⟩ : ∃ v, itL 8 z = v := ⟨_, rfl⟩
      have K := Lib.hid (rot8 z (by omega))
      rw [hv] at K
      have hvl : v < 4294967296 := by rw [← hv]; exact itL_lt z hzl 8
      have n0 : W1.drew.cell? ⟨wr.heap.size, 0, none⟩ = some (.int .i64 8) := Q1.out.n0
      obtain ⟨s2, hs2⟩ : ∃ s, s = s1.set d v := ⟨_, rfl⟩
      have Q2 := Lib.hid (Q1.out.store d v hvl)
      rw [← hs2] at Q2
      have HS2 := Lib.hid (show s2 = s1.set d (itL 8 (s1.getD d 0 ^^^ s1.getD a 0)) by rw [hx, hy, hz, hv]; exact hs2)
      clear hx hy hz hv hs2 G
      go_wp2_with fail
      go_still_tail 18, (by kernel_rfl)
      still_call ((K.out _).mono (fun _ _ h => ⟨h.1, h.2.symm⟩))
      repeat still_step
      try refine wpStill_nil ?_
      change wpList _ _ _ _ _ W1.drew
      generalize hW : W1.drew = w2 at cp cq fp n0 ⊢
      go_wp2_with fail
      rw [← hW]
      clear hW cp cq fp n0 lp lq bz hvl hzl K
      obtain ⟨W2, hW⟩ : ∃ W, W = W1.drew.setCell ⟨B, d, none⟩ (.int .u32 (v : Int)) := ⟨_, rfl⟩
      rw [← hW] at Q2 ⊢
      clear hW

      obtain ⟨x, hx⟩ : ∃ x, s2.getD c 0 = x := ⟨_, rfl⟩
      obtain ⟨y, hy⟩ : ∃ x, s2.getD d 0 = x := ⟨_, rfl⟩
      have G := Q2.out.grid.drew
      have cp := G.cell c hc
      have cq := G.cell d hd
      have fp := G.frozen c
      have lp := G.getD_lt c
      have lq := G.getD_lt d
      rw [hx] at cp lp
      rw [hy] at cq lq
      obtain ⟨v, hv⟩ : ∃ v, (x + y) % 4294967296 = v := ⟨_, rfl⟩
      have sv : IntKind.u32.wrap ((x : Int) + y) = (v : Int) := by rw [IntKind.wrap_u32]; omega
      have hvl : v < 4294967296 := by omega
      obtain ⟨s3, hs3⟩ : ∃ s, s = s2.set c v := ⟨_, rfl⟩
      have Q3 := Lib.hid (Q2.out.store c v hvl)
      rw [← hs3] at Q3
      have HS3 := Lib.hid (show s3 = s2.set c ((s2.getD c 0 + s2.getD d 0) % 4294967296) by rw [hx, hy, hv]; exact hs3)
      clear hx hy hv hs3 G
      go_wp2_with fail
      go_still_tail 13, (by kernel_rfl)
      change wpList _ _ _ _ _ W2.drew
      generalize hW : W2.drew = w2 at cp cq fp ⊢
      go_wp2_with fail
      rw [← hW]
      clear hW cp cq fp lp lq sv hvl
      obtain ⟨W3, hW⟩ : ∃ W, W = W2.drew.setCell ⟨B, c, none⟩ (.int .u32 (v : Int)) := ⟨_, rfl⟩
      rw [← hW] at Q3 ⊢
      clear hW

      obtain ⟨x, hx⟩ : ∃ x, s3.getD b 0 = x := ⟨_, rfl⟩
      obtain ⟨y, hy⟩ : ∃ x, s3.getD c 0 = x := ⟨_, rfl⟩
      have G := Q3.out.grid.drew
      have cp := G.cell b hb
      have cq := G.cell c hc
      have fp := G.frozen b
      have lp := G.getD_lt b
      have lq := G.getD_lt c
      rw [hx] at cp lp
      rw [hy] at cq lq
      obtain ⟨z, hz⟩ : ∃ z, x ^^^ y = z := ⟨_, rfl⟩
      have hzl : z < 4294967296 := by rw [← hz]; exact Nat.xor_lt_two_pow (n := 32) lp lq
      have bz : bits BinOp.xor IntKind.u32 (x : Int) (y : Int) = (z : Int) := by rw [bits_xor_u32_nat x y lp lq, hz]
      obtain ⟨v, hv⟩ : ∃ v, itL 7 z = v := ⟨_, rfl⟩
      have K := Lib.hid (rot7 z (by omega))
      rw [hv] at K
      have hvl : v < 4294967296 := by rw [← hv]; exact itL_lt z hzl 7
      have n0 : W3.drew.cell? ⟨wr.heap.size, 1, none⟩ = some (.int .i64 7) := Q3.out.n1
      obtain ⟨s4, hs4⟩ : ∃ s, s = s3.set b v := ⟨_, rfl⟩
      have Q4 := Lib.hid (Q3.out.store b v hvl)
      rw [← hs4] at Q4
      have HS4 := Lib.hid (show s4 = s3.set b (itL 7 (s3.getD b 0 ^^^ s3.getD c 0)) by rw [hx, hy, hz, hv]; exact hs4)
      clear hx hy hz hv hs4 G
      go_wp2_with fail
      go_still_tail 18, (by kernel_rfl)
      still_call ((K.out _).mono (fun _ _ h => ⟨h.1, h.2.symm⟩))
      repeat still_step
      try refine wpStill_nil ?_
      change wpList _ _ _ _ _ W3.drew
      generalize hW : W3.drew = w2 at cp cq fp n0 ⊢
      go_wp2_with fail
      rw [← hW]
      clear hW cp cq fp n0 lp lq bz hvl hzl K
      obtain ⟨W4, hW⟩ : ∃ W, W = W3.drew.setCell ⟨B, b, none⟩ (.int .u32 (v : Int)) := ⟨_, rfl⟩
      rw [← hW] at Q4 ⊢
      clear hW

      have E : s4 = half 8 7 fs a b c d := by
        simp only [half]
        rw [← HS1.out, ← HS2.out, ← HS3.out, ← HS4.out]
      have HE := Lib.hid E
      clear E
      go_wp2_with fail
      go_roundw
      case rel => exact ⟨2, s4, by go_num, by omega, Q4.out.grid, Q4.out.fr, by rw [HE.out, HFS.out]; rfl⟩
      case measure => simp [intOf]
    · have HFS := Lib.hid (show fs = qround gs a b c d by simpa using hfs)
      clear hfs
      go_wp2
      go_end0
      exact ⟨rfl, by rw [← HFS.out]; exact hG, hF⟩
end Go.Proofs.Ytbgidkphbbpdeaa
