/- The contract of the reference's quarter (in work). -/
import Derived.Test.YtbgidkphbbpdeaaChaDouble
import Derived.Deep.Cut
namespace Go.Proofs.Ytbgidkphbbpdeaa
open Go.RowKit
set_option linter.unusedVariables false
set_option linter.unusedSimpArgs false

def gridVal (gs : List Nat) : Value := .agg (gs.map fun (x : Nat) => Value.int .u32 (x : Int)).toArray

structure QV (W0 : World) (B : Nat) (gs : List Nat) (W : World) : Prop where
  grid : Grid W B 43 gs
  fr : Fr W0 W (fun k => k = B)
theorem QV.store {W0 : World} {B : Nat} {gs : List Nat} {W : World} (h : QV W0 B gs W) (i v : Nat) (hv : v < 4294967296) : QV W0 B (gs.set i v) (W.drew.setCell ⟨B, i, none⟩ (.int .u32 (v : Int))) :=
  ⟨h.grid.drew.set i v hv, ((h.fr.trans (Fr.drew _)).mono (U := fun k => k = B) (by simp)).set ⟨B, i, none⟩ _ rfl⟩

theorem heap_setRow_new (w : World) (g : Nat) (cs old : Array Value) (t : TypeId) (hg : w.heap[g]? = some (.cells old t (0, 0))) : (w.setRow g cs).heap[g]? = some (.cells cs t (0, 0)) := setRow_heap w g old cs t _ hg
theorem below_setRow (w : World) (n g : Nat) (cs : Array Value) (h : n ≤ g) : Below n w (w.setRow g cs) :=
  ⟨rfl, rfl, rfl, by simp, fun k hk => setRow_other w g k cs (by omega)⟩

set_option maxRecDepth 100000 in
set_option maxHeartbeats 1600000 in
theorem refQuarter_any (gs : List Nat) (hl : gs.length = 16) (hx : ∀ x ∈ gs, x < 4294967296) (a b c d : Nat) (ha : a < 16) (hb : b < 16) (hc : c < 16) (hd : d < 16) (w : World) :
    Calls Try.prog 19 #[gridVal gs, .int .i64 (a : Int), .int .i64 (b : Int), .int .i64 (c : Int), .int .i64 (d : Int)] w fun e w' => e = .returned (gridVal (qround gs a b c d)) ∧ Below w.heap.size w w' := by
  obtain ⟨C, hC⟩ : ∃ C : Array Value, C = (gs.map fun (x : Nat) => Value.int .u32 (x : Int)).toArray := ⟨_, rfl⟩
  have hs : C.size = 16 := by rw [hC]; simp [hl]
  have HC := Lib.hid hC
  have HX := Lib.hid hx
  have HL := Lib.hid hl
  unfold gridVal
  rw [← hC]
  clear hC hx hl
  have hai : (a : Int) < 16 := by omega
  have hbi : (b : Int) < 16 := by omega
  have hci : (c : Int) < 16 := by omega
  have hdi : (d : Int) < 16 := by omega
  have Q0 : Hid (QV ((w.alloc (.cells C 43)).alloc (.cells #[.int .u32 0, .int .u32 0, .int .u32 0, .int .u32 0, .int .u32 0, .int .u32 0, .int .u32 0, .int .u32 0, .int .u32 0, .int .u32 0, .int .u32 0, .int .u32 0, .int .u32 0, .int .u32 0, .int .u32 0, .int .u32 0] 43)) w.heap.size gs ((w.alloc (.cells C 43)).alloc (.cells #[.int .u32 0, .int .u32 0, .int .u32 0, .int .u32 0, .int .u32 0, .int .u32 0, .int .u32 0, .int .u32 0, .int .u32 0, .int .u32 0, .int .u32 0, .int .u32 0, .int .u32 0, .int .u32 0, .int .u32 0, .int .u32 0] 43))) :=
    ⟨⟨by rw [← HC.out]; exact heap_alloc2_old w _ _, HL.out, HX.out⟩, Fr.refl _ _⟩
  go_enter Try.func19, Try.ntmps19
  go_wp2_with fail
  obtain ⟨W0, hW⟩ : ∃ W, W = (w.alloc (.cells C 43)).alloc (.cells #[.int .u32 0, .int .u32 0, .int .u32 0, .int .u32 0, .int .u32 0, .int .u32 0, .int .u32 0, .int .u32 0, .int .u32 0, .int .u32 0, .int .u32 0, .int .u32 0, .int .u32 0, .int .u32 0, .int .u32 0, .int .u32 0] 43) := ⟨_, rfl⟩
  rw [← hW] at Q0 ⊢
  have HW0 := Lib.hid hW
  clear hW

  obtain ⟨x, hx⟩ : ∃ x, gs.getD a 0 = x := ⟨_, rfl⟩
  obtain ⟨y, hy⟩ : ∃ x, gs.getD b 0 = x := ⟨_, rfl⟩
  have G := Q0.out.grid.drew
  have cp := G.cell a ha
  have cq := G.cell b hb
  have fp := G.frozen a
  have lp := G.getD_lt a
  have lq := G.getD_lt b
  rw [hx] at cp lp
  rw [hy] at cq lq
  obtain ⟨v, hv⟩ : ∃ v, (x + y) % 4294967296 = v := ⟨_, rfl⟩
  have sv : IntKind.u32.wrap ((x : Int) + y) = (v : Int) := by rw [IntKind.wrap_u32]; omega
  have hvl : v < 4294967296 := by omega
  obtain ⟨s1, hs1⟩ : ∃ s, s = gs.set a v := ⟨_, rfl⟩
  have Q1 := Lib.hid (Q0.out.store a v hvl)
  rw [← hs1] at Q1
  have HS1 := Lib.hid (show s1 = gs.set a ((gs.getD a 0 + gs.getD b 0) % 4294967296) by rw [hx, hy, hv]; exact hs1)
  clear hx hy hv hs1 G
  go_wp2_with fail
  go_still_tail 9, (by kernel_rfl)
  change wpList _ _ _ _ _ W0.drew
  generalize hW : W0.drew = w2 at cp cq fp ⊢
  go_wp2_with fail
  rw [← hW]
  clear hW cp cq fp lp lq sv hvl
  obtain ⟨W1, hW⟩ : ∃ W, W = W0.drew.setCell ⟨w.heap.size, a, none⟩ (.int .u32 (v : Int)) := ⟨_, rfl⟩
  rw [← hW] at Q1 ⊢
  clear hW

  obtain ⟨x, hx⟩ : ∃ x, s1.getD d 0 = x := ⟨_, rfl⟩
  obtain ⟨y, hy⟩ : ∃ x, s1.getD a 0 = x := ⟨_, rfl⟩
  have G := Q1.out.grid.drew
  have cp := G.cell d hd
  have cq := G.cell a ha
  have fp := G.frozen d
  have lp := G.getD_lt d
  have lq := G.getD_lt a
  rw [hx] at cp lp
  rw [hy] at cq lq
  obtain ⟨z, hz⟩ : ∃ z, x ^^^ y = z := ⟨_, rfl⟩
  have hzl : z < 4294967296 := by rw [← hz]; exact Nat.xor_lt_two_pow (n := 32) lp lq
  have bz : bits BinOp.xor IntKind.u32 (x : Int) (y : Int) = (z : Int) := by rw [bits_xor_u32_nat x y lp lq, hz]
  obtain ⟨v, hv⟩ : ∃ v, itL 16 z = v := ⟨_, rfl⟩
  have K := Lib.hid (left_any z 16 hzl (by decide))
  rw [hv] at K
  have hvl : v < 4294967296 := by rw [← hv]; exact itL_lt z hzl 16
  obtain ⟨s2, hs2⟩ : ∃ s, s = s1.set d v := ⟨_, rfl⟩
  have Q2 := Lib.hid (Q1.out.store d v hvl)
  rw [← hs2] at Q2
  have HS2 := Lib.hid (show s2 = s1.set d (itL 16 (s1.getD d 0 ^^^ s1.getD a 0)) by rw [hx, hy, hz, hv]; exact hs2)
  clear hx hy hz hv hs2 G
  go_wp2_with fail
  go_still_tail 10, (by kernel_rfl)
  still_call ((K.out _).mono (fun _ _ h => ⟨h.1, h.2.symm⟩))
  repeat still_step
  try refine wpStill_nil ?_
  change wpList _ _ _ _ _ W1.drew
  generalize hW : W1.drew = w2 at cp cq fp ⊢
  go_wp2_with fail
  rw [← hW]
  clear hW cp cq fp lp lq bz hvl hzl K
  obtain ⟨W2, hW⟩ : ∃ W, W = W1.drew.setCell ⟨w.heap.size, d, none⟩ (.int .u32 (v : Int)) := ⟨_, rfl⟩
  rw [← hW] at Q2 ⊢
  clear hW

  obtain ⟨x, hx⟩ : ∃ x, s2.getD c 0 = x := ⟨_, rfl⟩
  obtain ⟨y, hy⟩ : ∃ x, s2.getD d 0 = x := ⟨_, rfl⟩
  have G := Q2.out.grid.drew
  have cp := G.cell c hc
  have cq := G.cell d hd
  have fp := G.frozen c
  have lp := G.getD_lt c
  have lq := G.getD_lt d
  rw [hx] at cp lp
  rw [hy] at cq lq
  obtain ⟨v, hv⟩ : ∃ v, (x + y) % 4294967296 = v := ⟨_, rfl⟩
  have sv : IntKind.u32.wrap ((x : Int) + y) = (v : Int) := by rw [IntKind.wrap_u32]; omega
  have hvl : v < 4294967296 := by omega
  obtain ⟨s3, hs3⟩ : ∃ s, s = s2.set c v := ⟨_, rfl⟩
  have Q3 := Lib.hid (Q2.out.store c v hvl)
  rw [← hs3] at Q3
  have HS3 := Lib.hid (show s3 = s2.set c ((s2.getD c 0 + s2.getD d 0) % 4294967296) by rw [hx, hy, hv]; exact hs3)
  clear hx hy hv hs3 G
  go_wp2_with fail
  go_still_tail 9, (by kernel_rfl)
  change wpList _ _ _ _ _ W2.drew
  generalize hW : W2.drew = w2 at cp cq fp ⊢
  go_wp2_with fail
  rw [← hW]
  clear hW cp cq fp lp lq sv hvl
  obtain ⟨W3, hW⟩ : ∃ W, W = W2.drew.setCell ⟨w.heap.size, c, none⟩ (.int .u32 (v : Int)) := ⟨_, rfl⟩
  rw [← hW] at Q3 ⊢
  clear hW

  obtain ⟨x, hx⟩ : ∃ x, s3.getD b 0 = x := ⟨_, rfl⟩
  obtain ⟨y, hy⟩ : ∃ x, s3.getD c 0 = x := ⟨_, rfl⟩
  have G := Q3.out.grid.drew
  have cp := G.cell b hb
  have cq := G.cell c hc
  have fp := G.frozen b
  have lp := G.getD_lt b
  have lq := G.getD_lt c
  rw [hx] at cp lp
  rw [hy] at cq lq
  obtain ⟨z, hz⟩ : ∃ z, x ^^^ y = z := ⟨_, rfl⟩
  have hzl : z < 4294967296 := by rw [← hz]; exact Nat.xor_lt_two_pow (n := 32) lp lq
  have bz : bits BinOp.xor IntKind.u32 (x : Int) (y : Int) = (z : Int) := by rw [bits_xor_u32_nat x y lp lq, hz]
  obtain ⟨v, hv⟩ : ∃ v, itL 12 z = v := ⟨_, rfl⟩
  have K := Lib.hid (left_any z 12 hzl (by decide))
  rw [hv] at K
  have hvl : v < 4294967296 := by rw [← hv]; exact itL_lt z hzl 12
  obtain ⟨s4, hs4⟩ : ∃ s, s = s3.set b v := ⟨_, rfl⟩
  have Q4 := Lib.hid (Q3.out.store b v hvl)
  rw [← hs4] at Q4
  have HS4 := Lib.hid (show s4 = s3.set b (itL 12 (s3.getD b 0 ^^^ s3.getD c 0)) by rw [hx, hy, hz, hv]; exact hs4)
  clear hx hy hz hv hs4 G
  go_wp2_with fail
  go_still_tail 10, (by kernel_rfl)
  still_call ((K.out _).mono (fun _ _ h => ⟨h.1, h.2.symm⟩))
  repeat still_step
  try refine wpStill_nil ?_
  change wpList _ _ _ _ _ W3.drew
  generalize hW : W3.drew = w2 at cp cq fp ⊢
  go_wp2_with fail
  rw [← hW]
  clear hW cp cq fp lp lq bz hvl hzl K
  obtain ⟨W4, hW⟩ : ∃ W, W = W3.drew.setCell ⟨w.heap.size, b, none⟩ (.int .u32 (v : Int)) := ⟨_, rfl⟩
  rw [← hW] at Q4 ⊢
  clear hW

  obtain ⟨x, hx⟩ : ∃ x, s4.getD a 0 = x := ⟨_, rfl⟩
  obtain ⟨y, hy⟩ : ∃ x, s4.getD b 0 = x := ⟨_, rfl⟩
  have G := Q4.out.grid.drew
  have cp := G.cell a ha
  have cq := G.cell b hb
  have fp := G.frozen a
  have lp := G.getD_lt a
  have lq := G.getD_lt b
  rw [hx] at cp lp
  rw [hy] at cq lq
  obtain ⟨v, hv⟩ : ∃ v, (x + y) % 4294967296 = v := ⟨_, rfl⟩
  have sv : IntKind.u32.wrap ((x : Int) + y) = (v : Int) := by rw [IntKind.wrap_u32]; omega
  have hvl : v < 4294967296 := by omega
  obtain ⟨s5, hs5⟩ : ∃ s, s = s4.set a v := ⟨_, rfl⟩
  have Q5 := Lib.hid (Q4.out.store a v hvl)
  rw [← hs5] at Q5
  have HS5 := Lib.hid (show s5 = s4.set a ((s4.getD a 0 + s4.getD b 0) % 4294967296) by rw [hx, hy, hv]; exact hs5)
  clear hx hy hv hs5 G
  go_wp2_with fail
  go_still_tail 9, (by kernel_rfl)
  change wpList _ _ _ _ _ W4.drew
  generalize hW : W4.drew = w2 at cp cq fp ⊢
  go_wp2_with fail
  rw [← hW]
  clear hW cp cq fp lp lq sv hvl
  obtain ⟨W5, hW⟩ : ∃ W, W = W4.drew.setCell ⟨w.heap.size, a, none⟩ (.int .u32 (v : Int)) := ⟨_, rfl⟩
  rw [← hW] at Q5 ⊢
  clear hW

  obtain ⟨x, hx⟩ : ∃ x, s5.getD d 0 = x := ⟨_, rfl⟩
  obtain ⟨y, hy⟩ : ∃ x, s5.getD a 0 = x := ⟨_, rfl⟩
  have G := Q5.out.grid.drew
  have cp := G.cell d hd
  have cq := G.cell a ha
  have fp := G.frozen d
  have lp := G.getD_lt d
  have lq := G.getD_lt a
  rw [hx] at cp lp
  rw [hy] at cq lq
  obtain ⟨z, hz⟩ : ∃ z, x ^^^ y = z := ⟨_, rfl⟩
  have hzl : z < 4294967296 := by rw [← hz]; exact Nat.xor_lt_two_pow (n := 32) lp lq
  have bz : bits BinOp.xor IntKind.u32 (x : Int) (y : Int) = (z : Int) := by rw [bits_xor_u32_nat x y lp lq, hz]
  obtain ⟨v, hv⟩ : ∃ v, itL 8 z = v := ⟨_, rfl⟩
  have K := Lib.hid (left_any z 8 hzl (by decide))
  rw [hv] at K
  have hvl : v < 4294967296 := by rw [← hv]; exact itL_lt z hzl 8
  obtain ⟨s6, hs6⟩ : ∃ s, s = s5.set d v := ⟨_, rfl⟩
  have Q6 := Lib.hid (Q5.out.store d v hvl)
  rw [← hs6] at Q6
  have HS6 := Lib.hid (show s6 = s5.set d (itL 8 (s5.getD d 0 ^^^ s5.getD a 0)) by rw [hx, hy, hz, hv]; exact hs6)
  clear hx hy hz hv hs6 G
  go_wp2_with fail
  go_still_tail 10, (by kernel_rfl)
  still_call ((K.out _).mono (fun _ _ h => ⟨h.1, h.2.symm⟩))
  repeat still_step
  try refine wpStill_nil ?_
  change wpList _ _ _ _ _ W5.drew
  generalize hW : W5.drew = w2 at cp cq fp ⊢
  go_wp2_with fail
  rw [← hW]
  clear hW cp cq fp lp lq bz hvl hzl K
  obtain ⟨W6, hW⟩ : ∃ W, W = W5.drew.setCell ⟨w.heap.size, d, none⟩ (.int .u32 (v : Int)) := ⟨_, rfl⟩
  rw [← hW] at Q6 ⊢
  clear hW

  obtain ⟨x, hx⟩ : ∃ x, s6.getD c 0 = x := ⟨_, rfl⟩
  obtain ⟨y, hy⟩ : ∃ x, s6.getD d 0 = x := ⟨_, rfl⟩
  have G := Q6.out.grid.drew
  have cp := G.cell c hc
  have cq := G.cell d hd
  have fp := G.frozen c
  have lp := G.getD_lt c
  have lq := G.getD_lt d
  rw [hx] at cp lp
  rw [hy] at cq lq
  obtain ⟨v, hv⟩ : ∃ v, (x + y) % 4294967296 = v := ⟨_, rfl⟩
  have sv : IntKind.u32.wrap ((x : Int) + y) = (v : Int) := by rw [IntKind.wrap_u32]; omega
  have hvl : v < 4294967296 := by omega
  obtain ⟨s7, hs7⟩ : ∃ s, s = s6.set c v := ⟨_, rfl⟩
  have Q7 := Lib.hid (Q6.out.store c v hvl)
  rw [← hs7] at Q7
  have HS7 := Lib.hid (show s7 = s6.set c ((s6.getD c 0 + s6.getD d 0) % 4294967296) by rw [hx, hy, hv]; exact hs7)
  clear hx hy hv hs7 G
  go_wp2_with fail
  go_still_tail 9, (by kernel_rfl)
  change wpList _ _ _ _ _ W6.drew
  generalize hW : W6.drew = w2 at cp cq fp ⊢
  go_wp2_with fail
  rw [← hW]
  clear hW cp cq fp lp lq sv hvl
  obtain ⟨W7, hW⟩ : ∃ W, W = W6.drew.setCell ⟨w.heap.size, c, none⟩ (.int .u32 (v : Int)) := ⟨_, rfl⟩
  rw [← hW] at Q7 ⊢
  clear hW

  obtain ⟨x, hx⟩ : ∃ x, s7.getD b 0 = x := ⟨_, rfl⟩
  obtain ⟨y, hy⟩ : ∃ x, s7.getD c 0 = x := ⟨_, rfl⟩
  have G := Q7.out.grid.drew
  have cp := G.cell b hb
  have cq := G.cell c hc
  have fp := G.frozen b
  have lp := G.getD_lt b
  have lq := G.getD_lt c
  rw [hx] at cp lp
  rw [hy] at cq lq
  obtain ⟨z, hz⟩ : ∃ z, x ^^^ y = z := ⟨_, rfl⟩
  have hzl : z < 4294967296 := by rw [← hz]; exact Nat.xor_lt_two_pow (n := 32) lp lq
  have bz : bits BinOp.xor IntKind.u32 (x : Int) (y : Int) = (z : Int) := by rw [bits_xor_u32_nat x y lp lq, hz]
  obtain ⟨v, hv⟩ : ∃ v, itL 7 z = v := ⟨_, rfl⟩
  have K := Lib.hid (left_any z 7 hzl (by decide))
  rw [hv] at K
  have hvl : v < 4294967296 := by rw [← hv]; exact itL_lt z hzl 7
  obtain ⟨s8, hs8⟩ : ∃ s, s = s7.set b v := ⟨_, rfl⟩
  have Q8 := Lib.hid (Q7.out.store b v hvl)
  rw [← hs8] at Q8
  have HS8 := Lib.hid (show s8 = s7.set b (itL 7 (s7.getD b 0 ^^^ s7.getD c 0)) by rw [hx, hy, hz, hv]; exact hs8)
  clear hx hy hz hv hs8 G
  go_wp2_with fail
  go_still_tail 10, (by kernel_rfl)
  still_call ((K.out _).mono (fun _ _ h => ⟨h.1, h.2.symm⟩))
  repeat still_step
  try refine wpStill_nil ?_
  change wpList _ _ _ _ _ W7.drew
  generalize hW : W7.drew = w2 at cp cq fp ⊢
  go_upto_region 9 with (fail)
  rw [← hW]
  clear hW cp cq fp lp lq bz hvl hzl K
  obtain ⟨W8, hW⟩ : ∃ W, W = W7.drew.setCell ⟨w.heap.size, b, none⟩ (.int .u32 (v : Int)) := ⟨_, rfl⟩
  rw [← hW] at Q8 ⊢
  clear hW

  have E : s8 = qround gs a b c d := by
    simp only [qround, half]
    rw [← HS1.out, ← HS2.out, ← HS3.out, ← HS4.out, ← HS5.out, ← HS6.out, ← HS7.out, ← HS8.out]
  have HE := Lib.hid E
  clear E
  have HG : W8.heap[w.heap.size]? = some (.cells (s8.map fun (x : Nat) => Value.int .u32 (x : Int)).toArray 43 (0, 0)) := Q8.out.grid.cells
  have HZ : W8.heap[w.heap.size + 1]? = some (.cells #[.int .u32 0, .int .u32 0, .int .u32 0, .int .u32 0, .int .u32 0, .int .u32 0, .int .u32 0, .int .u32 0, .int .u32 0, .int .u32 0, .int .u32 0, .int .u32 0, .int .u32 0, .int .u32 0, .int .u32 0, .int .u32 0] 43 (0, 0)) := by
    refine Q8.out.fr.heap ?_ (show ¬ w.heap.size + 1 = w.heap.size by omega)
    rw [HW0.out]
    exact heap_alloc2_new w _ _
  have HL8 : s8.length = 16 := Q8.out.grid.len
  have HB : Below w.heap.size w W8 := by
    refine (((Below.refl _ _).alloc (Nat.le_refl _) _).alloc (by simp) _).trans (b := (w.alloc (.cells C 43)).alloc (.cells #[.int .u32 0, .int .u32 0, .int .u32 0, .int .u32 0, .int .u32 0, .int .u32 0, .int .u32 0, .int .u32 0, .int .u32 0, .int .u32 0, .int .u32 0, .int .u32 0, .int .u32 0, .int .u32 0, .int .u32 0, .int .u32 0] 43)) ?_
    rw [← HW0.out]
    exact Q8.out.fr.below (by rw [HW0.out]; simp; omega) (fun k hk e => by omega)
  obtain ⟨D, hD⟩ : ∃ D : Array Value, D = (s8.map fun (x : Nat) => Value.int .u32 (x : Int)).toArray := ⟨_, rfl⟩
  have hsD : D.size = 16 := by rw [hD]; simp [HL8]
  have hone : D.all (·.oneCell') = true := by
    rw [Array.all_eq_true_iff_forall_mem]
    intro v hv
    rw [hD] at hv
    simp at hv
    obtain ⟨x, _, rfl⟩ := hv
    rfl
  rw [← hD] at HG
  have HD := Lib.hid (show gridVal (qround gs a b c d) = .agg D by unfold gridVal; rw [← HE.out, ← hD])
  have HB' := Lib.hid HB
  clear hD HL8 HB
  have H43 : Hid ((Try.prog.info? 43).map (·.size) = some D.size) := by rw [hsD]; exact Lib.hid (by kernel_rfl)
  have HS16 : Hid ((#[.int .u32 0, .int .u32 0, .int .u32 0, .int .u32 0, .int .u32 0, .int .u32 0, .int .u32 0, .int .u32 0, .int .u32 0, .int .u32 0, .int .u32 0, .int .u32 0, .int .u32 0, .int .u32 0, .int .u32 0, .int .u32 0] : Array Value).size = D.size) := Lib.hid (by rw [hsD]; rfl)
  clear hsD
  go_wp2_with (first | refine wpList_load_row rfl 43 _ rfl w.heap.size rfl 43 _ (0, 0) _ HG Try.underlying43 rfl H43.out ?_ | refine wpList_store_row rfl 43 _ _ rfl (w.heap.size + 1) D rfl rfl 43 _ HZ H43.out HS16.out hone ?_)
  have HR := heap_setRow_new W8 (w.heap.size + 1) D _ 43 HZ
  try simp only [Exit.inBlock, Exit.then]
  refine bodyPost_ret (v := .agg D) ?_ rfl ⟨?_, ?_⟩
  · exact results_cell_row rfl _ _ (w.heap.size + 1) 43 D (0, 0) _ rfl HR Try.underlying43 rfl H43.out
  · exact congrArg Ending.returned (by rw [← HD.out]; rfl)
  · exact HB'.out.trans (below_setRow W8 w.heap.size (w.heap.size + 1) D (by omega))
end Go.Proofs.Ytbgidkphbbpdeaa
