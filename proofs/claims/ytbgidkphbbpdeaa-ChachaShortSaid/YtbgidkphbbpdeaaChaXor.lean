/- The contract of chacha's Xor. -/
import Derived.Test.YtbgidkphbbpdeaaChaSeq
import Derived.Test.YtbgidkphbbpdeaaChaIx
import Derived.TacticsInMore
import Derived.Shelf.Abstract
import Derived.Sort.CutIn
namespace Go.Proofs.Ytbgidkphbbpdeaa
open Go.RowKit
attribute [local go_sem] Oper.semAt_some
set_option linter.unusedVariables false
set_option linter.unusedSimpArgs false

/-- The stream's j-th byte. -/
def strm (key nonce : List Nat) (c0 : Nat) (j : Nat) : Nat := (blockF key nonce ((c0 + j / 64) % 4294967296)).getD (j % 64) 0
/-- The first m bytes with the stream. -/
def xorL (xs : List Int) (s : Nat → Nat) (m : Nat) : List Int := (List.range m).map fun j => (((xs.getD j 0).toNat ^^^ s j : Nat) : Int)

def BlocksPost (w : World) (C D : Array Value) (c : Nat) (e : Ending) (w' : World) : Prop :=
  e = .returned (.func (.func 24) #[] #[.pointer (some ⟨w.heap.size, 0, none⟩), .pointer (some ⟨w.heap.size + 1, 0, none⟩), .pointer (some ⟨w.heap.size + 1 + 1, 0, none⟩)]) ∧
  w' = ((w.alloc (.cells C 23)).alloc (.cells D 24)).alloc (.cells #[.int .u32 (c : Int)] 25)
set_option maxHeartbeats 800000 in
theorem seq_any (C D : Array Value) (c : Nat) (w : World) : Calls Try.prog 20 #[.agg C, .agg D, .int .u32 (c : Int)] w (BlocksPost w C D c) := by
  go_enter Try.func20, Try.ntmps20
  go_wp2
  go_ret
  exact ⟨rfl, rfl⟩

/-- Between two bytes: m bytes are there. -/
structure XS (w : World) (KB BB RB M OB : Nat) (p : Option Addr) (n cap m : Nat) (ys : List Int) (W : World) : Prop where
  out : W.heap[OB]? = some (.cells #[.slice (some ⟨M, 0, none⟩) m n] 31 (0, 0))
  arr : Own W KB (some ⟨M, 0, none⟩) m n ys
  bh : W.heap[BB]? = some (.cells #[.slice p n cap] 31 (0, 0))
  rh : ∃ v, W.heap[RB]? = some (.cells #[v] 31 (0, 0))
  bel : Below KB w W
theorem XS.fr {w : World} {KB BB RB M OB : Nat} {p : Option Addr} {n cap m : Nat} {ys : List Int} {W W' : World} {T : Nat → Prop} (h : XS w KB BB RB M OB p n cap m ys W) (hf : Fr W W' T) (hT : ¬ T OB ∧ ¬ T M ∧ ¬ T BB ∧ ¬ T RB ∧ ∀ k, T k → KB ≤ k) : XS w KB BB RB M OB p n cap m ys W' := by
  refine ⟨hf.heap h.out hT.1, h.arr.fr hf (fun k hk => ?_), hf.heap h.bh hT.2.2.1, ?_, h.bel.trans (hf.below ?_ ?_)⟩
  · simp [blk] at hk; subst hk; exact hT.2.1
  · obtain ⟨v, hv⟩ := h.rh; exact ⟨v, hf.heap hv hT.2.2.2.1⟩
  · have := (h.arr.lt M rfl); omega
  · intro k hk ht; have := hT.2.2.2.2 k ht; omega
/-- The call has returned from within the loop. -/
structure XE (w : World) (KB RB M n : Nat) (ys : List Int) (W : World) : Prop where
  res : W.heap[RB]? = some (.cells #[.slice (some ⟨M, 0, none⟩) n n] 31 (0, 0))
  arr : Own W KB (some ⟨M, 0, none⟩) n n ys
  bel : Below KB w W
theorem XE.fr {w : World} {KB RB M n : Nat} {ys : List Int} {W W' : World} {T : Nat → Prop} (h : XE w KB RB M n ys W) (hf : Fr W W' T) (hT : ¬ T M ∧ ¬ T RB ∧ ∀ k, T k → KB ≤ k) : XE w KB RB M n ys W' := by
  refine ⟨hf.heap h.res hT.2.1, h.arr.fr hf (fun k hk => ?_), h.bel.trans (hf.below ?_ ?_)⟩
  · simp [blk] at hk; subst hk; exact hT.1
  · have := (h.arr.lt M rfl); omega
  · intro k hk ht; have := hT.2.2 k ht; omega
def XI (w : World) (KB BB RB M OB : Nat) (p : Option Addr) (n cap : Nat) (xs : List Int) (s : Nat → Nat) (i : Nat) (W : World) : Prop := 64 * i ≤ n ∧ XS w KB BB RB M OB p n cap (64 * i) (xorL xs s (64 * i)) W
theorem xorL_snoc (xs : List Int) (s : Nat → Nat) (m : Nat) : xorL xs s (m + 1) = xorL xs s m ++ [(((xs.getD m 0).toNat ^^^ s m : Nat) : Int)] := by
  unfold xorL
  rw [List.range_succ, List.map_append]
  rfl
/-- One byte more into a row that has room. -/
theorem wp_append_one {P : Program} {o : Oper} {a : Act} {w : World} {K : Act → World → Prop} {Q : Exit → Act → World → Prop} (s x : Operand) (t : TypeId) (ho : o.op = .call { callee := .builtin .append, args := #[s, x], argTypes := #[t, t] }) (base : Nat) (ht : P.underlying t = some (.slice 5))
    (i : TypeInfo) (hi : P.info? 5 = some i) (hz : i.size = 1) (g k cap : Nat) (ys : List Int) (hs : a.eval s = .slice (some ⟨g, 0, none⟩) k cap) (hown : Own w base (some ⟨g, 0, none⟩) k cap ys) (b c : Nat) (v : Int) (hv : 0 ≤ v ∧ v ≤ 255) (hx : a.eval x = .slice (some ⟨b, 0, none⟩) 1 c)
    (hc : w.cell? ⟨b, 0, none⟩ = some (.int .u8 v)) (hroom : k + 1 ≤ cap)
    (h : ∀ w', Own w' base (some ⟨g, 0, none⟩) (k + 1) cap (ys ++ [v]) → Fr w w' (fun b => b = g) → K (a.put o.dst (.slice (some ⟨g, 0, none⟩) (k + 1) cap)) w') : o.wp P a w K Q := by
  obtain ⟨w', hrun, r1, r2⟩ := run_append_fits (P := P) w base t o.type 5 i 1 ht hi hz g k cap (ys.map (Value.int .u8)) hown.row ⟨b, 0, none⟩ 1 c [.int .u8 v] rfl
    (by
      intro j u hj
      match j, hj with
      | 0, hj => obtain rfl := Option.some.inj hj; rw [Addr.add_lit]; exact hc) (by intro u hu; simp at hu; subst hu; rfl) hroom
  unfold Oper.wp execOp
  simp only [ho, resolve, invoke, builtin, Sem.run_bind, Sem.run_pure, Result.andThen_ok, List.map_toArray, List.map_cons, List.map_nil, hs, hx, hrun]
  refine h w' ⟨by simpa using r1, fun y hy => ?_⟩ ((Fr.of_grown r2).mono (fun k _ e => by simpa using e))
  rcases List.mem_append.1 hy with hy | hy
  · exact hown.rng y hy
  · simp at hy; subst hy; exact hv
theorem bits_xor_u8_nat (a b : Nat) (ha : a < 256) (hb : b < 256) : bits .xor .u8 (a : Int) (b : Int) = ((a ^^^ b : Nat) : Int) := by
  have hx : a ^^^ b < 2 ^ 8 := Nat.xor_lt_two_pow (by omega) (by omega)
  have h1 : (BitVec.ofInt 8 (a : Int)).toNat = a := by
    rw [BitVec.ofInt_natCast, BitVec.toNat_ofNat]; exact Nat.mod_eq_of_lt (by omega)
  have h2 : (BitVec.ofInt 8 (b : Int)).toNat = b := by
    rw [BitVec.ofInt_natCast, BitVec.toNat_ofNat]; exact Nat.mod_eq_of_lt (by omega)
  show IntKind.u8.wrap ((BitVec.ofInt 8 (a : Int) ^^^ BitVec.ofInt 8 (b : Int)).toNat : Int) = _
  rw [BitVec.toNat_xor, h1, h2, IntWalk.u8_in _ (by omega)]
def XorPost (w : World) (n : Nat) (ys : List Int) (e : Ending) (w' : World) : Prop := ∃ q cap, e = .returned (.slice q n cap) ∧ Own w' w.heap.size q n cap ys ∧ Below w.heap.size w w'

set_option maxRecDepth 100000 in
set_option maxHeartbeats 1600000 in
theorem xor_in (key nonce : List Nat) (c0 : Nat) (hk : key.length = 32) (hn : nonce.length = 12) (hkl : ∀ x ∈ key, x < 256) (hnl : ∀ x ∈ nonce, x < 256) (hc0 : (c0 : Int) ≤ 4294967295)
    (p : Option Addr) (n cap : Nat) (xs : List Int) (w : World) (hs : Src w p n xs) (hnn : (n : Int) ≤ 140737488355328) :
    CallsIn Fence.wide 4 Try.prog 11 #[octVal key, octVal nonce, .int .u32 (c0 : Int), .slice p n cap] w (XorPost w n (xorL xs (strm key nonce c0) n)) := by
  obtain ⟨C, hC, HCC, sC, oC⟩ := octVal_arr key 32 hk
  obtain ⟨D, hD, HDD, sD, oD⟩ := octVal_arr nonce 12 hn
  rw [hC, hD]
  have HSEQ := Lib.hid (fun kB nB c N w h1 h2 h3 => blocks_endless key nonce c0 hk hn hkl hnl (by omega) kB nB c N C D hC hD w h1 h2 h3)
  have H23 : Hid ((Try.prog.info? 23).map (·.size) = some C.size) := by rw [sC]; exact Lib.hid (by kernel_rfl)
  have H24 : Hid ((Try.prog.info? 24).map (·.size) = some D.size) := by rw [sD]; exact Lib.hid (by kernel_rfl)
  have HS := Lib.hid hs
  clear hC hD HCC HDD sC sD oC oD hk hn hkl hnl hs
  refine callsIn_of_wp_marks Try.func11 rfl trivial ?_ rfl
  simp only [Try.ntmps11, List.size_toArray, List.length_cons, List.length_nil, Nat.reduceAdd, Nat.reduceSub, Array.replicate_succ, Array.replicate_zero, List.push_toArray, List.append_toArray, List.nil_append, List.cons_append]
  obtain ⟨i5, hi5, hz5, hs5, hb5⟩ := info_parts (show (Try.prog.info? 5).map (fun i => (i.zero, i.size, i.bytes)) = some (some (.int .u8 0), 1, 1) by kernel_rfl)
  have HI5 := Lib.hid (And.intro hi5 (And.intro hz5 hs5))
  have HB2 : Hid (i5.bytes * n ≤ 281474976710656 ∧ n ≤ maxLen) := Lib.hid (by rw [hb5]; unfold maxLen; omega)
  clear hi5 hz5 hs5 hb5
  gi_upto_region 1 with (fail)
  obtain ⟨W0, hW⟩ : ∃ W, W = (((w.alloc (.cells C 23)).alloc (.cells D 24)).alloc (.cells #[.slice p n cap] 31)).alloc (.cells #[.slice none 0 0] 31) := ⟨_, rfl⟩
  have HA : Hid (W0.heap[w.heap.size]? = some (.cells C 23 (0, 0)) ∧ W0.heap[w.heap.size + 1]? = some (.cells D 24 (0, 0)) ∧ W0.heap[w.heap.size + 1 + 1]? = some (.cells #[.slice p n cap] 31 (0, 0)) ∧ W0.heap[w.heap.size + 1 + 1 + 1]? = some (.cells #[.slice none 0 0] 31 (0, 0)) ∧ Below w.heap.size w W0 ∧ W0.heap.size = w.heap.size + 1 + 1 + 1 + 1) := by
    obtain ⟨a, b, c, d⟩ := heap4 w (.cells C 23) (.cells D 24) (.cells #[.slice p n cap] 31) (.cells #[.slice none 0 0] 31)
    rw [hW]
    exact Lib.hid ⟨a, b, c, d, ((((Below.refl _ _).alloc (Nat.le_refl _) _).alloc (by simp) _).alloc (by simp; omega) _ |>.alloc (by simp; omega) _), by simp⟩
  rw [← hW]
  clear hW
  obtain ⟨RB, hRB⟩ : ∃ R, R = w.heap.size + 1 + 1 + 1 := ⟨_, rfl⟩
  obtain ⟨BB, hBB⟩ : ∃ R, R = w.heap.size + 1 + 1 := ⟨_, rfl⟩
  obtain ⟨NB, hNB⟩ : ∃ R, R = w.heap.size + 1 := ⟨_, rfl⟩
  obtain ⟨KB, hKB⟩ : ∃ R, R = w.heap.size := ⟨_, rfl⟩
  have HO : Hid (KB < NB ∧ NB < BB ∧ BB < RB) := Lib.hid (by omega)
  have HSZ : Hid (W0.heap.size = RB + 1) := Lib.hid (by have := HA.out.2.2.2.2.2; omega)
  have HKB := Lib.hid hKB
  rw [← hRB, ← hBB, ← hNB, ← hKB] at HA ⊢
  have HB1 : Hid (W0.cell? ⟨BB, 0, none⟩ = some (.slice p n cap)) := Lib.hid (by rw [cell_of_row _ _ _ _ _ _ HA.out.2.2.1]; rfl)
  clear hRB hBB hNB hKB
  have hcb := HB1.out
  gi_upto_region 2 with (gi_at_make; refine wpListIn_make_own _ rfl _ _ 31 rfl KB 5 i5 (.int .u8 0) 1 Try.underlying31 HI5.out.1 HI5.out.2.1 HI5.out.2.2 .i64 .i64 _ n rfl rfl rfl HB2.out.1 HB2.out.2 (by have := HSZ.out; have := HO.out; omega) ?_; intro w1 hrow hgrow)
  have ho : Own w1 KB (some ⟨W0.heap.size, 0, none⟩) 0 n [] := ⟨hrow, by intro x hx; cases hx⟩
  have hM : W0.heap.size < w1.heap.size := (ho.lt _ rfl).2
  obtain ⟨W2, hW⟩ : ∃ W, W = w1.alloc (.cells #[.slice (some ⟨W0.heap.size, 0, none⟩) 0 n] 31) := ⟨_, rfl⟩
  have hF02 : Fr W0 W2 (fun _ => False) := by rw [hW]; exact ((Fr.of_grown hgrow).trans (Fr.alloc _ _)).mono (by simp)
  have HX : Hid (XS w KB BB RB W0.heap.size w1.heap.size p n cap 0 [] W2) := by
    refine Lib.hid ⟨by rw [hW]; exact heap_alloc_new _ _, ?_, hF02.heap HA.out.2.2.1 (fun h => h), ⟨_, hF02.heap HA.out.2.2.2.1 (fun h => h)⟩, ?_⟩
    · rw [hW]; exact ho.fr (Fr.alloc _ _) (fun _ _ h => h)
    · exact HA.out.2.2.2.2.1.trans (hF02.below (by have := HSZ.out; have := HO.out; omega) (fun _ _ h => h))
  have HKN : Hid (W2.heap[KB]? = some (.cells C 23 (0, 0)) ∧ W2.heap[NB]? = some (.cells D 24 (0, 0)) ∧ w1.heap.size < W2.heap.size) := Lib.hid ⟨hF02.heap HA.out.1 (fun h => h), hF02.heap HA.out.2.1 (fun h => h), by rw [hW]; simp⟩
  rw [← hW]
  obtain ⟨M, hMM⟩ : ∃ M, M = W0.heap.size := ⟨_, rfl⟩
  obtain ⟨OB, hOB⟩ : ∃ M, M = w1.heap.size := ⟨_, rfl⟩
  rw [← hMM, ← hOB] at HX
  rw [← hMM] at HSZ
  rw [← hMM, ← hOB] at hM
  rw [← hOB] at HKN
  rw [← hMM, ← hOB]
  have HM := Lib.hid hM
  clear hW hF02 hMM hOB hM hgrow hrow ho HA HB1 hcb
  have hcb : W2.cell? ⟨BB, 0, none⟩ = some (.slice p n cap) := by rw [cell_of_row _ _ _ _ _ _ HX.out.bh]; rfl
  rcases Nat.eq_zero_or_pos n with hz | hpos
  · subst hz
    obtain ⟨v, hv⟩ := HX.out.rh
    have hcr : W2.cell? ⟨RB, 0, none⟩ = some v := by rw [cell_of_row _ _ _ _ _ _ hv]; rfl
    have hcf : W2.frozen? ⟨RB, 0, none⟩ = false := frozen_of_row _ _ _ _ _ hv
    have HV := Lib.hid hv
    clear hv
    gi_wp2_with fail
    have HS0 := Lib.hid (Fr.setCell W2 ⟨RB, 0, none⟩ (.slice none 0 0))
    have hc2 : (W2.setCell ⟨RB, 0, none⟩ (.slice none 0 0)).cell? ⟨RB, 0, none⟩ = some (.slice none 0 0) := by
      rw [cell_of_row _ _ _ _ _ _ (heap_setCell_same _ _ _ _ _ _ HV.out)]; rfl
    refine ⟨.slice none 0 0, ?_, ?_⟩
    · simp [results, go_sem, hc2]
    · refine ⟨none, 0, rfl, Own.nil _ _, ?_⟩
      rw [← HKB.out]
      exact HX.out.bel.trans (HS0.out.below (by have := HX.out.bel.size; have := HKB.out; omega) (fun k hk e => by have := HO.out; simp at e; omega))
  · have hd : ((n : Int) == 0) = false := by rw [beq_eq_false_iff_ne]; omega
    have hkb := HKN.out.1
    have hnb := HKN.out.2.1
    gi_wp2_with (first | refine listIn0_load rfl 23 _ rfl KB rfl 23 C _ hkb Try.underlying23 rfl H23.out ?_ | refine listIn0_load rfl 24 _ rfl NB rfl 24 D _ hnb Try.underlying24 rfl H24.out ?_)
    refine ⟨trivial, (callsIn_wide.2 (seq_any C D c0 _)).mono ?_⟩
    rintro e w3 ⟨rfl, hw3⟩
    have HW3 := Lib.hid hw3
    clear hw3 hkb hnb hcb hd
    gi_wp2_with fail
    have hF23 : Fr W2 w3 (fun _ => False) := by rw [HW3.out]; exact (((Fr.alloc _ _).trans (Fr.alloc _ _)).trans (Fr.alloc _ _)).mono (by simp)
    have hz3 : w3.heap.size = W2.heap.size + 1 + 1 + 1 := by rw [HW3.out]; simp
    obtain ⟨h3k, h3n, h3c⟩ : w3.heap[W2.heap.size]? = some (.cells C 23 (0, 0)) ∧ w3.heap[W2.heap.size + 1]? = some (.cells D 24 (0, 0)) ∧ w3.heap[W2.heap.size + 1 + 1]? = some (.cells #[.int .u32 (c0 : Int)] 25 (0, 0)) := by rw [HW3.out]; exact heap3 W2 _ _ _
    have hX3 : XS w KB BB RB M OB p n cap 0 [] w3 := HX.out.fr hF23 ⟨fun h => h, fun h => h, fun h => h, fun h => h, fun k h => h.elim⟩
    have hOZ := HKN.out.2.2
    obtain ⟨Z, hZ⟩ : ∃ Z, Z = W2.heap.size := ⟨_, rfl⟩
    rw [← hZ] at hz3 h3k h3n h3c hOZ ⊢
    have HX3 := Lib.hid hX3
    have HLT : Hid (KB < NB ∧ NB < BB ∧ BB < RB ∧ RB < M ∧ M < OB ∧ OB < Z ∧ w3.heap.size = Z + 1 + 1 + 1) := Lib.hid (by have := HO.out; have := HSZ.out; have := HM.out; omega)
    clear hF23 hX3 hOZ hZ HW3
    refine range_turns (gf := 24) rfl (Go.Proofs.enters_of Try.func24 (by kernel_rfl) rfl) (Z + 1 + 1) (n / 64 + 1) (fun k => k = Z ∨ k = Z + 1 ∨ k = Z + 1 + 1) (fun i => #[octVal (blockF key nonce ((c0 + i) % 4294967296))]) (fun _ => rfl) (by omega) (by intro k hk; omega) (by omega)
      (HSEQ.out Z (Z + 1) (Z + 1 + 1) (n / 64 + 1) w3 h3k h3n h3c) (XI w KB BB RB M OB p n cap xs (strm key nonce c0)) (fun _ => XE w KB RB M n (xorL xs (strm key nonce c0) n)) ?hI ?hIx ?h0 ?turn ?hstop
    case hI =>
      intro i A B h hf
      have hx := HLT.out
      exact ⟨h.1, h.2.fr hf ⟨by omega, by omega, by omega, by omega, fun k hk => by omega⟩⟩
    case hIx =>
      intro i A B h hf
      have hx := HLT.out
      exact h.fr hf ⟨by omega, by omega, fun k hk => by omega⟩
    case h0 => exact ⟨by omega, HX3.out⟩
    case hstop =>
      intro i W h hD
      gi_wp2_with fail
      have hfp := fr_putObj W w3.heap.size (.deferred none)
      have hx := HLT.out
      have hE := h.fr hfp ⟨by omega, by omega, fun k hk => by omega⟩
      have hc2 : (W.putObj w3.heap.size (.deferred none)).cell? ⟨RB, 0, none⟩ = some (.slice (some ⟨M, 0, none⟩) n n) := by rw [cell_of_row _ _ _ _ _ _ hE.res]; rfl
      refine ⟨by simp, .inl ⟨_, _, rfl, run_takeDeferred hD, .slice (some ⟨M, 0, none⟩) n n, ?_, ?_⟩⟩
      · simp [results, go_sem, hc2]
      · refine ⟨some ⟨M, 0, none⟩, n, rfl, ?_, ?_⟩
        · rw [← HKB.out]; exact hE.arr
        · rw [← HKB.out]; exact hE.bel
    case turn =>
      intro l i W hi hI hlt
      obtain ⟨E, hE, hEE, hEs, hE1⟩ := octVal_arr (blockF key nonce ((c0 + i) % 4294967296)) 64 (blockF_len _ _ _)
      rw [hE]
      have H27 : Hid ((Try.prog.info? 27).map (·.size) = some E.size) := by rw [hEs]; exact Lib.hid (by kernel_rfl)
      have HS64 : Hid ((#[.int .u8 0, .int .u8 0, .int .u8 0, .int .u8 0, .int .u8 0, .int .u8 0, .int .u8 0, .int .u8 0, .int .u8 0, .int .u8 0, .int .u8 0, .int .u8 0, .int .u8 0, .int .u8 0, .int .u8 0, .int .u8 0, .int .u8 0, .int .u8 0, .int .u8 0, .int .u8 0, .int .u8 0, .int .u8 0, .int .u8 0, .int .u8 0, .int .u8 0, .int .u8 0, .int .u8 0, .int .u8 0, .int .u8 0, .int .u8 0, .int .u8 0, .int .u8 0, .int .u8 0, .int .u8 0, .int .u8 0, .int .u8 0, .int .u8 0, .int .u8 0, .int .u8 0, .int .u8 0, .int .u8 0, .int .u8 0, .int .u8 0, .int .u8 0, .int .u8 0, .int .u8 0, .int .u8 0, .int .u8 0, .int .u8 0, .int .u8 0, .int .u8 0, .int .u8 0, .int .u8 0, .int .u8 0, .int .u8 0, .int .u8 0, .int .u8 0, .int .u8 0, .int .u8 0, .int .u8 0, .int .u8 0, .int .u8 0, .int .u8 0, .int .u8 0] : Array Value).size = E.size) := Lib.hid (by rw [hEs]; rfl)
      have HI := Lib.hid hI
      have HLTW := Lib.hid hlt
      have HIN := Lib.hid hi
      clear hE hEs hI hlt hi
      gi_wp2_with (refine listInR_store rfl 27 _ _ rfl W.heap.size E rfl rfl 27 _ (heap_alloc_new _ _) H27.out HS64.out hE1 ?_)
      rw [setRow_alloc_new]
      refine ⟨Fr.alloc _ _, ?_⟩
      intro w₂ hf2
      have hx := HLT.out
      have hf3 := ((Fr.alloc W (.cells E 27)).trans hf2).mono (U := fun k => k = Z + 1 + 1 + 1 + 1) (fun k _ e => e.elim (fun h => h.elim) (fun h => h))
      have hXS : XS w KB BB RB M OB p n cap (64 * i) (xorL xs (strm key nonce c0) (64 * i)) w₂ := HI.out.2.fr hf3 ⟨by omega, by omega, by omega, by omega, fun k hk => by omega⟩
      have hEB : w₂.heap[W.heap.size]? = some (.cells E 27 (0, 0)) := hf2.heap (heap_alloc_new _ _) (by have := HLTW.out; omega)
      obtain ⟨EB, hEBn⟩ : ∃ B, B = W.heap.size := ⟨_, rfl⟩
      rw [← hEBn] at hEB ⊢
      have HXS := Lib.hid hXS
      clear hf2 hf3 hEBn hXS hx
      gi_wp2_with (refine listInR_load rfl 27 _ rfl EB rfl 27 E _ hEB Try.underlying27 rfl H27.out ?_)
      clear hEB
      gi_loopw [25] (fun v wr => ∃ j : Nat, v = .int .i64 j ∧ j ≤ 64 ∧ 64 * i + j ≤ n ∧ XS w KB BB RB M OB p n cap (64 * i + j) (xorL xs (strm key nonce c0) (64 * i + j)) wr ∧ Fr w₂ wr (fun k => k = M ∨ k = OB)) (fun v _ => 64 - (intOf v).toNat)
      case atStart => exact ⟨0, rfl, by omega, by have := HI.out.1; omega, HXS.out, Fr.refl _ _⟩
      case round =>
        obtain ⟨j, rfl, hj, hn, hS, hF⟩ := hrel
        have HF := Lib.hid hF
        by_cases hlt : (j : Int) < 64
        · have hix := index_oct 27 64 Try.underlying27 Try.sizeOf5 Try.isAgg5 (blockF key nonce ((c0 + i) % 4294967296)) E hEE.out (blockF_len _ _ _) j (by omega)
          obtain ⟨z, hz⟩ : ∃ z, (blockF key nonce ((c0 + i) % 4294967296)).getD j 0 = z := ⟨_, rfl⟩
          rw [hz] at hix
          have HZ := Lib.hid hz
          obtain ⟨m, hm⟩ : ∃ m, m = 64 * i + j := ⟨_, rfl⟩
          rw [← hm] at hn hS
          have HM2 := Lib.hid hm
          have HS2 := Lib.hid hS
          have HN := Lib.hid hn
          have hco : wr.cell? ⟨OB, 0, none⟩ = some (.slice (some ⟨M, 0, none⟩) m n) := by rw [cell_of_row _ _ _ _ _ _ hS.out]; rfl
          have hcb : wr.cell? ⟨BB, 0, none⟩ = some (.slice p n cap) := by rw [cell_of_row _ _ _ _ _ _ hS.bh]; rfl
          clear hz hm hS hF hn
          by_cases hmn : m = n
          · have HMN := Lib.hid hmn
            have hd : ((m : Int) == (n : Int)) = true := by rw [hmn]; simp
            obtain ⟨v, hv⟩ := HS2.out.rh
            have hcr : wr.cell? ⟨RB, 0, none⟩ = some v := by rw [cell_of_row _ _ _ _ _ _ hv]; rfl
            have hcf : wr.frozen? ⟨RB, 0, none⟩ = false := frozen_of_row _ _ _ _ _ hv
            have HV := Lib.hid hv
            clear hmn hv
            gi_wp2_with fail
            have hx := HLT.out
            have hset := Fr.setCell wr ⟨RB, 0, none⟩ (.slice (some ⟨M, 0, none⟩) m n)
            have hsame := heap_setCell_same wr RB 0 _ _ (.slice (some ⟨M, 0, none⟩) m n) HV.out
            have harr := HS2.out.arr.fr hset (fun k hk e => by simp [blk] at hk e; omega)
            have hbel := HS2.out.bel.trans (hset.below (B := KB) (by have := HS2.out.arr.lt M rfl; omega) (fun k hk e => by simp at e; omega))
            have hfr := HF.out.trans hset
            have e := HMN.out
            subst e
            exact ⟨⟨hsame, harr, hbel⟩, hfr.mono (fun k _ hk => by simp at hk; omega)⟩
          · have hd : ((m : Int) == (n : Int)) = false := by rw [beq_eq_false_iff_ne]; omega
            have hmn2 : (m : Int) < (n : Int) := by have := HN.out; omega
            have hsrc : Src wr p n xs := HS.out.below (by rw [← HKB.out]; exact HS2.out.bel)
            obtain ⟨pb, po, rfl, hcs⟩ := hsrc.mem (by omega)
            have hcx0 := hcs m (by omega)
            have hrx := hsrc.rng (xs.getD m 0) (by
              have hl := hsrc.len
              rw [List.getD_eq_getElem?_getD, List.getElem?_eq_getElem (show m < xs.length by omega)]
              exact List.getElem_mem _)
            obtain ⟨x, hx⟩ : ∃ x : Nat, xs.getD m 0 = (x : Int) := ⟨(xs.getD m 0).toNat, by omega⟩
            have hcx : wr.cell? ⟨pb, po + m, none⟩ = some (.int .u8 (x : Int)) := by rw [hcx0, hx]
            have hxl : (x : Int) ≤ 255 := by omega
            have hzl : (z : Int) ≤ 255 := by have := blockF_lt key nonce ((c0 + i) % 4294967296); have h2 := getD_lt_256 this j; rw [HZ.out] at h2; omega
            obtain ⟨y, hy⟩ : ∃ y, x ^^^ z = y := ⟨_, rfl⟩
            have hyl : (y : Int) ≤ 255 := by have := Nat.xor_lt_two_pow (n := 8) (show x < 2 ^ 8 by omega) (show z < 2 ^ 8 by omega); rw [hy] at this; omega
            have hbx : bits BinOp.xor IntKind.u8 (x : Int) (z : Int) = (y : Int) := by rw [bits_xor_u8_nat x z (by omega) (by omega), hy]
            have HYE : Hid (xorL xs (strm key nonce c0) (64 * i + (j + 1)) = xorL xs (strm key nonce c0) m ++ [(y : Int)]) := by
              have e1 : 64 * i + (j + 1) = m + 1 := by rw [HM2.out, Nat.add_assoc]
              have e2 : strm key nonce c0 m = z := by
                unfold strm
                rw [HM2.out, show (64 * i + j) / 64 = i by omega, show (64 * i + j) % 64 = j by omega]
                exact HZ.out
              rw [e1, xorL_snoc, hx, e2, Int.toNat_natCast, hy]
              exact Lib.hid rfl
            clear hcs hcx0 hrx hx hy hsrc
            gi_wp2_with fail
            clear hix hd
            -- REGION
            refine region_in_round (S := fun w' => Fr wr w' (fun _ => False)) (Ts := [9, 10]) (by kernel_rfl) (by rintro ⟨a, w', h⟩; exact (h : False).elim) (by kernel_rfl) (Fr.drew _) (fun hS hC => ?_)
            refine wpAnyG_takeB (i := 0) (v := .slice (some ⟨M, 0, none⟩) m n) rfl (by kernel_rfl) (by kernel_rfl) (by kernel_rfl) (by kernel_rfl) (fun _ _ _ h => h) hC (Or.inl ⟨by rfl, fun w' hSw => ?_⟩) hS ?_
            · have hq := (show Fr wr w' (fun _ => False) from hSw).cell hco (fun h => h); go_simp
            clear hC
            intro hC
            try simp only [Act.put, List.setIfInBounds_toArray, List.set_cons_zero, List.set_cons_succ, List.getElem_toArray, List.getElem_cons_zero, List.getElem_cons_succ]
            refine wpAnyG_takeB (i := 1) (v := .slice (some ⟨pb, po, none⟩) n cap) rfl (by kernel_rfl) (by kernel_rfl) (by kernel_rfl) (by kernel_rfl) (fun _ _ _ h => h) hC (Or.inl ⟨by rfl, fun w' hSw => ?_⟩) hS ?_
            · have hq := (show Fr wr w' (fun _ => False) from hSw).cell hcb (fun h => h); go_simp
            clear hC
            intro hC
            try simp only [Act.put, List.setIfInBounds_toArray, List.set_cons_zero, List.set_cons_succ, List.getElem_toArray, List.getElem_cons_zero, List.getElem_cons_succ]
            refine wpAnyG_takeB (i := 2) (v := .slice (some ⟨M, 0, none⟩) m n) rfl (by kernel_rfl) (by kernel_rfl) (by kernel_rfl) (by kernel_rfl) (fun _ _ _ h => h) hC (Or.inl ⟨by rfl, fun w' hSw => ?_⟩) hS ?_
            · have hq := (show Fr wr w' (fun _ => False) from hSw).cell hco (fun h => h); go_simp
            clear hC
            intro hC
            try simp only [Act.put, List.setIfInBounds_toArray, List.set_cons_zero, List.set_cons_succ, List.getElem_toArray, List.getElem_cons_zero, List.getElem_cons_succ]
            refine wpAnyG_takeB (i := 3) (v := .int .i64 (m : Int)) rfl (by kernel_rfl) (by kernel_rfl) (by kernel_rfl) (by kernel_rfl) (fun _ _ _ h => h) hC (Or.inl ⟨by rfl, fun w' hSw => ?_⟩) hS ?_
            · go_simp
            clear hC
            intro hC
            try simp only [Act.put, List.setIfInBounds_toArray, List.set_cons_zero, List.set_cons_succ, List.getElem_toArray, List.getElem_cons_zero, List.getElem_cons_succ]
            refine wpAnyG_takeB (i := 4) (v := .pointer (some ⟨pb, po + m, none⟩)) rfl (by kernel_rfl) (by kernel_rfl) (by kernel_rfl) (by kernel_rfl) (fun _ _ _ h => h) hC (Or.inl ⟨by rfl, fun w' hSw => ?_⟩) hS ?_
            · go_simp
            clear hC
            intro hC
            try simp only [Act.put, List.setIfInBounds_toArray, List.set_cons_zero, List.set_cons_succ, List.getElem_toArray, List.getElem_cons_zero, List.getElem_cons_succ]
            refine wpAnyG_takeB (i := 5) (v := .int .u8 (x : Int)) rfl (by kernel_rfl) (by kernel_rfl) (by kernel_rfl) (by kernel_rfl) (fun _ _ _ h => h) hC (Or.inl ⟨by rfl, fun w' hSw => ?_⟩) hS ?_
            · have hq := (show Fr wr w' (fun _ => False) from hSw).cell hcx (fun h => h); go_simp
            clear hC
            intro hC
            try simp only [Act.put, List.setIfInBounds_toArray, List.set_cons_zero, List.set_cons_succ, List.getElem_toArray, List.getElem_cons_zero, List.getElem_cons_succ]
            refine wpAnyG_takeB (i := 6) (v := .int .u8 (z : Int)) rfl (by kernel_rfl) (by kernel_rfl) (by kernel_rfl) (by kernel_rfl) (fun _ _ _ h => h) hC (Or.inl ⟨by rfl, fun w' hSw => ?_⟩) hS ?_
            · go_simp
            clear hC
            intro hC
            try simp only [Act.put, List.setIfInBounds_toArray, List.set_cons_zero, List.set_cons_succ, List.getElem_toArray, List.getElem_cons_zero, List.getElem_cons_succ]
            refine wpAnyG_takeB (i := 7) (v := .int .u8 (y : Int)) rfl (by kernel_rfl) (by kernel_rfl) (by kernel_rfl) (by kernel_rfl) (fun _ _ _ h => h) hC (Or.inl ⟨by rfl, fun w' hSw => ?_⟩) hS ?_
            · go_simp
            clear hC
            intro hC
            try simp only [Act.put, List.setIfInBounds_toArray, List.set_cons_zero, List.set_cons_succ, List.getElem_toArray, List.getElem_cons_zero, List.getElem_cons_succ]
            refine wpAnyG_one (i := 8) (by kernel_rfl) rfl (by rfl) (fun K hK => ?_)
            go_simp
            refine hK.out _ _ (.inr ?_) ?_
            · exact ((Fr.drew wr).trans (Fr.alloc wr.drew (.cells #[.int .u8 (y : Int)] 5))).mono (by simp)
            clear hK K
            try simp only [Act.put, List.setIfInBounds_toArray, List.set_cons_zero, List.set_cons_succ, List.getElem_toArray, List.getElem_cons_zero, List.getElem_cons_succ]
            have hf4 : Fr wr (wr.alloc (.cells #[.int .u8 (y : Int)] 5)).drew (fun _ => False) := ((Fr.alloc wr (.cells #[.int .u8 (y : Int)] 5)).trans (Fr.drew _)).mono (by simp)
            have hcy : (wr.alloc (.cells #[.int .u8 (y : Int)] 5)).drew.cell? ⟨wr.heap.size, 0, none⟩ = some (.int .u8 (y : Int)) := by
              show (wr.alloc _).cell? _ = _
              rw [cell_of_row _ _ _ _ _ _ (heap_alloc_new wr _)]; rfl
            obtain ⟨w4, hw4⟩ : ∃ W, W = (wr.alloc (.cells #[.int .u8 (y : Int)] 5)).drew := ⟨_, rfl⟩
            rw [← hw4] at hf4 hcy ⊢
            have hx4 := HS2.out.fr hf4 ⟨fun h => h, fun h => h, fun h => h, fun h => h, fun k h => h.elim⟩
            refine wpAnyG_one (i := 9) (by kernel_rfl) rfl (by rfl) (fun K hK => ?_)
            refine wp_append_one _ _ 31 rfl KB Try.underlying31 i5 HI5.out.1 HI5.out.2.2 M m n _ rfl hx4.arr wr.heap.size 1 (y : Int) ⟨by omega, hyl⟩ rfl hcy (by omega) ?_
            intro w5 how5 hf5
            refine hK.out _ _ (.inl (by simp)) ?_
            clear hK K
            try simp only [Act.put, List.setIfInBounds_toArray, List.set_cons_zero, List.set_cons_succ, List.getElem_toArray, List.getElem_cons_zero, List.getElem_cons_succ]
            have hlx := HLT.out
            have ho5 := hf5.heap hx4.out (by omega)
            have hb5 := hf5.heap hx4.bh (by omega)
            have hr5 : ∃ v, w5.heap[RB]? = some (.cells #[v] 31 (0, 0)) := by
              obtain ⟨v, hv⟩ := hx4.rh
              exact ⟨v, hf5.heap hv (by omega)⟩
            have hc5 : w5.cell? ⟨OB, 0, none⟩ = some (.slice (some ⟨M, 0, none⟩) m n) := by rw [cell_of_row _ _ _ _ _ _ ho5]; rfl
            have hz5 : w5.frozen? ⟨OB, 0, none⟩ = false := frozen_of_row _ _ _ _ _ ho5
            refine wpAnyG_one (i := 10) (by kernel_rfl) rfl (by rfl) (fun K hK => ?_)
            go_simp
            refine hK.out _ _ (.inl (by simp)) ?_
            clear hK K hc5 hz5
            try simp only [Act.put, List.setIfInBounds_toArray, List.set_cons_zero, List.set_cons_succ, List.getElem_toArray, List.getElem_cons_zero, List.getElem_cons_succ]
            have hset := Fr.setCell w5 ⟨OB, 0, none⟩ (.slice (some ⟨M, 0, none⟩) (m + 1) n)
            have hXN : XS w KB BB RB M OB (some ⟨pb, po, none⟩) n cap (64 * i + (j + 1)) (xorL xs (strm key nonce c0) (64 * i + (j + 1))) (w5.setCell ⟨OB, 0, none⟩ (.slice (some ⟨M, 0, none⟩) (m + 1) n)) := by
              rw [HYE.out, show 64 * i + (j + 1) = m + 1 by rw [HM2.out, Nat.add_assoc]]
              refine ⟨heap_setCell_same w5 OB 0 _ _ _ ho5, how5.fr hset (fun k hk e => by simp [blk] at hk e; omega), hset.heap hb5 (by show ¬ BB = OB; omega), ?_, ?_⟩
              · obtain ⟨v, hv⟩ := hr5
                exact ⟨v, hset.heap hv (by show ¬ RB = OB; omega)⟩
              · have hl4 := hx4.arr.lt M rfl
                have hl5 := how5.lt M rfl
                exact (hx4.bel.trans (hf5.below (B := KB) (by omega) (fun k hk e => by omega))).trans (hset.below (B := KB) (by omega) (fun k hk e => by simp at e; omega))
            have hFN : Fr w₂ (w5.setCell ⟨OB, 0, none⟩ (.slice (some ⟨M, 0, none⟩) (m + 1) n)) (fun k => k = M ∨ k = OB) := (((HF.out.trans hf4).trans hf5).trans hset).mono (fun k _ hk => by simp at hk; omega)
            have HXN := Lib.hid hXN
            have HFN := Lib.hid hFN
            clear hXN hFN hset hr5 hb5 ho5 how5 hf5 hx4 hf4 hcy hw4 hlx hS hC
            refine wpAnyG_done (by kernel_rfl) ?_ _
            gi_wp2_with fail
            go_roundw
            case rel => exact ⟨j + 1, by go_num, by omega, by have := HM2.out; have := HN.out; omega, HXN.out, HFN.out⟩
            case measure => simp [intOf]; omega
            -- END
        · obtain rfl : j = 64 := by omega
          have HS2 := Lib.hid hS
          clear hS hF
          gi_wp2_with fail
          have hx := HLT.out
          exact ⟨⟨by omega, by rw [Nat.mul_add]; exact HS2.out⟩, by omega, HF.out.mono (fun k _ hk => by omega)⟩
end Go.Proofs.Ytbgidkphbbpdeaa
