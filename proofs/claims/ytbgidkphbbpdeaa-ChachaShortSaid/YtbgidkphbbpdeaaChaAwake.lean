/- The contract of awake: the block of zeros begins with 118, 184. -/
import Derived.Test.YtbgidkphbbpdeaaChaRefBlock
namespace Go.Proofs.Ytbgidkphbbpdeaa
open Go.RowKit
set_option linter.unusedVariables false
set_option linter.unusedSimpArgs false

theorem put4_len (x : Nat) (o : Nat) (xs : List Nat) : ∀ k, (put4 xs o x k).length = xs.length
  | 0 => rfl
  | k + 1 => by simp [put4, put4_len x o xs k]
theorem put4_lt (x : Nat) (o : Nat) (xs : List Nat) (h : ∀ y ∈ xs, y < 256) : ∀ k, ∀ y ∈ put4 xs o x k, y < 256
  | 0 => h
  | k + 1 => by
    intro y hy
    rcases List.mem_or_eq_of_mem_set hy with hy | rfl
    · exact put4_lt x o xs h k y hy
    · exact Nat.mod_lt _ (by decide)
theorem outF_len (g s : List Nat) : ∀ i, (outF g s i).length = 64
  | 0 => rfl
  | i + 1 => by show (put4 _ _ _ 4).length = 64; rw [put4_len, outF_len g s i]
theorem outF_lt (g s : List Nat) : ∀ i, ∀ y ∈ outF g s i, y < 256
  | 0 => by intro y hy; rw [List.eq_of_mem_replicate hy]; decide
  | i + 1 => put4_lt _ _ _ (outF_lt g s i) 4
theorem blockF_len (key nonce : List Nat) (c : Nat) : (blockF key nonce c).length = 64 := outF_len _ _ _
theorem blockF_lt (key nonce : List Nat) (c : Nat) : ∀ y ∈ blockF key nonce c, y < 256 := outF_lt _ _ _
theorem octVal_arr (ks : List Nat) (n : Nat) (hl : ks.length = n) : ∃ E : Array Value, octVal ks = .agg E ∧ Hid (E = (ks.map fun (x : Nat) => Value.int .u8 (x : Int)).toArray) ∧ E.size = n ∧ E.all (·.oneCell') = true := by
  refine ⟨_, rfl, Lib.hid rfl, by simp [hl], ?_⟩
  rw [Array.all_eq_true_iff_forall_mem]
  intro v hv
  simp at hv
  obtain ⟨x, _, rfl⟩ := hv
  rfl

theorem zeros_block : (blockF (List.replicate 32 0) (List.replicate 12 0) 0).getD 0 0 = 118 ∧ (blockF (List.replicate 32 0) (List.replicate 12 0) 0).getD 1 0 = 184 := by decide +kernel

set_option maxRecDepth 100000 in
set_option maxHeartbeats 1600000 in
theorem awake_any (w : World) : Calls Try.prog 8 #[] w fun e w' => e = .returned (.bool true) ∧ Below w.heap.size w w' := by
  have e32 : octVal (List.replicate 32 0) = .agg #[.int .u8 0, .int .u8 0, .int .u8 0, .int .u8 0, .int .u8 0, .int .u8 0, .int .u8 0, .int .u8 0, .int .u8 0, .int .u8 0, .int .u8 0, .int .u8 0, .int .u8 0, .int .u8 0, .int .u8 0, .int .u8 0, .int .u8 0, .int .u8 0, .int .u8 0, .int .u8 0, .int .u8 0, .int .u8 0, .int .u8 0, .int .u8 0, .int .u8 0, .int .u8 0, .int .u8 0, .int .u8 0, .int .u8 0, .int .u8 0, .int .u8 0, .int .u8 0] := rfl
  have e12 : octVal (List.replicate 12 0) = .agg #[.int .u8 0, .int .u8 0, .int .u8 0, .int .u8 0, .int .u8 0, .int .u8 0, .int .u8 0, .int .u8 0, .int .u8 0, .int .u8 0, .int .u8 0, .int .u8 0] := rfl
  have K0 := block_any (List.replicate 32 0) (List.replicate 12 0) 0 rfl rfl (fun x hx => by rw [List.eq_of_mem_replicate hx]; decide) (fun x hx => by rw [List.eq_of_mem_replicate hx]; decide) (by decide) w
  have hb := zeros_block
  obtain ⟨bl, hbl⟩ : ∃ b, b = blockF (List.replicate 32 0) (List.replicate 12 0) 0 := ⟨_, rfl⟩
  have hlen : bl.length = 64 := by rw [hbl]; exact blockF_len _ _ _
  have hlt : ∀ y ∈ bl, y < 256 := by rw [hbl]; exact blockF_lt _ _ _
  rw [e32, e12, ← hbl] at K0
  rw [← hbl] at hb
  clear hbl e32 e12
  obtain ⟨E, hE, hEE, hEs, hE1⟩ := octVal_arr bl 64 hlen
  rw [hE] at K0
  have K := Lib.hid K0
  have H27 : Hid ((Try.prog.info? 27).map (·.size) = some E.size) := by rw [hEs]; exact Lib.hid (by kernel_rfl)
  have HS64 : Hid ((#[.int .u8 0, .int .u8 0, .int .u8 0, .int .u8 0, .int .u8 0, .int .u8 0, .int .u8 0, .int .u8 0, .int .u8 0, .int .u8 0, .int .u8 0, .int .u8 0, .int .u8 0, .int .u8 0, .int .u8 0, .int .u8 0, .int .u8 0, .int .u8 0, .int .u8 0, .int .u8 0, .int .u8 0, .int .u8 0, .int .u8 0, .int .u8 0, .int .u8 0, .int .u8 0, .int .u8 0, .int .u8 0, .int .u8 0, .int .u8 0, .int .u8 0, .int .u8 0, .int .u8 0, .int .u8 0, .int .u8 0, .int .u8 0, .int .u8 0, .int .u8 0, .int .u8 0, .int .u8 0, .int .u8 0, .int .u8 0, .int .u8 0, .int .u8 0, .int .u8 0, .int .u8 0, .int .u8 0, .int .u8 0, .int .u8 0, .int .u8 0, .int .u8 0, .int .u8 0, .int .u8 0, .int .u8 0, .int .u8 0, .int .u8 0, .int .u8 0, .int .u8 0, .int .u8 0, .int .u8 0, .int .u8 0, .int .u8 0, .int .u8 0, .int .u8 0] : Array Value).size = E.size) := Lib.hid (by rw [hEs]; rfl)
  have HO := Lib.hid (fun (w1 : World) => (show Octs (w1.alloc (.cells E 27)) w1.heap.size 27 64 bl from ⟨by rw [← hEE.out]; exact heap_alloc_new _ _, hlen, hlt⟩))
  have HB := Lib.hid hb
  clear K0 hE hb hlen hlt hEE hEs
  go_enter Try.func8, Try.ntmps8
  go_wp2_with fail
  refine K.out.mono ?_
  rintro e w1 ⟨rfl, hb1⟩
  have HB1 := Lib.hid hb1
  clear hb1
  go_upto_region 2 with (refine wpList_store_row rfl 27 _ _ rfl _ E rfl rfl 27 _ (heap_alloc_new _ _) H27.out HS64.out hE1 ?_)
  rw [setRow_alloc_new]
  have c0 := (HO.out w1).cell 0 (by decide)
  have c1 := (HO.out w1).cell 1 (by decide)
  rw [HB.out.1] at c0
  rw [HB.out.2] at c1
  obtain ⟨W, hW⟩ : ∃ W, W = w1.alloc (.cells E 27) := ⟨_, rfl⟩
  have HW : Hid (Below w.heap.size w W) := Lib.hid (by rw [hW]; exact HB1.out.alloc HB1.out.size _)
  rw [← hW] at c0 c1 ⊢
  clear hW
  go_wp2_with fail
  go_ret
  exact ⟨rfl, HW.out⟩
end Go.Proofs.Ytbgidkphbbpdeaa
