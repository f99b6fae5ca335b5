/- ChachaGoes: the walk. -/
import Derived.Test.YtbgidkphbbpdeaaChaRefStream
namespace Go.Proofs.Ytbgidkphbbpdeaa
open Go.RowKit
set_option linter.unusedVariables false
set_option linter.unusedSimpArgs false

/-- 'p[l:h]', the address behind one name. -/
theorem slice_mid {P : Program} (t : TypeId) (ht : P.underlying t = some (.slice 5)) (hsz : ∀ w : World, (sizeOf 5).run P w = .ok 1 w) {w : World} {p : Option Addr} {n cap : Nat} {xs : List Int} (h : Src w p n xs) (l m : Nat) (hm : l + m ≤ n) (hnc : n ≤ cap) :
    ∃ q, (∀ w', (Instr.slice t (.slice p n cap) (some (.int .i64 (l : Int))) (some (.int .i64 ((l : Int) + (m : Int)))) none).run P w' = .ok (.slice q m (cap - l)) w') ∧ Src w q m ((xs.drop l).take m) := by
  have he : P.elem t = 5 := by simp [Program.elem, ht]
  refine ⟨if cap = l then p else p.map (·.add (l * 1)), fun w' => ?_, ⟨by simp [h.len]; omega, fun x hx => h.rng x (List.mem_of_mem_drop (List.mem_of_mem_take hx)), fun hn => ?_⟩⟩
  · rw [run_slice_lh w' t p n cap (by rw [he]; exact ht) .i64 .i64 (l : Int) ((l : Int) + (m : Int)) (by omega) (by omega) (by omega), he, hsz w']
    have e : ((l : Int) + (m : Int)).toNat - l = m := by omega
    simp [Result.andThen, sliced, e]
  · obtain ⟨b, o, rfl, hc⟩ := h.mem (by omega)
    refine ⟨b, o + l, by rw [if_neg (by omega)]; simp [Addr.add_lit], fun i hi => ?_⟩
    rw [Nat.add_assoc, hc (l + i) (by omega)]
    simp [List.getD, List.getElem?_drop, List.getElem?_take, hi]
theorem strL_later (key nonce : List Nat) (c0 n : Nat) (hn : 64 * n + 100 ≤ 640) : ((strL (strm key nonce c0) 640).drop (64 * n)).take 100 = strL (strm key nonce ((c0 + n) % 4294967296)) 100 := by
  have hs : ∀ j, strm key nonce c0 (64 * n + j) = strm key nonce ((c0 + n) % 4294967296) j := by
    intro j
    unfold strm
    rw [show (64 * n + j) / 64 = n + j / 64 by omega, show (64 * n + j) % 64 = j % 64 by omega, show (c0 + (n + j / 64)) % 4294967296 = ((c0 + n) % 4294967296 + j / 64) % 4294967296 by omega]
  generalize strm key nonce c0 = s at hs ⊢
  generalize strm key nonce ((c0 + n) % 4294967296) = s' at hs ⊢
  unfold strL
  apply List.ext_getElem (by simp; omega)
  intro j h1 h2
  simp [hs]
-- WALK
set_option maxRecDepth 100000 in
set_option maxHeartbeats 1600000 in
theorem goes_any (key : List Nat) (c0 k : Nat) (hk : key.length = 32) (hkl : ∀ x ∈ key, x < 256) (hc0 : (c0 : Int) ≤ 4294967295) (hkk : (k : Int) ≤ 255) (w : World) :
    Calls Try.prog 7 #[octVal key, .int .u32 (c0 : Int), .int .u8 (k : Int)] w fun e w' => e = .returned (.bool true) ∧ Below w.heap.size w w' := by
  have hzl : ∀ x ∈ List.replicate 12 0, x < 256 := fun x hx => by rw [List.eq_of_mem_replicate hx]; decide
  obtain ⟨C, hC, HCC, sC, oC⟩ := octVal_arr key 32 hk
  obtain ⟨n, hn⟩ : ∃ n, n = k % 8 := ⟨_, rfl⟩
  have hn2 : (k : Int) % 8 = (n : Int) := by omega
  have hn7 : (n : Int) ≤ 7 := by omega
  obtain ⟨c1, hc1⟩ : ∃ c, c = (c0 + n) % 4294967296 := ⟨_, rfl⟩
  have hc1l : (c1 : Int) ≤ 4294967295 := by omega
  have KA0 := stream_any key (List.replicate 12 0) c0 hk rfl hkl hzl hc0 640 (by decide)
  have KB0 := stream_any key (List.replicate 12 0) c1 hk rfl hkl hzl hc1l 100 (by decide)
  rw [hC, show octVal (List.replicate 12 0) = .agg #[.int .u8 0, .int .u8 0, .int .u8 0, .int .u8 0, .int .u8 0, .int .u8 0, .int .u8 0, .int .u8 0, .int .u8 0, .int .u8 0, .int .u8 0, .int .u8 0] from rfl] at KA0 KB0
  rw [hC]
  have KA := Lib.hid KA0
  have KB := Lib.hid KB0
  have H23 : Hid ((Try.prog.info? 23).map (·.size) = some C.size) := by rw [sC]; exact Lib.hid (by kernel_rfl)
  have e1 : IntKind.u32.wrap ((c0 : Int) + (n : Int)) = (c1 : Int) := by rw [IntKind.wrap_u32]; omega
  have e2 : ((c0 : Int) + (n : Int)) % 4294967296 = (c1 : Int) := by omega
  have HC1 := Lib.hid hc1
  have HN7 := Lib.hid hn7
  have hk0 := heap_alloc_new w (.cells C 23)
  have HFA := Lib.hid (Fr.alloc w (.cells C 23))
  clear KA0 KB0 hC HCC sC oC hn hc1
  go_enter Try.func7, Try.ntmps7
  go_upto_region 1 with (fail)
  obtain ⟨W, hW⟩ : ∃ W, W = w.alloc (.cells C 23) := ⟨_, rfl⟩
  rw [← hW] at hk0 HFA ⊢
  clear hW
  go_wp2_with (refine wpList_load_row rfl 23 _ rfl w.heap.size rfl 23 C (0, 0) _ hk0 Try.underlying23 rfl H23.out ?_)
  refine (KA.out _).mono ?_
  rintro e w3 ⟨q, cap, rfl, how3, hb3⟩
  have hf3 : Fr W w3 (fun _ => False) := Fr.of_below hb3
  have hk3 := hf3.heap hk0 (fun h => h)
  have HO3 := Lib.hid how3
  have HF3 := Lib.hid hf3
  clear how3 hb3 hf3 hk0
  go_wp2_with (refine wpList_load_row rfl 23 _ rfl w.heap.size rfl 23 C (0, 0) _ hk3 Try.underlying23 rfl H23.out ?_)
  refine (KB.out _).mono ?_
  rintro e w5 ⟨q2, cap2, rfl, how5, hb5⟩
  have hf5 : Fr w3 w5 (fun _ => False) := Fr.of_below hb5
  have hsa := Lib.hid (HO3.out.src.fr hf5 (fun _ _ _ h => h))
  have hsb := Lib.hid how5.src
  have hle := Lib.hid HO3.out.le
  have HF5 := Lib.hid hf5
  clear how5 hb5 hf5 hk3 e1 e2
  go_wp2_with fail
  obtain ⟨qm, hqm, hsm⟩ := slice_mid (P := Try.prog) 31 Try.underlying31 Try.sizeOf5 hsa.out (64 * n) 100 (by have := HN7.out; omega) hle.out
  have c64 : ((64 * n : Nat) : Int) = 64 * (n : Int) := by omega
  rw [strL_later key (List.replicate 12 0) c0 n (by have := HN7.out; omega), ← HC1.out] at hsm
  rw [c64] at hqm
  have HSM := Lib.hid hsm
  have s1 : IntKind.i64.wrap (64 * (n : Int)) = 64 * (n : Int) := IntWalk.i64_in _ (by omega)
  have s2 : IntKind.i64.wrap (64 * (n : Int) + 100) = 64 * (n : Int) + 100 := IntWalk.i64_in _ (by omega)
  have hqm2 : ∀ w', (Instr.slice 31 (.slice q 640 cap) (some (.int .i64 (64 * (n : Int)))) (some (.int .i64 (64 * (n : Int) + 100))) none).run Try.prog w' = .ok (.slice qm 100 (cap - 64 * n)) w' := hqm
  clear hsm hqm c64 hn2
  refine wp_region_noPanic ?_
  refine region_some (S := fun w' => Fr w5 w' (fun _ => False)) (Ts := []) (by kernel_rfl) (Fr.drew _) (fun hS hC => ?_)
  refine wpAnyG_step (i := 0) (by kernel_rfl) rfl (by rfl) hC (fun K hK => ?_)
  go_simp
  refine (awake_any _).mono ?_
  rintro e w6 ⟨rfl, hb6⟩
  go_wp2_with fail
  refine hK.out _ _ (.inr ?_) ?_
  · exact ((show Fr w5 w5.drew (fun _ => False) from hS).trans (Fr.of_below hb6)).mono (by simp)
  clear hK K hC
  intro hC
  try simp only [Act.put, List.setIfInBounds_toArray, List.set_cons_zero, List.set_cons_succ, List.getElem_toArray, List.getElem_cons_zero, List.getElem_cons_succ]
  have hS6 : Fr w5 w6 (fun _ => False) := ((show Fr w5 w5.drew (fun _ => False) from hS).trans (Fr.of_below hb6)).mono (by simp)
  clear hS hb6
  have hS := hS6
  refine wpAnyG_takeB (i := 1) (v := .bool true) rfl (by kernel_rfl) (by kernel_rfl) (by kernel_rfl) (by kernel_rfl) (fun _ _ _ h => h) hC (Or.inl ⟨by rfl, fun w' hSw => ?_⟩) hS ?_
  · go_simp
  clear hC
  intro hC
  try simp only [Act.put, List.setIfInBounds_toArray, List.set_cons_zero, List.set_cons_succ, List.getElem_toArray, List.getElem_cons_zero, List.getElem_cons_succ]
  refine wpAnyG_takeB (i := 2) (v := .int .i64 0) rfl (by kernel_rfl) (by kernel_rfl) (by kernel_rfl) (by kernel_rfl) (fun _ _ _ h => h) hC (Or.inl ⟨by rfl, fun w' hSw => ?_⟩) hS ?_
  · go_simp
  clear hC
  intro hC
  try simp only [Act.put, List.setIfInBounds_toArray, List.set_cons_zero, List.set_cons_succ, List.getElem_toArray, List.getElem_cons_zero, List.getElem_cons_succ]
  refine wpAnyG_takeB (i := 3) (v := .bool true) rfl (by kernel_rfl) (by kernel_rfl) (by kernel_rfl) (by kernel_rfl) (fun _ _ _ h => h) hC (Or.inl ⟨by rfl, fun w' hSw => ?_⟩) hS ?_
  · go_simp
  clear hC
  intro hC
  try simp only [Act.put, List.setIfInBounds_toArray, List.set_cons_zero, List.set_cons_succ, List.getElem_toArray, List.getElem_cons_zero, List.getElem_cons_succ]
  refine wpAnyG_takeB (i := 4) (v := .bool true) rfl (by kernel_rfl) (by kernel_rfl) (by kernel_rfl) (by kernel_rfl) (fun _ _ _ h => h) hC (Or.inl ⟨by rfl, fun w' hSw => ?_⟩) hS ?_
  · go_simp
  clear hC
  intro hC
  try simp only [Act.put, List.setIfInBounds_toArray, List.set_cons_zero, List.set_cons_succ, List.getElem_toArray, List.getElem_cons_zero, List.getElem_cons_succ]
  refine wpAnyG_takeB (i := 5) (v := .bool true) rfl (by kernel_rfl) (by kernel_rfl) (by kernel_rfl) (by kernel_rfl) (fun _ _ _ h => h) hC (Or.inl ⟨by rfl, fun w' hSw => ?_⟩) hS ?_
  · go_simp
  clear hC
  intro hC
  try simp only [Act.put, List.setIfInBounds_toArray, List.set_cons_zero, List.set_cons_succ, List.getElem_toArray, List.getElem_cons_zero, List.getElem_cons_succ]
  refine wpAnyG_takeB (i := 6) (v := .int .i64 0) rfl (by kernel_rfl) (by kernel_rfl) (by kernel_rfl) (by kernel_rfl) (fun _ _ _ h => h) hC (Or.inl ⟨by rfl, fun w' hSw => ?_⟩) hS ?_
  · go_simp
  clear hC
  intro hC
  try simp only [Act.put, List.setIfInBounds_toArray, List.set_cons_zero, List.set_cons_succ, List.getElem_toArray, List.getElem_cons_zero, List.getElem_cons_succ]
  refine wpAnyG_takeB (i := 7) (v := .bool true) rfl (by kernel_rfl) (by kernel_rfl) (by kernel_rfl) (by kernel_rfl) (fun _ _ _ h => h) hC (Or.inl ⟨by rfl, fun w' hSw => ?_⟩) hS ?_
  · go_simp
  clear hC
  intro hC
  try simp only [Act.put, List.setIfInBounds_toArray, List.set_cons_zero, List.set_cons_succ, List.getElem_toArray, List.getElem_cons_zero, List.getElem_cons_succ]
  refine wpAnyG_takeB (i := 8) (v := .bool true) rfl (by kernel_rfl) (by kernel_rfl) (by kernel_rfl) (by kernel_rfl) (fun _ _ _ h => h) hC (Or.inl ⟨by rfl, fun w' hSw => ?_⟩) hS ?_
  · go_simp
  clear hC
  intro hC
  try simp only [Act.put, List.setIfInBounds_toArray, List.set_cons_zero, List.set_cons_succ, List.getElem_toArray, List.getElem_cons_zero, List.getElem_cons_succ]
  refine wpAnyG_takeB (i := 9) (v := .bool true) rfl (by kernel_rfl) (by kernel_rfl) (by kernel_rfl) (by kernel_rfl) (fun _ _ _ h => h) hC (Or.inl ⟨by rfl, fun w' hSw => ?_⟩) hS ?_
  · go_simp
  clear hC
  intro hC
  try simp only [Act.put, List.setIfInBounds_toArray, List.set_cons_zero, List.set_cons_succ, List.getElem_toArray, List.getElem_cons_zero, List.getElem_cons_succ]
  refine wpAnyG_takeB (i := 10) (v := .slice q 640 cap) rfl (by kernel_rfl) (by kernel_rfl) (by kernel_rfl) (by kernel_rfl) (fun _ _ _ h => h) hC (Or.inl ⟨by rfl, fun w' hSw => ?_⟩) hS ?_
  · go_simp
  clear hC
  intro hC
  try simp only [Act.put, List.setIfInBounds_toArray, List.set_cons_zero, List.set_cons_succ, List.getElem_toArray, List.getElem_cons_zero, List.getElem_cons_succ]
  refine wpAnyG_takeB (i := 11) (v := .int .i64 640) rfl (by kernel_rfl) (by kernel_rfl) (by kernel_rfl) (by kernel_rfl) (fun _ _ _ h => h) hC (Or.inl ⟨by rfl, fun w' hSw => ?_⟩) hS ?_
  · go_simp
  clear hC
  intro hC
  try simp only [Act.put, List.setIfInBounds_toArray, List.set_cons_zero, List.set_cons_succ, List.getElem_toArray, List.getElem_cons_zero, List.getElem_cons_succ]
  refine wpAnyG_takeB (i := 12) (v := .bool true) rfl (by kernel_rfl) (by kernel_rfl) (by kernel_rfl) (by kernel_rfl) (fun _ _ _ h => h) hC (Or.inl ⟨by rfl, fun w' hSw => ?_⟩) hS ?_
  · go_simp
  clear hC
  intro hC
  try simp only [Act.put, List.setIfInBounds_toArray, List.set_cons_zero, List.set_cons_succ, List.getElem_toArray, List.getElem_cons_zero, List.getElem_cons_succ]
  refine wpAnyG_takeB (i := 13) (v := .bool true) rfl (by kernel_rfl) (by kernel_rfl) (by kernel_rfl) (by kernel_rfl) (fun _ _ _ h => h) hC (Or.inl ⟨by rfl, fun w' hSw => ?_⟩) hS ?_
  · go_simp
  clear hC
  intro hC
  try simp only [Act.put, List.setIfInBounds_toArray, List.set_cons_zero, List.set_cons_succ, List.getElem_toArray, List.getElem_cons_zero, List.getElem_cons_succ]
  refine wpAnyG_takeB (i := 14) (v := .bool true) rfl (by kernel_rfl) (by kernel_rfl) (by kernel_rfl) (by kernel_rfl) (fun _ _ _ h => h) hC (Or.inl ⟨by rfl, fun w' hSw => ?_⟩) hS ?_
  · go_simp
  clear hC
  intro hC
  try simp only [Act.put, List.setIfInBounds_toArray, List.set_cons_zero, List.set_cons_succ, List.getElem_toArray, List.getElem_cons_zero, List.getElem_cons_succ]
  refine wpAnyG_takeB (i := 15) (v := .slice q 640 cap) rfl (by kernel_rfl) (by kernel_rfl) (by kernel_rfl) (by kernel_rfl) (fun _ _ _ h => h) hC (Or.inl ⟨by rfl, fun w' hSw => ?_⟩) hS ?_
  · go_simp
  clear hC
  intro hC
  try simp only [Act.put, List.setIfInBounds_toArray, List.set_cons_zero, List.set_cons_succ, List.getElem_toArray, List.getElem_cons_zero, List.getElem_cons_succ]
  refine wpAnyG_takeB (i := 16) (v := .int .i64 (n : Int)) rfl (by kernel_rfl) (by kernel_rfl) (by kernel_rfl) (by kernel_rfl) (fun _ _ _ h => h) hC (Or.inl ⟨by rfl, fun w' hSw => ?_⟩) hS ?_
  · go_simp
  clear hC
  intro hC
  try simp only [Act.put, List.setIfInBounds_toArray, List.set_cons_zero, List.set_cons_succ, List.getElem_toArray, List.getElem_cons_zero, List.getElem_cons_succ]
  refine wpAnyG_takeB (i := 17) (v := .int .i64 (64 * (n : Int))) rfl (by kernel_rfl) (by kernel_rfl) (by kernel_rfl) (by kernel_rfl) (fun _ _ _ h => h) hC (Or.inl ⟨by rfl, fun w' hSw => ?_⟩) hS ?_
  · go_simp
  clear hC
  intro hC
  try simp only [Act.put, List.setIfInBounds_toArray, List.set_cons_zero, List.set_cons_succ, List.getElem_toArray, List.getElem_cons_zero, List.getElem_cons_succ]
  refine wpAnyG_takeB (i := 18) (v := .int .i64 (n : Int)) rfl (by kernel_rfl) (by kernel_rfl) (by kernel_rfl) (by kernel_rfl) (fun _ _ _ h => h) hC (Or.inl ⟨by rfl, fun w' hSw => ?_⟩) hS ?_
  · go_simp
  clear hC
  intro hC
  try simp only [Act.put, List.setIfInBounds_toArray, List.set_cons_zero, List.set_cons_succ, List.getElem_toArray, List.getElem_cons_zero, List.getElem_cons_succ]
  refine wpAnyG_takeB (i := 19) (v := .int .i64 (64 * (n : Int))) rfl (by kernel_rfl) (by kernel_rfl) (by kernel_rfl) (by kernel_rfl) (fun _ _ _ h => h) hC (Or.inl ⟨by rfl, fun w' hSw => ?_⟩) hS ?_
  · go_simp
  clear hC
  intro hC
  try simp only [Act.put, List.setIfInBounds_toArray, List.set_cons_zero, List.set_cons_succ, List.getElem_toArray, List.getElem_cons_zero, List.getElem_cons_succ]
  refine wpAnyG_takeB (i := 20) (v := .int .i64 (64 * (n : Int) + 100)) rfl (by kernel_rfl) (by kernel_rfl) (by kernel_rfl) (by kernel_rfl) (fun _ _ _ h => h) hC (Or.inl ⟨by rfl, fun w' hSw => ?_⟩) hS ?_
  · go_simp
  clear hC
  intro hC
  try simp only [Act.put, List.setIfInBounds_toArray, List.set_cons_zero, List.set_cons_succ, List.getElem_toArray, List.getElem_cons_zero, List.getElem_cons_succ]
  refine wpAnyG_takeB (i := 21) (v := .slice qm 100 (cap - 64 * n)) rfl (by kernel_rfl) (by kernel_rfl) (by kernel_rfl) (by kernel_rfl) (fun _ _ _ h => h) hC (Or.inl ⟨by rfl, fun w' hSw => ?_⟩) hS ?_
  · go_simp
  clear hC
  intro hC
  try simp only [Act.put, List.setIfInBounds_toArray, List.set_cons_zero, List.set_cons_succ, List.getElem_toArray, List.getElem_cons_zero, List.getElem_cons_succ]
  refine wpAnyG_takeB (i := 22) (v := .string (strOfNums (strL (strm key (List.replicate 12 0) c1) 100))) rfl (by kernel_rfl) (by kernel_rfl) (by kernel_rfl) (by kernel_rfl) (fun _ _ _ h => h) hC (Or.inl ⟨by rfl, fun w' hSw => ?_⟩) hS ?_
  · have hq := (HSM.out.fr (show Fr w5 w' (fun _ => False) from hSw) (fun _ _ _ h => h)).convert (P := Try.prog) (cap - 64 * n) 31 5 9 Try.underlying31 Try.underlying5 Try.underlying9; go_simp
  clear hC
  intro hC
  try simp only [Act.put, List.setIfInBounds_toArray, List.set_cons_zero, List.set_cons_succ, List.getElem_toArray, List.getElem_cons_zero, List.getElem_cons_succ]
  refine wpAnyG_takeB (i := 23) (v := .slice q2 100 cap2) rfl (by kernel_rfl) (by kernel_rfl) (by kernel_rfl) (by kernel_rfl) (fun _ _ _ h => h) hC (Or.inl ⟨by rfl, fun w' hSw => ?_⟩) hS ?_
  · go_simp
  clear hC
  intro hC
  try simp only [Act.put, List.setIfInBounds_toArray, List.set_cons_zero, List.set_cons_succ, List.getElem_toArray, List.getElem_cons_zero, List.getElem_cons_succ]
  refine wpAnyG_takeB (i := 24) (v := .string (strOfNums (strL (strm key (List.replicate 12 0) c1) 100))) rfl (by kernel_rfl) (by kernel_rfl) (by kernel_rfl) (by kernel_rfl) (fun _ _ _ h => h) hC (Or.inl ⟨by rfl, fun w' hSw => ?_⟩) hS ?_
  · have hq := (hsb.out.fr (show Fr w5 w' (fun _ => False) from hSw) (fun _ _ _ h => h)).convert (P := Try.prog) cap2 31 5 9 Try.underlying31 Try.underlying5 Try.underlying9; go_simp
  clear hC
  intro hC
  try simp only [Act.put, List.setIfInBounds_toArray, List.set_cons_zero, List.set_cons_succ, List.getElem_toArray, List.getElem_cons_zero, List.getElem_cons_succ]
  refine wpAnyG_takeB (i := 25) (v := .bool true) rfl (by kernel_rfl) (by kernel_rfl) (by kernel_rfl) (by kernel_rfl) (fun _ _ _ h => h) hC (Or.inl ⟨by rfl, fun w' hSw => ?_⟩) hS ?_
  · go_simp
  clear hC
  intro hC
  try simp only [Act.put, List.setIfInBounds_toArray, List.set_cons_zero, List.set_cons_succ, List.getElem_toArray, List.getElem_cons_zero, List.getElem_cons_succ]
  refine wpAnyG_takeB (i := 26) (v := .bool true) rfl (by kernel_rfl) (by kernel_rfl) (by kernel_rfl) (by kernel_rfl) (fun _ _ _ h => h) hC (Or.inl ⟨by rfl, fun w' hSw => ?_⟩) hS ?_
  · go_simp
  clear hC
  intro hC
  try simp only [Act.put, List.setIfInBounds_toArray, List.set_cons_zero, List.set_cons_succ, List.getElem_toArray, List.getElem_cons_zero, List.getElem_cons_succ]
  refine wpAnyG_takeB (i := 27) (v := .bool true) rfl (by kernel_rfl) (by kernel_rfl) (by kernel_rfl) (by kernel_rfl) (fun _ _ _ h => h) hC (Or.inl ⟨by rfl, fun w' hSw => ?_⟩) hS ?_
  · go_simp
  clear hC
  intro hC
  try simp only [Act.put, List.setIfInBounds_toArray, List.set_cons_zero, List.set_cons_succ, List.getElem_toArray, List.getElem_cons_zero, List.getElem_cons_succ]
  refine wpAnyG_done (by kernel_rfl) ?_ _
  refine NoPanic.normal ?_
  have HX := Lib.hid (((HFA.out.trans HF3.out).trans HF5.out).trans hS6)
  clear hS hS6 s1 s2 hqm2
  go_wp2_with fail
  go_ret
  exact ⟨rfl, HX.out.below (Nat.le_refl _) (fun k _ h => by simp at h)⟩
end Go.Proofs.Ytbgidkphbbpdeaa
