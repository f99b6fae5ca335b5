/- ChachaBlocks: the walk. -/
import Derived.Test.YtbgidkphbbpdeaaChaAwake
import Derived.Deep.RegionHeld3
import Derived.ChangeKeysEq
namespace Go.Proofs.Ytbgidkphbbpdeaa
open Go.RowKit
set_option linter.unusedVariables false
set_option linter.unusedSimpArgs false

theorem eqItems_self (d : Nat) (xs : Array Value) (w : World) (hx : ∀ i, i < xs.size → ∃ x : Int, xs[i]? = some (.int .u8 x)) : ∀ is : List Nat, (∀ i ∈ is, i < xs.size) → (Op.eqItems (d + 1) 5 1 xs xs is).run Try.prog w = .ok true w
  | [], _ => rfl
  | i :: is, h => by
    obtain ⟨x, e⟩ := hx i (h i (by simp))
    have hp : (part 5 xs (i * 1)).run Try.prog w = .ok (.int .u8 x) w := run_part_plain w (by kernel_rfl) (by rw [Nat.mul_one]; exact e)
    have hq := run_equalIn_int (P := Try.prog) w d 5 .u8 .u8 x x Try.underlying5
    simp only [Op.eqItems, Sem.run_bind, hp, hq, Result.andThen_ok]
    simpa using eqItems_self d xs w hx is (fun j hj => h j (by simp [hj]))
theorem block_equal (xs : Array Value) (hs : xs.size = 64) (hx : ∀ i, i < xs.size → ∃ x : Int, xs[i]? = some (.int .u8 x)) (w : World) : (Op.equalIn 10000 27 (.agg xs) (.agg xs)).run Try.prog w = .ok true w := by
  have hc : Try.prog.cellsOf 5 = 1 := by kernel_rfl
  obtain ⟨i5, hi5⟩ : ∃ i, Try.prog.info? 5 = some i := ⟨_, rfl⟩
  rw [run_equalIn_array w 9999 xs xs Try.underlying27 hi5, hc]
  exact eqItems_self 9998 xs w hx _ (fun i hi => by rw [hs]; simpa using hi)

theorem oct_cells (ks : List Nat) (E : Array Value) (h : E = (ks.map fun (x : Nat) => Value.int .u8 (x : Int)).toArray) : ∀ i, i < E.size → ∃ x : Int, E[i]? = some (.int .u8 x) := by
  subst h
  intro i hi
  simp at hi
  exact ⟨((ks[i]'hi : Nat) : Int), by simp [List.getElem?_eq_getElem hi]⟩
theorem range_below {w w' : World} {b o : Nat} {cs : List Value} (h : w.rangeAt b o cs) (hb : Below w.heap.size w w') (hlt : b < w.heap.size) : w'.rangeAt b o cs := fun j v hj => (hb.cell (p := ⟨b, o + j, none⟩) hlt).trans (h j v hj)
theorem Kept.go {w : World} {kl nl : List Value} {w1 w2 : World} {B N : Nat} (hN : B < N) (h : w1.rangeAt B 0 kl ∧ w1.rangeAt N 0 nl ∧ Below B w w1 ∧ N < w1.heap.size) (hb : Below w1.heap.size w1 w2) : w2.rangeAt B 0 kl ∧ w2.rangeAt N 0 nl ∧ Below B w w2 ∧ N < w2.heap.size :=
  ⟨range_below h.1 hb (by omega), range_below h.2.1 hb h.2.2.2, h.2.2.1.trans (hb.mono (by omega)), Nat.lt_of_lt_of_le h.2.2.2 hb.size⟩

set_option maxRecDepth 100000 in
set_option maxHeartbeats 400000 in
theorem blocks_any (key nonce : List Nat) (c : Nat) (hk : key.length = 32) (hn : nonce.length = 12) (hkl : ∀ x ∈ key, x < 256) (hnl : ∀ x ∈ nonce, x < 256) (hc : (c : Int) ≤ 4294967295) (w : World) :
    Calls Try.prog 3 #[octVal key, octVal nonce, .int .u32 (c : Int)] w fun e w' => e = .returned (.bool true) ∧ Below w.heap.size w w' := by
  obtain ⟨kl, hkl'⟩ : ∃ l : List Value, l = key.map fun (x : Nat) => Value.int .u8 (x : Int) := ⟨_, rfl⟩
  obtain ⟨nl, hnl'⟩ : ∃ l : List Value, l = nonce.map fun (x : Nat) => Value.int .u8 (x : Int) := ⟨_, rfl⟩
  have eK : octVal key = .agg kl.toArray := by rw [hkl']; rfl
  have eN : octVal nonce = .agg nl.toArray := by rw [hnl']; rfl
  have K9 := Lib.hid (fun w => block_any key nonce c hk hn hkl hnl hc w)
  have K10 := Lib.hid (fun w => refBlock_any key nonce c hk hn hkl hnl hc w)
  obtain ⟨E, hE, hEE, hEs, hE1⟩ := octVal_arr (blockF key nonce c) 64 (blockF_len _ _ _)
  have HQ := Lib.hid (block_equal E hEs (oct_cells _ E hEE.out))
  rw [eK, eN, hE] at K9 K10
  rw [eK, eN]
  have lK : (Try.prog.info? 23).map (·.size) = some kl.length := by rw [hkl', List.length_map, hk]; kernel_rfl
  have lN : (Try.prog.info? 24).map (·.size) = some nl.length := by rw [hnl', List.length_map, hn]; kernel_rfl
  have LK := Lib.hid lK
  have LN := Lib.hid lN
  clear hkl' hnl' eK eN hk hn hkl hnl hE hEE hEs hE1 lK lN
  go_enter Try.func3, Try.ntmps3
  go_upto_region 1 with (fail)
  obtain ⟨W, hW⟩ : ∃ W, W = (w.alloc (.cells kl.toArray 23)).alloc (.cells nl.toArray 24) := ⟨_, rfl⟩
  have rK : W.drew.rangeAt w.heap.size 0 kl := by
    intro j v hj
    rw [hW]
    show ((w.alloc _).alloc _).cell? _ = _
    rw [Nat.zero_add, cell_of_row _ _ _ _ _ _ (heap_alloc2_old w _ _)]
    simpa using hj
  have rN : W.drew.rangeAt (w.heap.size + 1) 0 nl := by
    intro j v hj
    rw [hW]
    show ((w.alloc _).alloc _).cell? _ = _
    rw [Nat.zero_add, cell_of_row _ _ _ _ _ _ (heap_alloc2_new w _ _)]
    simpa using hj
  have hB : Below w.heap.size w W.drew := by
    rw [hW]
    exact (((Below.refl _ _).alloc (Nat.le_refl _) _).alloc (by simp) _).drew
  have hz : w.heap.size + 1 < W.drew.heap.size := by rw [hW]; simp
  rw [← hW]
  have HW : Hid (w.heap.size < w.heap.size + 1 ∧ w.heap.size + 1 ≤ w.heap.size + 1) := Lib.hid (by omega)
  obtain ⟨N, hN⟩ : ∃ R, R = w.heap.size + 1 := ⟨_, rfl⟩
  obtain ⟨B, hB'⟩ : ∃ R, R = w.heap.size := ⟨_, rfl⟩
  rw [← hN] at rN hz ⊢
  rw [← hB'] at rK hB ⊢
  have HN := Lib.hid (show B < N by omega)
  have HBw := Lib.hid hB'
  clear hW hN hB' HW
  have lK := LK.out
  have lN := LN.out
  refine wp_region_noPanic ?_
  refine wp_region_held_drew (S := fun w' => w'.rangeAt B 0 kl ∧ w'.rangeAt N 0 nl ∧ Below B w w' ∧ N < w'.heap.size) (by kernel_rfl) ⟨rK, rN, hB, hz⟩ (fun hHeld => ?_)
  clear rK rN hB hz
  refine wpAnyH_ready (rs := [0]) (by kernel_rfl) (by simp) ?_
  refine AllReadyH.cons rfl (fun K hK => ?_) AllReadyH.nil
  go_simp
  refine (awake_any _).mono ?_
  rintro e w1 ⟨rfl, hb⟩
  go_wp2_with fail
  refine hK.out _ _ (Kept.go HN.out hHeld hb) (fun hHeld' => ?_)
  clear hK K hHeld
  rename _ => hHeld
  try simp only [Act.put, List.setIfInBounds_toArray, List.set_cons_zero, List.set_cons_succ, List.getElem_toArray, List.getElem_cons_zero, List.getElem_cons_succ]
  refine wpAnyH_take (i := 1) (v := .bool true) rfl (by kernel_rfl) (by kernel_rfl) (by kernel_rfl) (fun _ _ _ h => h) (Or.inl ⟨by rfl, fun w hSw => ?_⟩) hHeld ?_
  · go_simp
  try simp only [Act.put, List.setIfInBounds_toArray, List.set_cons_zero, List.set_cons_succ, List.getElem_toArray, List.getElem_cons_zero, List.getElem_cons_succ]
  refine wpAnyH_take (i := 2) (v := .agg (List.toArray kl)) rfl (by kernel_rfl) (by kernel_rfl) (by kernel_rfl) (fun _ _ _ h => h) (yieldsIf_load_mid (by rfl) 23 _ rfl _ _ rfl kl _ (fun _ h => h.1) Try.underlying23 rfl (by assumption)) hHeld ?_
  try simp only [Act.put, List.setIfInBounds_toArray, List.set_cons_zero, List.set_cons_succ, List.getElem_toArray, List.getElem_cons_zero, List.getElem_cons_succ]
  refine wpAnyH_take (i := 3) (v := .agg (List.toArray nl)) rfl (by kernel_rfl) (by kernel_rfl) (by kernel_rfl) (fun _ _ _ h => h) (yieldsIf_load_mid (by rfl) 24 _ rfl _ _ rfl nl _ (fun _ h => h.2.1) Try.underlying24 rfl (by assumption)) hHeld ?_
  try simp only [Act.put, List.setIfInBounds_toArray, List.set_cons_zero, List.set_cons_succ, List.getElem_toArray, List.getElem_cons_zero, List.getElem_cons_succ]
  refine wpAnyH_take (i := 4) (v := .int .u32 (c : Int)) rfl (by kernel_rfl) (by kernel_rfl) (by kernel_rfl) (fun _ _ _ h => h) (Or.inl ⟨by rfl, fun w hSw => ?_⟩) hHeld ?_
  · go_simp
  try simp only [Act.put, List.setIfInBounds_toArray, List.set_cons_zero, List.set_cons_succ, List.getElem_toArray, List.getElem_cons_zero, List.getElem_cons_succ]
  refine wpAnyH_take (i := 6) (v := .agg (List.toArray kl)) rfl (by kernel_rfl) (by kernel_rfl) (by kernel_rfl) (fun _ _ _ h => h) (yieldsIf_load_mid (by rfl) 23 _ rfl _ _ rfl kl _ (fun _ h => h.1) Try.underlying23 rfl (by assumption)) hHeld ?_
  try simp only [Act.put, List.setIfInBounds_toArray, List.set_cons_zero, List.set_cons_succ, List.getElem_toArray, List.getElem_cons_zero, List.getElem_cons_succ]
  refine wpAnyH_take (i := 7) (v := .agg (List.toArray nl)) rfl (by kernel_rfl) (by kernel_rfl) (by kernel_rfl) (fun _ _ _ h => h) (yieldsIf_load_mid (by rfl) 24 _ rfl _ _ rfl nl _ (fun _ h => h.2.1) Try.underlying24 rfl (by assumption)) hHeld ?_
  try simp only [Act.put, List.setIfInBounds_toArray, List.set_cons_zero, List.set_cons_succ, List.getElem_toArray, List.getElem_cons_zero, List.getElem_cons_succ]
  refine wpAnyH_take (i := 8) (v := .int .u32 (c : Int)) rfl (by kernel_rfl) (by kernel_rfl) (by kernel_rfl) (fun _ _ _ h => h) (Or.inl ⟨by rfl, fun w hSw => ?_⟩) hHeld ?_
  · go_simp
  try simp only [Act.put, List.setIfInBounds_toArray, List.set_cons_zero, List.set_cons_succ, List.getElem_toArray, List.getElem_cons_zero, List.getElem_cons_succ]
  refine wpAnyH_ready (rs := [5]) (by kernel_rfl) (by simp) ?_
  refine AllReadyH.cons rfl (fun K hK => ?_) AllReadyH.nil
  go_simp
  refine (K9.out _).mono ?_
  rintro e w1 ⟨rfl, hb⟩
  go_wp2_with fail
  refine hK.out _ _ (Kept.go HN.out hHeld hb) (fun hHeld' => ?_)
  clear hK K hHeld
  rename _ => hHeld
  try simp only [Act.put, List.setIfInBounds_toArray, List.set_cons_zero, List.set_cons_succ, List.getElem_toArray, List.getElem_cons_zero, List.getElem_cons_succ]
  refine wpAnyH_ready (rs := [9]) (by kernel_rfl) (by simp) ?_
  refine AllReadyH.cons rfl (fun K hK => ?_) AllReadyH.nil
  go_simp
  refine (K10.out _).mono ?_
  rintro e w1 ⟨rfl, hb⟩
  go_wp2_with fail
  refine hK.out _ _ (Kept.go HN.out hHeld hb) (fun hHeld' => ?_)
  clear hK K hHeld
  rename _ => hHeld
  try simp only [Act.put, List.setIfInBounds_toArray, List.set_cons_zero, List.set_cons_succ, List.getElem_toArray, List.getElem_cons_zero, List.getElem_cons_succ]
  have heq := HQ.out
  refine wpAnyH_take (i := 10) (v := .bool true) rfl (by kernel_rfl) (by kernel_rfl) (by kernel_rfl) (fun _ _ _ h => h) (Or.inl ⟨by rfl, fun w hSw => ?_⟩) hHeld ?_
  · go_simp
  try simp only [Act.put, List.setIfInBounds_toArray, List.set_cons_zero, List.set_cons_succ, List.getElem_toArray, List.getElem_cons_zero, List.getElem_cons_succ]
  refine wpAnyH_take (i := 11) (v := .bool true) rfl (by kernel_rfl) (by kernel_rfl) (by kernel_rfl) (fun _ _ _ h => h) (Or.inl ⟨by rfl, fun w hSw => ?_⟩) hHeld ?_
  · go_simp
  try simp only [Act.put, List.setIfInBounds_toArray, List.set_cons_zero, List.set_cons_succ, List.getElem_toArray, List.getElem_cons_zero, List.getElem_cons_succ]
  refine wpAnyH_take (i := 12) (v := .bool true) rfl (by kernel_rfl) (by kernel_rfl) (by kernel_rfl) (fun _ _ _ h => h) (Or.inl ⟨by rfl, fun w hSw => ?_⟩) hHeld ?_
  · go_simp
  try simp only [Act.put, List.setIfInBounds_toArray, List.set_cons_zero, List.set_cons_succ, List.getElem_toArray, List.getElem_cons_zero, List.getElem_cons_succ]
  refine wpAnyH_done (by kernel_rfl) ?_ _
  refine NoPanic.normal ?_
  have HX := Lib.hid hHeld.2.2.1
  clear hHeld heq lK lN
  go_wp2_with fail
  go_ret
  exact ⟨rfl, by rw [← HBw.out]; exact HX.out⟩
end Go.Proofs.Ytbgidkphbbpdeaa
