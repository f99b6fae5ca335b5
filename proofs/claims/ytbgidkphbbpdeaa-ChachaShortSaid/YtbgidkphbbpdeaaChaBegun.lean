/- The contract of chacha's begun: the words ahead of the rounds. -/
import Derived.Test.YtbgidkphbbpdeaaChaWord
namespace Go.Proofs.Ytbgidkphbbpdeaa
open Go.RowKit
set_option linter.unusedVariables false
set_option linter.unusedSimpArgs false

/-- n bytes in block B. -/
structure Octs (w : World) (B : Nat) (t : TypeId) (n : Nat) (ks : List Nat) : Prop where
  cells : w.heap[B]? = some (.cells (ks.map fun (x : Nat) => Value.int .u8 (x : Int)).toArray t (0, 0))
  len : ks.length = n
  lt : ∀ x ∈ ks, x < 256
theorem Octs.fr {w w' : World} {B : Nat} {t : TypeId} {n : Nat} {gs : List Nat} {T : Nat → Prop} (h : Octs w B t n gs) (hf : Fr w w' T) (hB : ¬ T B) : Octs w' B t n gs := ⟨hf.heap h.cells hB, h.len, h.lt⟩
theorem Octs.cell {w : World} {B : Nat} {t : TypeId} {n : Nat} {gs : List Nat} (h : Octs w B t n gs) (i : Nat) (hi : i < n) : w.cell? ⟨B, i, none⟩ = some (.int .u8 (gs.getD i 0 : Nat)) := by
  rw [cell_of_row w B _ _ _ _ h.cells]
  have := h.len
  simp [List.getD, List.getElem?_eq_getElem (show i < gs.length by omega)]
theorem Octs.frozen {w : World} {B : Nat} {t : TypeId} {n : Nat} {gs : List Nat} (h : Octs w B t n gs) (i : Nat) : w.frozen? ⟨B, i, none⟩ = false := frozen_of_row w B _ _ _ h.cells
theorem getD_lt_256 {gs : List Nat} (h : ∀ x ∈ gs, x < 256) (i : Nat) : gs.getD i 0 < 256 := by
  by_cases hi : i < gs.length
  · have := h (gs[i]) (List.getElem_mem _)
    simpa [List.getD, List.getElem?_eq_getElem hi] using this
  · simp [List.getD, List.getElem?_eq_none (by omega : gs.length ≤ i)]
theorem Octs.getD_lt {w : World} {B : Nat} {t : TypeId} {n : Nat} {gs : List Nat} (h : Octs w B t n gs) (i : Nat) : gs.getD i 0 < 256 := getD_lt_256 h.lt i
theorem Octs.set {w : World} {B : Nat} {t : TypeId} {n : Nat} {gs : List Nat} (h : Octs w B t n gs) (i : Nat) (v : Nat) (hv : v < 256) : Octs (w.setCell ⟨B, i, none⟩ (.int .u8 (v : Int))) B t n (gs.set i v) := by
  refine ⟨?_, by simp [h.len], fun x hx => ?_⟩
  · rw [heap_setCell_same w B i _ _ _ h.cells]
    simp [List.map_set]
  · rcases List.mem_or_eq_of_mem_set hx with hx | rfl
    · exact h.lt x hx
    · exact hv
theorem Octs.drew {w : World} {B : Nat} {t : TypeId} {n : Nat} {gs : List Nat} (h : Octs w B t n gs) : Octs w.drew B t n gs := ⟨h.cells, h.len, h.lt⟩

/-- The i-th word of some bytes. -/
def kw (ks : List Nat) (i : Nat) : Nat := le4 (ks.getD (4 * i) 0) (ks.getD (4 * i + 1) 0) (ks.getD (4 * i + 2) 0) (ks.getD (4 * i + 3) 0)
def fillW (ks : List Nat) (o : Nat) : Nat → List Nat → List Nat
  | 0, g => g
  | i + 1, g => (fillW ks o i g).set (o + i) (kw ks i)
def begunW (key nonce : List Nat) (c : Nat) : List Nat := fillW nonce 13 3 (fillW key 4 8 [1634760805, 857760878, 2036477234, 1797285236, 0, 0, 0, 0, 0, 0, 0, 0, c, 0, 0, 0])
def octVal (ks : List Nat) : Value := .agg (ks.map fun (x : Nat) => Value.int .u8 (x : Int)).toArray

theorem little_at (B t n : Nat) (ks : List Nat) (w : World) (h : Octs w B t n ks) (i : Nat) (hi : 4 * i + 4 ≤ n) (cap : Nat) :
    Calls Try.prog 21 #[.slice (some ⟨B, 4 * i, none⟩) 4 cap] w fun e w' => e = .returned (.int .u64 (kw ks i : Nat)) ∧ w = w' :=
  little_any B (4 * i) cap _ _ _ _ (h.getD_lt _) (h.getD_lt _) (h.getD_lt _) (h.getD_lt _) w (h.cell _ (by omega)) (h.cell _ (by omega)) (h.cell _ (by omega)) (h.cell _ (by omega))
theorem word_at (B t n : Nat) (ks : List Nat) (w : World) (h : Octs w B t n ks) (i : Nat) (hi : 4 * i + 4 ≤ n) (cap : Nat) :
    Calls Try.prog 18 #[.slice (some ⟨B, 4 * i, none⟩) 4 cap] w fun e w' => e = .returned (.int .u32 (kw ks i : Nat)) ∧ Fr w w' (fun _ => False) :=
  word_any B (4 * i) cap _ _ _ _ (h.getD_lt _) (h.getD_lt _) (h.getD_lt _) (h.getD_lt _) w (h.cell _ (by omega)) (h.cell _ (by omega)) (h.cell _ (by omega)) (h.cell _ (by omega))
theorem kw_lt {ks : List Nat} (h : ∀ x ∈ ks, x < 256) (i : Nat) : kw ks i < 4294967296 := le4_lt _ _ _ _ (getD_lt_256 h _) (getD_lt_256 h _) (getD_lt_256 h _) (getD_lt_256 h _)

theorem slice_arr {P : Program} (t : TypeId) (n : Nat) (ht : P.underlying t = some (.array n 5)) (hsz : ∀ w : World, (sizeOf 5).run P w = .ok 1 w) (B l h : Nat) (hl : l ≤ h) (hh : h ≤ n) (hln : l < n) (w : World) :
    (Instr.sliceAt t (.pointer (some ⟨B, 0, none⟩)) (some (.int .i64 (l : Int))) (some (.int .i64 (h : Int))) none).run P w = .ok (.slice (some ⟨B, l, none⟩) (h - l) (n - l)) w := by
  have ha : P.arrayLen t = n := by simp [Program.arrayLen, ht]
  have he : P.elem t = 5 := by simp [Program.elem, ht]
  rw [run_sliceAt_array_lh w t ⟨B, 0, none⟩ (by rw [ha, he]; exact ht) .i64 .i64 (l : Int) (h : Int) (by omega) (by omega) (by rw [ha]; omega), he, hsz w, ha]
  simp only [Result.andThen, slicedAt, Int.toNat_natCast]
  rw [if_neg (by omega), Addr.add_lit]
  simp
theorem slice4 {P : Program} (t : TypeId) (n : Nat) (ht : P.underlying t = some (.array n 5)) (hsz : ∀ w : World, (sizeOf 5).run P w = .ok 1 w) (B i : Nat) (hl : 4 * i + 4 ≤ n) (w : World) :
    (Instr.sliceAt t (.pointer (some ⟨B, 0, none⟩)) (some (.int .i64 (4 * (i : Int)))) (some (.int .i64 (4 * (i : Int) + 4))) none).run P w = .ok (.slice (some ⟨B, 4 * i, none⟩) 4 (n - 4 * i)) w := by
  have h := slice_arr t n ht hsz B (4 * i) (4 * i + 4) (by omega) hl (by omega) w
  have e1 : ((4 * i : Nat) : Int) = 4 * (i : Int) := by omega
  have e2 : ((4 * i + 4 : Nat) : Int) = 4 * (i : Int) + 4 := by omega
  rw [e1, e2] at h
  rw [h]
  congr 2
  omega
/-- A block of words or bytes as one array of cells, its content behind one name. -/
theorem Grid.arr {W : World} {B : Nat} {t : TypeId} {gs : List Nat} (h : Grid W B t gs) : ∃ D : Array Value, Hid (gridVal gs = .agg D) ∧ W.heap[B]? = some (.cells D t (0, 0)) ∧ D.size = 16 ∧ D.all (·.oneCell') = true := by
  refine ⟨_, Lib.hid rfl, h.cells, by simp [h.len], ?_⟩
  rw [Array.all_eq_true_iff_forall_mem]
  intro v hv
  simp at hv
  obtain ⟨x, _, rfl⟩ := hv
  rfl
theorem Octs.arr {W : World} {B : Nat} {t : TypeId} {n : Nat} {gs : List Nat} (h : Octs W B t n gs) : ∃ D : Array Value, Hid (octVal gs = .agg D) ∧ W.heap[B]? = some (.cells D t (0, 0)) ∧ D.size = n ∧ D.all (·.oneCell') = true := by
  refine ⟨_, Lib.hid rfl, h.cells, by simp [h.len], ?_⟩
  rw [Array.all_eq_true_iff_forall_mem]
  intro v hv
  simp at hv
  obtain ⟨x, _, rfl⟩ := hv
  rfl
theorem heap4 (w : World) (A B C D : Obj) : ((((w.alloc A).alloc B).alloc C).alloc D).heap[w.heap.size]? = some A ∧ ((((w.alloc A).alloc B).alloc C).alloc D).heap[w.heap.size + 1]? = some B ∧ ((((w.alloc A).alloc B).alloc C).alloc D).heap[w.heap.size + 2]? = some C ∧ ((((w.alloc A).alloc B).alloc C).alloc D).heap[w.heap.size + 3]? = some D := by
  show ((((w.heap.push A).push B).push C).push D)[w.heap.size]? = some A ∧ ((((w.heap.push A).push B).push C).push D)[w.heap.size + 1]? = some B ∧ ((((w.heap.push A).push B).push C).push D)[w.heap.size + 2]? = some C ∧ ((((w.heap.push A).push B).push C).push D)[w.heap.size + 3]? = some D
  refine ⟨?_, ?_, ?_, ?_⟩ <;> simp only [Array.getElem?_push, Array.size_push] <;> (repeat' split) <;> first | rfl | omega | (simp_all; done)

structure BeW (W0 W : World) (B N G : Nat) (key nonce gs : List Nat) (t : TypeId) (tg : TypeId) : Prop where
  key : Octs W B t 32 key
  nonce : Octs W N 24 12 nonce
  grid : Grid W G tg gs
  fr : Fr W0 W (fun k => k = G)
  ne : B ≠ G ∧ N ≠ G
theorem BeW.set {W0 W : World} {B N G : Nat} {key nonce gs : List Nat} {t tg : TypeId} (h : BeW W0 W B N G key nonce gs t tg) (i v : Nat) (hv : v < 4294967296) : BeW W0 (W.setCell ⟨G, i, none⟩ (.int .u32 (v : Int))) B N G key nonce (gs.set i v) t tg :=
  ⟨h.key.fr (Fr.setCell _ _ _) h.ne.1, h.nonce.fr (Fr.setCell _ _ _) h.ne.2, h.grid.set i v hv, h.fr.set _ _ rfl, h.ne⟩
theorem BeW.keep {W0 W W1 : World} {B N G : Nat} {key nonce gs : List Nat} {t tg : TypeId} (h : BeW W0 W B N G key nonce gs t tg) (hf : Fr W W1 (fun _ => False)) : BeW W0 W1 B N G key nonce gs t tg :=
  ⟨h.key.fr hf (fun h => h), h.nonce.fr hf (fun h => h), ⟨hf.heap h.grid.cells (fun h => h), h.grid.len, h.grid.lt⟩, (h.fr.trans hf).mono (by simp), h.ne⟩

set_option maxRecDepth 100000 in
set_option maxHeartbeats 1600000 in
theorem begun_any (key nonce : List Nat) (c : Nat) (hk : key.length = 32) (hn : nonce.length = 12) (hkl : ∀ x ∈ key, x < 256) (hnl : ∀ x ∈ nonce, x < 256) (hc : c < 4294967296) (w : World) :
    Calls Try.prog 15 #[octVal key, octVal nonce, .int .u32 (c : Int)] w fun e w' => e = .returned (gridVal (begunW key nonce c)) ∧ Below w.heap.size w w' := by
  obtain ⟨C, hC⟩ : ∃ C : Array Value, C = (key.map fun (x : Nat) => Value.int .u8 (x : Int)).toArray := ⟨_, rfl⟩
  obtain ⟨D, hD⟩ : ∃ C : Array Value, C = (nonce.map fun (x : Nat) => Value.int .u8 (x : Int)).toArray := ⟨_, rfl⟩
  have HC := Lib.hid hC
  have HD := Lib.hid hD
  have Hk := Lib.hid hk
  have Hn := Lib.hid hn
  have Hkl := Lib.hid hkl
  have Hnl := Lib.hid hnl
  unfold octVal
  rw [← hC, ← hD]
  clear hC hD hk hn hkl hnl
  go_enter Try.func15, Try.ntmps15
  go_wp2_with fail
  obtain ⟨W0, hW⟩ : ∃ W, W = (((w.alloc (.cells C 23)).alloc (.cells D 24)).alloc (.cells #[.int .u32 0, .int .u32 0, .int .u32 0, .int .u32 0, .int .u32 0, .int .u32 0, .int .u32 0, .int .u32 0, .int .u32 0, .int .u32 0, .int .u32 0, .int .u32 0, .int .u32 0, .int .u32 0, .int .u32 0, .int .u32 0] 44)).alloc (.cells #[.int .u32 1634760805, .int .u32 857760878, .int .u32 2036477234, .int .u32 1797285236, .int .u32 0, .int .u32 0, .int .u32 0, .int .u32 0, .int .u32 0, .int .u32 0, .int .u32 0, .int .u32 0, .int .u32 (c : Int), .int .u32 0, .int .u32 0, .int .u32 0] 44) := ⟨_, rfl⟩
  rw [← hW]
  obtain ⟨g0, hg0⟩ : ∃ g, g = [1634760805, 857760878, 2036477234, 1797285236, 0, 0, 0, 0, 0, 0, 0, 0, c, 0, 0, 0] := ⟨_, rfl⟩
  have Q0 : Hid (BeW W0 W0 w.heap.size (w.heap.size + 1) (w.heap.size + 1 + 1 + 1) key nonce g0 23 44 ∧ W0.heap[w.heap.size + 1 + 1]? = some (.cells #[.int .u32 0, .int .u32 0, .int .u32 0, .int .u32 0, .int .u32 0, .int .u32 0, .int .u32 0, .int .u32 0, .int .u32 0, .int .u32 0, .int .u32 0, .int .u32 0, .int .u32 0, .int .u32 0, .int .u32 0, .int .u32 0] 44 (0, 0))) := by
    refine Lib.hid ?_
    obtain ⟨k0, k1, k2, k3⟩ := heap4 w (.cells C 23) (.cells D 24) (.cells #[.int .u32 0, .int .u32 0, .int .u32 0, .int .u32 0, .int .u32 0, .int .u32 0, .int .u32 0, .int .u32 0, .int .u32 0, .int .u32 0, .int .u32 0, .int .u32 0, .int .u32 0, .int .u32 0, .int .u32 0, .int .u32 0] 44) (.cells #[.int .u32 1634760805, .int .u32 857760878, .int .u32 2036477234, .int .u32 1797285236, .int .u32 0, .int .u32 0, .int .u32 0, .int .u32 0, .int .u32 0, .int .u32 0, .int .u32 0, .int .u32 0, .int .u32 (c : Int), .int .u32 0, .int .u32 0, .int .u32 0] 44)
    rw [hW]
    refine ⟨⟨⟨?_, Hk.out, Hkl.out⟩, ⟨?_, Hn.out, Hnl.out⟩, ⟨?_, by rw [hg0]; rfl, ?_⟩, Fr.refl _ _, by omega, by omega⟩, k2⟩
    · rw [← HC.out]; exact k0
    · rw [← HD.out]; exact k1
    · rw [hg0]; exact k3
    · intro x hx
      rw [hg0] at hx
      simp at hx
      omega
  have HW : Hid (Below w.heap.size w W0) := by
    rw [hW]
    exact Lib.hid ((((Below.refl _ _).alloc (Nat.le_refl _) _).alloc (by simp) _).alloc (by simp; omega) _ |>.alloc (by simp; omega) _)
  obtain ⟨R, hR⟩ : ∃ R, R = w.heap.size + 1 + 1 := ⟨_, rfl⟩
  obtain ⟨G, hG⟩ : ∃ R, R = w.heap.size + 1 + 1 + 1 := ⟨_, rfl⟩
  obtain ⟨N, hN⟩ : ∃ R, R = w.heap.size + 1 := ⟨_, rfl⟩
  obtain ⟨B, hB⟩ : ∃ R, R = w.heap.size := ⟨_, rfl⟩
  have HRG : Hid (R ≠ G ∧ B ≤ R ∧ B ≤ G ∧ G < W0.heap.size) := Lib.hid (by rw [hW]; simp; omega)
  rw [← hG, ← hR, ← hN, ← hB] at Q0 ⊢
  rw [← hB] at HW
  have HBw := Lib.hid hB
  have HG0 := Lib.hid hg0
  clear hW hR hG hN hB hg0
  go_loopw [12] (fun v wr => ∃ (i : Nat), v = .int .i64 i ∧ i ≤ 8 ∧ BeW W0 wr B N G key nonce (fillW key 4 i g0) 23 44) (fun v _ => 8 - (intOf v).toNat)
  case atStart => exact ⟨0, rfl, by omega, Q0.out.1⟩
  case round =>
    obtain ⟨i, rfl, hi, hQ⟩ := hrel
    have H := Lib.hid hQ
    clear hQ
    by_cases hlt : (i : Int) < 8
    · have K := Lib.hid (fun cap => little_at B 23 32 key wr H.out.key i (by omega) cap)
      obtain ⟨z, hz⟩ : ∃ z, kw key i = z := ⟨_, rfl⟩
      have hzl : (z : Int) ≤ 4294967295 := by have := kw_lt Hkl.out i; rw [hz] at this; omega
      rw [hz] at K
      have H2 := Lib.hid (H.out.set (4 + i) z (by omega))
      have HE : Hid (fillW key 4 (i + 1) g0 = (fillW key 4 i g0).set (4 + i) z) := Lib.hid (by rw [← hz]; rfl)
      clear hz
      have hsl := slice4 23 32 Try.underlying23 Try.sizeOf5 B i (by omega)
      have hgc := H.out.grid.cell (4 + i) (by omega)
      have hgf := H.out.grid.frozen (4 + i)
      go_wp2_with fail
      clear hsl
      refine (K.out _).mono ?_
      rintro e w' ⟨rfl, rfl⟩
      go_wp2_with fail
      go_roundw
      case rel => exact ⟨i + 1, by go_num, by omega, by rw [HE.out]; exact H2.out⟩
      case measure => simp [intOf]; omega
    · obtain rfl : i = 8 := by omega
      obtain ⟨g1, hg1⟩ : ∃ g, g = fillW key 4 8 g0 := ⟨_, rfl⟩
      rw [← hg1] at H
      have HG1 := Lib.hid hg1
      clear hg1
      go_wp2_with fail
      go_loopw [27] (fun v wr => ∃ (i : Nat), v = .int .i64 i ∧ i ≤ 3 ∧ BeW W0 wr B N G key nonce (fillW nonce 13 i g1) 23 44) (fun v _ => 3 - (intOf v).toNat)
      case atStart => exact ⟨0, rfl, by omega, H.out⟩
      case round =>
        obtain ⟨i, rfl, hi, hQ⟩ := hrel
        have H := Lib.hid hQ
        clear hQ
        by_cases hlt : (i : Int) < 3
        · have K := Lib.hid (fun cap => little_at N 24 12 nonce _ H.out.nonce i (by omega) cap)
          obtain ⟨z, hz⟩ : ∃ z, kw nonce i = z := ⟨_, rfl⟩
          have hzl : (z : Int) ≤ 4294967295 := by have := kw_lt Hnl.out i; rw [hz] at this; omega
          rw [hz] at K
          have H2 := Lib.hid (H.out.set (13 + i) z (by omega))
          have HE : Hid (fillW nonce 13 (i + 1) g1 = (fillW nonce 13 i g1).set (13 + i) z) := Lib.hid (by rw [← hz]; rfl)
          clear hz
          have hsl := slice4 24 12 Try.underlying24 Try.sizeOf5 N i (by omega)
          have hgc := H.out.grid.cell (13 + i) (by omega)
          have hgf := H.out.grid.frozen (13 + i)
          go_wp2_with fail
          clear hsl
          refine (K.out _).mono ?_
          rintro e w' ⟨rfl, rfl⟩
          go_wp2_with fail
          go_roundw
          case rel => exact ⟨i + 1, by go_num, by omega, by rw [HE.out]; exact H2.out⟩
          case measure => simp [intOf]; omega
        · obtain rfl : i = 3 := by omega
          obtain ⟨E, hE, hEG, hEs, hE1⟩ := H.out.grid.arr
          have hZ0 := H.out.fr.heap Q0.out.2 HRG.out.1
          have H44 : Hid ((Try.prog.info? 44).map (·.size) = some E.size) := by rw [hEs]; exact Lib.hid (by kernel_rfl)
          have HS16 : Hid ((#[.int .u32 0, .int .u32 0, .int .u32 0, .int .u32 0, .int .u32 0, .int .u32 0, .int .u32 0, .int .u32 0, .int .u32 0, .int .u32 0, .int .u32 0, .int .u32 0, .int .u32 0, .int .u32 0, .int .u32 0, .int .u32 0] : Array Value).size = E.size) := Lib.hid (by rw [hEs]; rfl)
          have HR := heap_setRow_new wr (R) E _ 44 hZ0
          clear hEs
          go_wp2_with (first | refine wpList_load_row rfl 44 _ rfl G rfl 44 _ (0, 0) _ hEG Try.underlying44 rfl H44.out ?_ | refine wpList_store_row rfl 44 _ _ rfl R E rfl rfl 44 _ hZ0 H44.out HS16.out hE1 ?_)
          try simp only [Exit.inBlock, Exit.then]
          refine bodyPost_ret (v := .agg E) ?_ rfl ⟨?_, ?_⟩
          · exact results_cell_row rfl _ _ R 44 E (0, 0) _ rfl HR Try.underlying44 rfl H44.out
          · exact congrArg Ending.returned (by rw [← hE.out, HG1.out, HG0.out]; rfl)
          · rw [← HBw.out]
            refine (HW.out.trans (H.out.fr.below ?_ ?_)).trans (below_setRow _ B R E HRG.out.2.1)
            · have := HRG.out; omega
            · intro k hk e; have := HRG.out; omega
end Go.Proofs.Ytbgidkphbbpdeaa
