/- The contract of the reference's Block: the same list of bytes as chacha's Block. -/
import Derived.Test.YtbgidkphbbpdeaaChaBlock
namespace Go.Proofs.Ytbgidkphbbpdeaa
open Go.RowKit
set_option linter.unusedVariables false
set_option linter.unusedSimpArgs false

theorem half_len (r1 r2 : Nat) (gs : List Nat) (a b c d : Nat) : (half r1 r2 gs a b c d).length = gs.length := by simp [half]
theorem qround_len (gs : List Nat) (a b c d : Nat) : (qround gs a b c d).length = gs.length := by unfold qround; rw [half_len, half_len]
theorem getD_lt32 {gs : List Nat} (h : ∀ x ∈ gs, x < 4294967296) (i : Nat) : gs.getD i 0 < 4294967296 := by
  by_cases hi : i < gs.length
  · have := h (gs[i]) (List.getElem_mem _)
    simpa [List.getD, List.getElem?_eq_getElem hi] using this
  · simp [List.getD, List.getElem?_eq_none (by omega : gs.length ≤ i)]
theorem set_lt32 {gs : List Nat} (h : ∀ x ∈ gs, x < 4294967296) (i v : Nat) (hv : v < 4294967296) : ∀ x ∈ gs.set i v, x < 4294967296 := by
  intro x hx
  rcases List.mem_or_eq_of_mem_set hx with hx | rfl
  · exact h x hx
  · exact hv
theorem half_lt (r1 r2 : Nat) (gs : List Nat) (a b c d : Nat) (h : ∀ x ∈ gs, x < 4294967296) : ∀ x ∈ half r1 r2 gs a b c d, x < 4294967296 := by
  unfold half
  have h1 := set_lt32 h a ((gs.getD a 0 + gs.getD b 0) % 4294967296) (Nat.mod_lt _ (by decide))
  have h2 := set_lt32 h1 d _ (itL_lt _ (Nat.xor_lt_two_pow (n := 32) (getD_lt32 h1 d) (getD_lt32 h1 a)) r1)
  have h3 := set_lt32 h2 c ((((gs.set a ((gs.getD a 0 + gs.getD b 0) % 4294967296)).set d (itL r1 ((gs.set a ((gs.getD a 0 + gs.getD b 0) % 4294967296)).getD d 0 ^^^ (gs.set a ((gs.getD a 0 + gs.getD b 0) % 4294967296)).getD a 0))).getD c 0 + ((gs.set a ((gs.getD a 0 + gs.getD b 0) % 4294967296)).set d (itL r1 ((gs.set a ((gs.getD a 0 + gs.getD b 0) % 4294967296)).getD d 0 ^^^ (gs.set a ((gs.getD a 0 + gs.getD b 0) % 4294967296)).getD a 0))).getD d 0) % 4294967296) (Nat.mod_lt _ (by decide))
  exact set_lt32 h3 b _ (itL_lt _ (Nat.xor_lt_two_pow (n := 32) (getD_lt32 h3 b) (getD_lt32 h3 c)) r2)
theorem qround_lt (gs : List Nat) (a b c d : Nat) (h : ∀ x ∈ gs, x < 4294967296) : ∀ x ∈ qround gs a b c d, x < 4294967296 := half_lt _ _ _ _ _ _ _ (half_lt _ _ _ _ _ _ _ h)
theorem fillW_set (ks : List Nat) (o j v : Nat) : ∀ (i : Nat) (g : List Nat), (j < o ∨ o + i ≤ j) → fillW ks o i (g.set j v) = (fillW ks o i g).set j v
  | 0, g, h => rfl
  | i + 1, g, h => by
    show (fillW ks o i (g.set j v)).set (o + i) _ = ((fillW ks o i g).set (o + i) _).set j v
    rw [fillW_set ks o j v i g (by omega), List.set_comm _ _ (by omega)]

/-- A block that holds a grid, its cells behind one name. -/
structure QS (W0 W : World) (G : Nat) (gs : List Nat) (D : Array Value) : Prop where
  val : gridVal gs = .agg D
  heap : W.heap[G]? = some (.cells D 43 (0, 0))
  size : D.size = 16
  one : D.all (·.oneCell') = true
  len : gs.length = 16
  lt : ∀ x ∈ gs, x < 4294967296
  fr : Fr W0 W (fun k => k = G)
theorem QS.next {W0 W w' : World} {G : Nat} {gs gs' : List Nat} {D D' : Array Value} (h : QS W0 W G gs D) (hb : Below W.heap.size W w') (h1 : gridVal gs' = .agg D') (h2 : D'.size = 16) (h3 : D'.all (·.oneCell') = true) (h4 : gs'.length = 16) (h5 : ∀ x ∈ gs', x < 4294967296) :
    w'.heap[G]? = some (.cells D 43 (0, 0)) ∧ QS W0 (w'.setRow G D') G gs' D' := by
  have e : w'.heap[G]? = some (.cells D 43 (0, 0)) := (Fr.of_below hb).heap h.heap (fun h => h)
  have hG := (Array.getElem?_eq_some_iff.1 h.heap).1
  refine ⟨e, h1, heap_setRow_new _ G D' D 43 e, h2, h3, h4, h5, ?_⟩
  have f2 : Fr w' (w'.setRow G D') (fun k => k = G) := ⟨rfl, rfl, rfl, by simp, fun k hk hn => setRow_other w' G k D' hn⟩
  exact ((h.fr.trans (Fr.of_below hb)).trans f2).mono (by simp)
theorem QS.grid {W0 W : World} {G : Nat} {gs : List Nat} {D : Array Value} (h : QS W0 W G gs D) : Grid W G 43 gs := by
  refine ⟨?_, h.len, h.lt⟩
  have := h.val
  unfold gridVal at this
  rw [h.heap, ← Value.agg.inj this]
theorem info43 {D : Array Value} (h : D.size = 16) : Hid ((Try.prog.info? 43).map (·.size) = some D.size) := by rw [h]; exact Lib.hid (by kernel_rfl)
def rround (g : List Nat) : List Nat := qround (qround (qround (qround (qround (qround (qround (qround g 0 4 8 12) 1 5 9 13) 2 6 10 14) 3 7 11 15) 0 5 10 15) 1 6 11 12) 2 7 8 13) 3 4 9 14
theorem rround_eq (g : List Nat) : rround g = dround g := rfl
def refOut (g s : List Nat) : Nat → List Nat
  | 0 => List.replicate 64 0
  | i + 1 => (refOut g s i).set i ((g.getD (i / 4) 0 + s.getD (i / 4) 0) % 4294967296 / 256 ^ (i % 4) % 256)
theorem refOut4 (g s : List Nat) : ∀ i, refOut g s (4 * i) = outF g s i
  | 0 => rfl
  | i + 1 => by
    show refOut g s (4 * i + 1 + 1 + 1 + 1) = _
    have ih := refOut4 g s i
    simp only [refOut, outF, put4]
    rw [ih]
    simp only [Nat.add_zero, show (4 * i) / 4 = i by omega, show (4 * i + 1) / 4 = i by omega, show (4 * i + 1 + 1) / 4 = i by omega, show (4 * i + 1 + 1 + 1) / 4 = i by omega, show (4 * i) % 4 = 0 by omega, show (4 * i + 1) % 4 = 1 by omega, show (4 * i + 1 + 1) % 4 = 2 by omega, show (4 * i + 1 + 1 + 1) % 4 = 3 by omega]

set_option maxRecDepth 100000 in
set_option maxHeartbeats 3200000 in
theorem refBlock_any (key nonce : List Nat) (c : Nat) (hk : key.length = 32) (hn : nonce.length = 12) (hkl : ∀ x ∈ key, x < 256) (hnl : ∀ x ∈ nonce, x < 256) (hc : (c : Int) ≤ 4294967295) (w : World) :
    Calls Try.prog 10 #[octVal key, octVal nonce, .int .u32 (c : Int)] w fun e w' => e = .returned (octVal (blockF key nonce c)) ∧ Below w.heap.size w w' := by
  obtain ⟨C, hC⟩ : ∃ C : Array Value, C = (key.map fun (x : Nat) => Value.int .u8 (x : Int)).toArray := ⟨_, rfl⟩
  obtain ⟨D, hD⟩ : ∃ C : Array Value, C = (nonce.map fun (x : Nat) => Value.int .u8 (x : Int)).toArray := ⟨_, rfl⟩
  have HC := Lib.hid hC
  have HD := Lib.hid hD
  have Hk := Lib.hid hk
  have Hn := Lib.hid hn
  have Hkl := Lib.hid hkl
  have Hnl := Lib.hid hnl
  unfold octVal
  rw [← hC, ← hD]
  clear hC hD hk hn hkl hnl
  go_enter Try.func10, Try.ntmps10
  go_upto_region 3 with (fail)
  obtain ⟨Z, hZ⟩ : ∃ Z : Array Value, Z = #[.int .u8 0, .int .u8 0, .int .u8 0, .int .u8 0, .int .u8 0, .int .u8 0, .int .u8 0, .int .u8 0, .int .u8 0, .int .u8 0, .int .u8 0, .int .u8 0, .int .u8 0, .int .u8 0, .int .u8 0, .int .u8 0, .int .u8 0, .int .u8 0, .int .u8 0, .int .u8 0, .int .u8 0, .int .u8 0, .int .u8 0, .int .u8 0, .int .u8 0, .int .u8 0, .int .u8 0, .int .u8 0, .int .u8 0, .int .u8 0, .int .u8 0, .int .u8 0, .int .u8 0, .int .u8 0, .int .u8 0, .int .u8 0, .int .u8 0, .int .u8 0, .int .u8 0, .int .u8 0, .int .u8 0, .int .u8 0, .int .u8 0, .int .u8 0, .int .u8 0, .int .u8 0, .int .u8 0, .int .u8 0, .int .u8 0, .int .u8 0, .int .u8 0, .int .u8 0, .int .u8 0, .int .u8 0, .int .u8 0, .int .u8 0, .int .u8 0, .int .u8 0, .int .u8 0, .int .u8 0, .int .u8 0, .int .u8 0, .int .u8 0, .int .u8 0] := ⟨_, rfl⟩
  rw [← hZ]
  obtain ⟨W0, hW⟩ : ∃ W, W = (((w.alloc (.cells C 22)).alloc (.cells D 24)).alloc (.cells Z 27)).alloc (.cells #[.int .u32 1634760805, .int .u32 857760878, .int .u32 2036477234, .int .u32 1797285236, .int .u32 0, .int .u32 0, .int .u32 0, .int .u32 0, .int .u32 0, .int .u32 0, .int .u32 0, .int .u32 0, .int .u32 0, .int .u32 0, .int .u32 0, .int .u32 0] 43) := ⟨_, rfl⟩
  obtain ⟨gi, hgi⟩ : ∃ g : List Nat, g = [1634760805, 857760878, 2036477234, 1797285236, 0, 0, 0, 0, 0, 0, 0, 0, 0, 0, 0, 0] := ⟨_, rfl⟩
  have Q0 : Hid (BeW W0 W0 w.heap.size (w.heap.size + 1) (w.heap.size + 1 + 1 + 1) key nonce gi 22 43 ∧ W0.heap[w.heap.size + 1 + 1]? = some (.cells Z 27 (0, 0))) := by
    refine Lib.hid ?_
    obtain ⟨k0, k1, k2, k3⟩ := heap4 w (.cells C 22) (.cells D 24) (.cells Z 27) (.cells #[.int .u32 1634760805, .int .u32 857760878, .int .u32 2036477234, .int .u32 1797285236, .int .u32 0, .int .u32 0, .int .u32 0, .int .u32 0, .int .u32 0, .int .u32 0, .int .u32 0, .int .u32 0, .int .u32 0, .int .u32 0, .int .u32 0, .int .u32 0] 43)
    rw [hW]
    refine ⟨⟨⟨?_, Hk.out, Hkl.out⟩, ⟨?_, Hn.out, Hnl.out⟩, ⟨?_, by rw [hgi]; rfl, ?_⟩, Fr.refl _ _, by omega, by omega⟩, k2⟩
    · rw [← HC.out]; exact k0
    · rw [← HD.out]; exact k1
    · rw [hgi]; exact k3
    · intro x hx
      rw [hgi] at hx
      simp at hx
      omega
  have HW : Hid (Below w.heap.size w W0) := by
    rw [hW]
    exact Lib.hid ((((Below.refl _ _).alloc (Nat.le_refl _) _).alloc (by simp) _).alloc (by simp; omega) _ |>.alloc (by simp; omega) _)
  rw [← hW]
  obtain ⟨R, hR⟩ : ∃ R, R = w.heap.size + 1 + 1 := ⟨_, rfl⟩
  obtain ⟨G, hG⟩ : ∃ R, R = w.heap.size + 1 + 1 + 1 := ⟨_, rfl⟩
  obtain ⟨N, hN⟩ : ∃ R, R = w.heap.size + 1 := ⟨_, rfl⟩
  obtain ⟨B, hB⟩ : ∃ R, R = w.heap.size := ⟨_, rfl⟩
  have HRG : Hid (R ≠ G ∧ B ≤ R ∧ B ≤ G ∧ G < W0.heap.size) := Lib.hid (by rw [hW]; simp; omega)
  rw [← hG, ← hR, ← hN, ← hB] at Q0 ⊢
  rw [← hB] at HW
  have HBw := Lib.hid hB
  have HGI := Lib.hid hgi
  have HZ := Lib.hid hZ
  clear hW hR hG hN hB hgi hZ
  go_wp2_with fail
  go_loopw [8] (fun v wr => ∃ (i : Nat), v = .int .i64 i ∧ i ≤ 8 ∧ BeW W0 wr B N G key nonce (fillW key 4 i gi) 22 43) (fun v _ => 8 - (intOf v).toNat)
  case atStart => exact ⟨0, rfl, by omega, Q0.out.1⟩
  case round =>
    obtain ⟨i, rfl, hi, hQ⟩ := hrel
    have H := Lib.hid hQ
    clear hQ
    by_cases hlt : (i : Int) < 8
    · have K := Lib.hid (fun cap => word_at B 22 32 key wr H.out.key i (by omega) cap)
      obtain ⟨z, hz⟩ : ∃ z, kw key i = z := ⟨_, rfl⟩
      have hzl : (z : Int) ≤ 4294967295 := by have := kw_lt Hkl.out i; rw [hz] at this; omega
      rw [hz] at K
      have H2 := Lib.hid (fun w' hf => (H.out.keep (W1 := w') hf).set (4 + i) z (by omega))
      have HC2 := Lib.hid (fun w' hf => And.intro ((H.out.keep (W1 := w') hf).grid.cell (4 + i) (by omega)) ((H.out.keep (W1 := w') hf).grid.frozen (4 + i)))
      have HE : Hid (fillW key 4 (i + 1) gi = (fillW key 4 i gi).set (4 + i) z) := Lib.hid (by rw [← hz]; rfl)
      clear hz
      have hsl := slice4 22 32 Try.underlying22 Try.sizeOf5 B i (by omega)
      go_wp2_with fail
      clear hsl
      refine (K.out _).mono ?_
      rintro e w' ⟨rfl, hf⟩
      obtain ⟨hgc, hgf⟩ := HC2.out w' hf
      have H3 := Lib.hid (H2.out w' hf)
      clear hf HC2 H2
      go_wp2_with fail
      go_roundw
      case rel => exact ⟨i + 1, by go_num, by omega, by rw [HE.out]; exact H3.out⟩
      case measure => simp [intOf]; omega
    · obtain rfl : i = 8 := by omega
      obtain ⟨g1, hg1⟩ : ∃ g, g = (fillW key 4 8 gi).set 12 c := ⟨_, rfl⟩
      have H2 := Lib.hid (H.out.set 12 c (by omega))
      have hgc := H.out.grid.cell 12 (by omega)
      have hgf := H.out.grid.frozen 12
      rw [← hg1] at H2
      have HG1 := Lib.hid hg1
      clear hg1
      go_wp2_with fail
      obtain ⟨W1, hW⟩ : ∃ W, W = wr.setCell ⟨G, 12, none⟩ (.int .u32 (c : Int)) := ⟨_, rfl⟩
      rw [← hW] at H2 ⊢
      clear hgc hgf hW H
      go_loopw [9] (fun v wr => ∃ (i : Nat), v = .int .i64 i ∧ i ≤ 3 ∧ BeW W0 wr B N G key nonce (fillW nonce 13 i g1) 22 43) (fun v _ => 3 - (intOf v).toNat)
      case atStart => exact ⟨0, rfl, by omega, H2.out⟩
      case round =>
        obtain ⟨i, rfl, hi, hQ⟩ := hrel
        have H := Lib.hid hQ
        clear hQ H2
        by_cases hlt : (i : Int) < 3
        · have K := Lib.hid (fun cap => word_at N 24 12 nonce _ H.out.nonce i (by omega) cap)
          obtain ⟨z, hz⟩ : ∃ z, kw nonce i = z := ⟨_, rfl⟩
          have hzl : (z : Int) ≤ 4294967295 := by have := kw_lt Hnl.out i; rw [hz] at this; omega
          rw [hz] at K
          have H2 := Lib.hid (fun w' hf => (H.out.keep (W1 := w') hf).set (13 + i) z (by omega))
          have HC2 := Lib.hid (fun w' hf => And.intro ((H.out.keep (W1 := w') hf).grid.cell (13 + i) (by omega)) ((H.out.keep (W1 := w') hf).grid.frozen (13 + i)))
          have HE : Hid (fillW nonce 13 (i + 1) g1 = (fillW nonce 13 i g1).set (13 + i) z) := Lib.hid (by rw [← hz]; rfl)
          clear hz
          have hsl := slice4 24 12 Try.underlying24 Try.sizeOf5 N i (by omega)
          go_wp2_with fail
          clear hsl
          refine (K.out _).mono ?_
          rintro e w' ⟨rfl, hf⟩
          obtain ⟨hgc, hgf⟩ := HC2.out w' hf
          have H3 := Lib.hid (H2.out w' hf)
          clear hf HC2 H2
          go_wp2_with fail
          go_roundw
          case rel => exact ⟨i + 1, by go_num, by omega, by rw [HE.out]; exact H3.out⟩
          case measure => simp [intOf]; omega
        · obtain rfl : i = 3 := by omega
          go_upto_region 11 with (fail)
          obtain ⟨gs, hgs⟩ : ∃ g, g = fillW nonce 13 3 g1 := ⟨_, rfl⟩
          have HBG : Hid (gs = begunW key nonce c) := by
            unfold begunW
            rw [hgs, HG1.out, HGI.out]
            refine Lib.hid (congrArg (fillW nonce 13 3) ?_)
            rw [← fillW_set key 4 12 c 8 _ (by omega)]
            rfl
          rw [← hgs] at H
          clear hgs
          obtain ⟨E0, hE0, hEG, hEs, hE1⟩ := H.out.grid.arr
          have H43 := info43 hEs
          have HS16 : Hid ((#[.int .u32 0, .int .u32 0, .int .u32 0, .int .u32 0, .int .u32 0, .int .u32 0, .int .u32 0, .int .u32 0, .int .u32 0, .int .u32 0, .int .u32 0, .int .u32 0, .int .u32 0, .int .u32 0, .int .u32 0, .int .u32 0] : Array Value).size = E0.size) := Lib.hid (by rw [hEs]; rfl)
          clear hEs
          go_upto_region 12 with (first | refine wpList_load_row rfl 43 _ rfl G rfl 43 _ (0, 0) _ hEG Try.underlying43 rfl H43.out ?_ | refine wpList_store_row rfl 43 _ _ rfl _ E0 rfl rfl 43 _ (heap_alloc_new _ _) H43.out HS16.out hE1 ?_)
          rw [setRow_alloc_new]
          obtain ⟨W2, hW⟩ : ∃ W, W = wr.alloc (.cells E0 43) := ⟨_, rfl⟩
          have Q : Hid (Grid W2 G 43 gs ∧ Grid W2 wr.heap.size 43 gs ∧ W2.heap[R]? = some (.cells Z 27 (0, 0)) ∧ Below B w W2 ∧ wr.heap.size < W2.heap.size ∧ R < wr.heap.size ∧ G < wr.heap.size ∧ B ≤ wr.heap.size) := by
            have hr := H.out.fr.heap Q0.out.2 HRG.out.1
            have hr2 := (Array.getElem?_eq_some_iff.1 hr).1
            have hg2 := (Array.getElem?_eq_some_iff.1 H.out.grid.cells).1
            have hx := HRG.out
            refine Lib.hid ⟨?_, ⟨?_, H.out.grid.len, H.out.grid.lt⟩, ?_, ?_, ?_, hr2, hg2, by omega⟩
            · rw [hW]; exact H.out.grid.fr (Fr.alloc _ _) (fun h => h)
            · have e := hE0.out
              unfold gridVal at e
              rw [Value.agg.inj e, hW]; exact heap_alloc_new _ _
            · rw [hW]; exact (Fr.alloc _ _).heap hr (fun h => h)
            · rw [hW]
              exact (HW.out.trans (H.out.fr.below (by omega) (fun k hk e => by omega))).alloc (by omega) _
            · rw [hW]; simp
          rw [← hW]
          obtain ⟨G2, hG2⟩ : ∃ G, G = wr.heap.size := ⟨_, rfl⟩
          rw [← hG2] at Q ⊢
          clear hW hG2 hEG H
          go_wp2_with fail
          go_loopw [11] (fun v wr => ∃ (i : Nat), v = .int .i64 i ∧ i ≤ 10 ∧ Grid wr G2 43 (iter10 i gs) ∧ Fr W2 wr (fun k => k = G2)) (fun v _ => 10 - (intOf v).toNat)
          case atStart => exact ⟨0, rfl, by omega, Q.out.2.1, Fr.refl _ _⟩
          case round =>
            obtain ⟨i, rfl, hi, hG, hF⟩ := hrel
            by_cases hlt : (i : Int) < 10
            · obtain ⟨s0, hs0⟩ : ∃ s, s = iter10 i gs := ⟨_, rfl⟩
              rw [← hs0] at hG
              have HS0 := Lib.hid hs0
              obtain ⟨D0, hv, HV, hs, ho⟩ := gridVal_arr s0 hG.len
              have QQ0 : Hid (QS wr wr G2 s0 D0) := Lib.hid ⟨hv, by rw [HV.out]; exact hG.cells, hs, ho, hG.len, hG.lt, Fr.refl _ _⟩
              have HF := Lib.hid hF
              clear hv HV hs ho hs0 hF hG

              obtain ⟨D1, hv, HV, hs, ho⟩ := gridVal_arr (qround s0 0 4 8 12) (by rw [qround_len]; exact QQ0.out.len)
              have K := Lib.hid (refQuarter_any s0 QQ0.out.len QQ0.out.lt 0 4 8 12 (by decide) (by decide) (by decide) (by decide) wr)
              rw [hv, QQ0.out.val] at K
              have KN := Lib.hid (fun w' hb => QQ0.out.next (w' := w') hb hv hs ho (by rw [qround_len]; exact QQ0.out.len) (qround_lt _ _ _ _ _ QQ0.out.lt))
              obtain ⟨s1, hs1⟩ : ∃ s, s = qround s0 0 4 8 12 := ⟨_, rfl⟩
              rw [← hs1] at KN
              have HS1 := Lib.hid hs1
              have H43a := info43 QQ0.out.size
              have H43b := info43 hs
              have HSS : Hid (D0.size = D1.size) := Lib.hid (by rw [QQ0.out.size, hs])
              have hg := QQ0.out.heap
              clear hv hs1 HV hs
              go_wp2_with (refine wpList_load_row rfl 43 _ rfl G2 rfl 43 _ (0, 0) _ hg Try.underlying43 rfl H43a.out ?_)
              refine K.out.mono ?_
              rintro e w' ⟨rfl, hb⟩
              obtain ⟨hg2, hq2⟩ := KN.out w' hb
              have QQ1 := Lib.hid hq2
              clear hb hg K KN hq2
              go_upto_region 16 with (refine wpList_store_row rfl 43 _ _ rfl G2 D1 rfl rfl 43 _ hg2 H43b.out HSS.out ho ?_)
              clear ho hg2 H43a H43b HSS
              obtain ⟨V1, hW⟩ : ∃ W, W = w'.setRow G2 D1 := ⟨_, rfl⟩
              rw [← hW] at QQ1 ⊢
              clear hW

              obtain ⟨D2, hv, HV, hs, ho⟩ := gridVal_arr (qround s1 1 5 9 13) (by rw [qround_len]; exact QQ1.out.len)
              have K := Lib.hid (refQuarter_any s1 QQ1.out.len QQ1.out.lt 1 5 9 13 (by decide) (by decide) (by decide) (by decide) V1)
              rw [hv, QQ1.out.val] at K
              have KN := Lib.hid (fun w' hb => QQ1.out.next (w' := w') hb hv hs ho (by rw [qround_len]; exact QQ1.out.len) (qround_lt _ _ _ _ _ QQ1.out.lt))
              obtain ⟨s2, hs1⟩ : ∃ s, s = qround s1 1 5 9 13 := ⟨_, rfl⟩
              rw [← hs1] at KN
              have HS2 := Lib.hid hs1
              have H43a := info43 QQ1.out.size
              have H43b := info43 hs
              have HSS : Hid (D1.size = D2.size) := Lib.hid (by rw [QQ1.out.size, hs])
              have hg := QQ1.out.heap
              clear hv hs1 HV hs
              go_wp2_with (refine wpList_load_row rfl 43 _ rfl G2 rfl 43 _ (0, 0) _ hg Try.underlying43 rfl H43a.out ?_)
              refine K.out.mono ?_
              rintro e w' ⟨rfl, hb⟩
              obtain ⟨hg2, hq2⟩ := KN.out w' hb
              have QQ2 := Lib.hid hq2
              clear hb hg K KN hq2
              go_upto_region 17 with (refine wpList_store_row rfl 43 _ _ rfl G2 D2 rfl rfl 43 _ hg2 H43b.out HSS.out ho ?_)
              clear ho hg2 H43a H43b HSS
              obtain ⟨V2, hW⟩ : ∃ W, W = w'.setRow G2 D2 := ⟨_, rfl⟩
              rw [← hW] at QQ2 ⊢
              clear hW

              obtain ⟨D3, hv, HV, hs, ho⟩ := gridVal_arr (qround s2 2 6 10 14) (by rw [qround_len]; exact QQ2.out.len)
              have K := Lib.hid (refQuarter_any s2 QQ2.out.len QQ2.out.lt 2 6 10 14 (by decide) (by decide) (by decide) (by decide) V2)
              rw [hv, QQ2.out.val] at K
              have KN := Lib.hid (fun w' hb => QQ2.out.next (w' := w') hb hv hs ho (by rw [qround_len]; exact QQ2.out.len) (qround_lt _ _ _ _ _ QQ2.out.lt))
              obtain ⟨s3, hs1⟩ : ∃ s, s = qround s2 2 6 10 14 := ⟨_, rfl⟩
              rw [← hs1] at KN
              have HS3 := Lib.hid hs1
              have H43a := info43 QQ2.out.size
              have H43b := info43 hs
              have HSS : Hid (D2.size = D3.size) := Lib.hid (by rw [QQ2.out.size, hs])
              have hg := QQ2.out.heap
              clear hv hs1 HV hs
              go_wp2_with (refine wpList_load_row rfl 43 _ rfl G2 rfl 43 _ (0, 0) _ hg Try.underlying43 rfl H43a.out ?_)
              refine K.out.mono ?_
              rintro e w' ⟨rfl, hb⟩
              obtain ⟨hg2, hq2⟩ := KN.out w' hb
              have QQ3 := Lib.hid hq2
              clear hb hg K KN hq2
              go_upto_region 18 with (refine wpList_store_row rfl 43 _ _ rfl G2 D3 rfl rfl 43 _ hg2 H43b.out HSS.out ho ?_)
              clear ho hg2 H43a H43b HSS
              obtain ⟨V3, hW⟩ : ∃ W, W = w'.setRow G2 D3 := ⟨_, rfl⟩
              rw [← hW] at QQ3 ⊢
              clear hW

              obtain ⟨D4, hv, HV, hs, ho⟩ := gridVal_arr (qround s3 3 7 11 15) (by rw [qround_len]; exact QQ3.out.len)
              have K := Lib.hid (refQuarter_any s3 QQ3.out.len QQ3.out.lt 3 7 11 15 (by decide) (by decide) (by decide) (by decide) V3)
              rw [hv, QQ3.out.val] at K
              have KN := Lib.hid (fun w' hb => QQ3.out.next (w' := w') hb hv hs ho (by rw [qround_len]; exact QQ3.out.len) (qround_lt _ _ _ _ _ QQ3.out.lt))
              obtain ⟨s4, hs1⟩ : ∃ s, s = qround s3 3 7 11 15 := ⟨_, rfl⟩
              rw [← hs1] at KN
              have HS4 := Lib.hid hs1
              have H43a := info43 QQ3.out.size
              have H43b := info43 hs
              have HSS : Hid (D3.size = D4.size) := Lib.hid (by rw [QQ3.out.size, hs])
              have hg := QQ3.out.heap
              clear hv hs1 HV hs
              go_wp2_with (refine wpList_load_row rfl 43 _ rfl G2 rfl 43 _ (0, 0) _ hg Try.underlying43 rfl H43a.out ?_)
              refine K.out.mono ?_
              rintro e w' ⟨rfl, hb⟩
              obtain ⟨hg2, hq2⟩ := KN.out w' hb
              have QQ4 := Lib.hid hq2
              clear hb hg K KN hq2
              go_upto_region 19 with (refine wpList_store_row rfl 43 _ _ rfl G2 D4 rfl rfl 43 _ hg2 H43b.out HSS.out ho ?_)
              clear ho hg2 H43a H43b HSS
              obtain ⟨V4, hW⟩ : ∃ W, W = w'.setRow G2 D4 := ⟨_, rfl⟩
              rw [← hW] at QQ4 ⊢
              clear hW

              obtain ⟨D5, hv, HV, hs, ho⟩ := gridVal_arr (qround s4 0 5 10 15) (by rw [qround_len]; exact QQ4.out.len)
              have K := Lib.hid (refQuarter_any s4 QQ4.out.len QQ4.out.lt 0 5 10 15 (by decide) (by decide) (by decide) (by decide) V4)
              rw [hv, QQ4.out.val] at K
              have KN := Lib.hid (fun w' hb => QQ4.out.next (w' := w') hb hv hs ho (by rw [qround_len]; exact QQ4.out.len) (qround_lt _ _ _ _ _ QQ4.out.lt))
              obtain ⟨s5, hs1⟩ : ∃ s, s = qround s4 0 5 10 15 := ⟨_, rfl⟩
              rw [← hs1] at KN
              have HS5 := Lib.hid hs1
              have H43a := info43 QQ4.out.size
              have H43b := info43 hs
              have HSS : Hid (D4.size = D5.size) := Lib.hid (by rw [QQ4.out.size, hs])
              have hg := QQ4.out.heap
              clear hv hs1 HV hs
              go_wp2_with (refine wpList_load_row rfl 43 _ rfl G2 rfl 43 _ (0, 0) _ hg Try.underlying43 rfl H43a.out ?_)
              refine K.out.mono ?_
              rintro e w' ⟨rfl, hb⟩
              obtain ⟨hg2, hq2⟩ := KN.out w' hb
              have QQ5 := Lib.hid hq2
              clear hb hg K KN hq2
              go_upto_region 20 with (refine wpList_store_row rfl 43 _ _ rfl G2 D5 rfl rfl 43 _ hg2 H43b.out HSS.out ho ?_)
              clear ho hg2 H43a H43b HSS
              obtain ⟨V5, hW⟩ : ∃ W, W = w'.setRow G2 D5 := ⟨_, rfl⟩
              rw [← hW] at QQ5 ⊢
              clear hW

              obtain ⟨D6, hv, HV, hs, ho⟩ := gridVal_arr (qround s5 1 6 11 12) (by rw [qround_len]; exact QQ5.out.len)
              have K := Lib.hid (refQuarter_any s5 QQ5.out.len QQ5.out.lt 1 6 11 12 (by decide) (by decide) (by decide) (by decide) V5)
              rw [hv, QQ5.out.val] at K
              have KN := Lib.hid (fun w' hb => QQ5.out.next (w' := w') hb hv hs ho (by rw [qround_len]; exact QQ5.out.len) (qround_lt _ _ _ _ _ QQ5.out.lt))
              obtain ⟨s6, hs1⟩ : ∃ s, s = qround s5 1 6 11 12 := ⟨_, rfl⟩
              rw [← hs1] at KN
              have HS6 := Lib.hid hs1
              have H43a := info43 QQ5.out.size
              have H43b := info43 hs
              have HSS : Hid (D5.size = D6.size) := Lib.hid (by rw [QQ5.out.size, hs])
              have hg := QQ5.out.heap
              clear hv hs1 HV hs
              go_wp2_with (refine wpList_load_row rfl 43 _ rfl G2 rfl 43 _ (0, 0) _ hg Try.underlying43 rfl H43a.out ?_)
              refine K.out.mono ?_
              rintro e w' ⟨rfl, hb⟩
              obtain ⟨hg2, hq2⟩ := KN.out w' hb
              have QQ6 := Lib.hid hq2
              clear hb hg K KN hq2
              go_upto_region 21 with (refine wpList_store_row rfl 43 _ _ rfl G2 D6 rfl rfl 43 _ hg2 H43b.out HSS.out ho ?_)
              clear ho hg2 H43a H43b HSS
              obtain ⟨V6, hW⟩ : ∃ W, W = w'.setRow G2 D6 := ⟨_, rfl⟩
              rw [← hW] at QQ6 ⊢
              clear hW

              obtain ⟨D7, hv, HV, hs, ho⟩ := gridVal_arr (qround s6 2 7 8 13) (by rw [qround_len]; exact QQ6.out.len)
              have K := Lib.hid (refQuarter_any s6 QQ6.out.len QQ6.out.lt 2 7 8 13 (by decide) (by decide) (by decide) (by decide) V6)
              rw [hv, QQ6.out.val] at K
              have KN := Lib.hid (fun w' hb => QQ6.out.next (w' := w') hb hv hs ho (by rw [qround_len]; exact QQ6.out.len) (qround_lt _ _ _ _ _ QQ6.out.lt))
              obtain ⟨s7, hs1⟩ : ∃ s, s = qround s6 2 7 8 13 := ⟨_, rfl⟩
              rw [← hs1] at KN
              have HS7 := Lib.hid hs1
              have H43a := info43 QQ6.out.size
              have H43b := info43 hs
              have HSS : Hid (D6.size = D7.size) := Lib.hid (by rw [QQ6.out.size, hs])
              have hg := QQ6.out.heap
              clear hv hs1 HV hs
              go_wp2_with (refine wpList_load_row rfl 43 _ rfl G2 rfl 43 _ (0, 0) _ hg Try.underlying43 rfl H43a.out ?_)
              refine K.out.mono ?_
              rintro e w' ⟨rfl, hb⟩
              obtain ⟨hg2, hq2⟩ := KN.out w' hb
              have QQ7 := Lib.hid hq2
              clear hb hg K KN hq2
              go_upto_region 22 with (refine wpList_store_row rfl 43 _ _ rfl G2 D7 rfl rfl 43 _ hg2 H43b.out HSS.out ho ?_)
              clear ho hg2 H43a H43b HSS
              obtain ⟨V7, hW⟩ : ∃ W, W = w'.setRow G2 D7 := ⟨_, rfl⟩
              rw [← hW] at QQ7 ⊢
              clear hW

              obtain ⟨D8, hv, HV, hs, ho⟩ := gridVal_arr (qround s7 3 4 9 14) (by rw [qround_len]; exact QQ7.out.len)
              have K := Lib.hid (refQuarter_any s7 QQ7.out.len QQ7.out.lt 3 4 9 14 (by decide) (by decide) (by decide) (by decide) V7)
              rw [hv, QQ7.out.val] at K
              have KN := Lib.hid (fun w' hb => QQ7.out.next (w' := w') hb hv hs ho (by rw [qround_len]; exact QQ7.out.len) (qround_lt _ _ _ _ _ QQ7.out.lt))
              obtain ⟨s8, hs1⟩ : ∃ s, s = qround s7 3 4 9 14 := ⟨_, rfl⟩
              rw [← hs1] at KN
              have HS8 := Lib.hid hs1
              have H43a := info43 QQ7.out.size
              have H43b := info43 hs
              have HSS : Hid (D7.size = D8.size) := Lib.hid (by rw [QQ7.out.size, hs])
              have hg := QQ7.out.heap
              clear hv hs1 HV hs
              go_wp2_with (refine wpList_load_row rfl 43 _ rfl G2 rfl 43 _ (0, 0) _ hg Try.underlying43 rfl H43a.out ?_)
              refine K.out.mono ?_
              rintro e w' ⟨rfl, hb⟩
              obtain ⟨hg2, hq2⟩ := KN.out w' hb
              have QQ8 := Lib.hid hq2
              clear hb hg K KN hq2
              go_wp2_with (refine wpList_store_row rfl 43 _ _ rfl G2 D8 rfl rfl 43 _ hg2 H43b.out HSS.out ho ?_)
              clear ho hg2 H43a H43b HSS

              have E8 : Hid (s8 = iter10 (i + 1) gs) := by
                refine Lib.hid ?_
                show s8 = dround (iter10 i gs)
                rw [← HS0.out, ← rround_eq]
                unfold rround
                rw [← HS1.out, ← HS2.out, ← HS3.out, ← HS4.out, ← HS5.out, ← HS6.out, ← HS7.out, ← HS8.out]
              go_roundw
              case rel => exact ⟨i + 1, by go_num, by omega, by rw [← E8.out]; exact QQ8.out.grid, (HF.out.trans QQ8.out.fr).mono (by simp)⟩
              case measure => simp [intOf]; omega
            · obtain rfl : i = 10 := by omega
              obtain ⟨ga, hga⟩ : ∃ g, g = iter10 10 gs := ⟨_, rfl⟩
              rw [← hga] at hG
              have HGA := Lib.hid hga
              have Q2 : Hid (Grid wr G 43 gs ∧ Grid wr G2 43 ga ∧ wr.heap[R]? = some (.cells Z 27 (0, 0)) ∧ Below B w wr) := by
                have hx := Q.out.2.2.2.2
                exact Lib.hid ⟨Q.out.1.fr hF (by omega), hG, hF.heap Q.out.2.2.1 (by omega), Q.out.2.2.2.1.trans (hF.below (by omega) (fun k hk e => by omega))⟩
              have HX := Lib.hid Q.out.2.2.2.2
              clear hG hF hga Q
              go_upto_region 24 with (fail)
              obtain ⟨W4, hW⟩ : ∃ W, W = wr.alloc (.cells #[.int .u8 0, .int .u8 0, .int .u8 0, .int .u8 0, .int .u8 0, .int .u8 0, .int .u8 0, .int .u8 0, .int .u8 0, .int .u8 0, .int .u8 0, .int .u8 0, .int .u8 0, .int .u8 0, .int .u8 0, .int .u8 0, .int .u8 0, .int .u8 0, .int .u8 0, .int .u8 0, .int .u8 0, .int .u8 0, .int .u8 0, .int .u8 0, .int .u8 0, .int .u8 0, .int .u8 0, .int .u8 0, .int .u8 0, .int .u8 0, .int .u8 0, .int .u8 0, .int .u8 0, .int .u8 0, .int .u8 0, .int .u8 0, .int .u8 0, .int .u8 0, .int .u8 0, .int .u8 0, .int .u8 0, .int .u8 0, .int .u8 0, .int .u8 0, .int .u8 0, .int .u8 0, .int .u8 0, .int .u8 0, .int .u8 0, .int .u8 0, .int .u8 0, .int .u8 0, .int .u8 0, .int .u8 0, .int .u8 0, .int .u8 0, .int .u8 0, .int .u8 0, .int .u8 0, .int .u8 0, .int .u8 0, .int .u8 0, .int .u8 0, .int .u8 0] 27) := ⟨_, rfl⟩
              have P : Hid (Octs W4 wr.heap.size 27 64 (refOut ga gs 0) ∧ Grid W4 G 43 gs ∧ Grid W4 G2 43 ga ∧ W4.heap[R]? = some (.cells Z 27 (0, 0)) ∧ Below B w W4 ∧ wr.heap.size < W4.heap.size) := by
                rw [hW]
                have hr2 := (Array.getElem?_eq_some_iff.1 Q2.out.2.2.1).1
                have hx := HRG.out
                refine Lib.hid ⟨⟨heap_alloc_new _ _, rfl, ?_⟩, Q2.out.1.fr (Fr.alloc _ _) (fun h => h), Q2.out.2.1.fr (Fr.alloc _ _) (fun h => h), (Fr.alloc _ _).heap Q2.out.2.2.1 (fun h => h), Q2.out.2.2.2.alloc (by omega) _, by simp⟩
                intro x hx
                rw [List.eq_of_mem_replicate hx]
                decide
              have HLO : Hid (R < wr.heap.size ∧ G < wr.heap.size ∧ G2 < wr.heap.size ∧ B < wr.heap.size) := by
                have h1 := (Array.getElem?_eq_some_iff.1 Q2.out.1.cells).1
                have h2 := (Array.getElem?_eq_some_iff.1 Q2.out.2.1.cells).1
                have h3 := (Array.getElem?_eq_some_iff.1 Q2.out.2.2.1).1
                have := HRG.out
                exact Lib.hid (by omega)
              rw [← hW]
              obtain ⟨O, hO⟩ : ∃ O, O = wr.heap.size := ⟨_, rfl⟩
              rw [← hO] at P HLO ⊢
              clear hW hO Q2
              go_wp2_with fail
              go_loopw [13] (fun v wr => ∃ (i : Nat), v = .int .i64 i ∧ i ≤ 64 ∧ Octs wr O 27 64 (refOut ga gs i) ∧ Fr W4 wr (fun k => k = O)) (fun v _ => 64 - (intOf v).toNat)
              case atStart => exact ⟨0, rfl, by omega, P.out.1, Fr.refl _ _⟩
              case round =>
                obtain ⟨i, rfl, hi2, hQ, hF⟩ := hrel
                by_cases hlt : (i : Int) < 64
                · have g1 := P.out.2.1.fr hF (by have := HLO.out; omega)
                  have g2 := P.out.2.2.1.fr hF (by have := HLO.out; omega)
                  obtain ⟨q, hq⟩ : ∃ q : Nat, i / 4 = q := ⟨_, rfl⟩
                  obtain ⟨r, hr⟩ : ∃ q : Nat, i % 4 = q := ⟨_, rfl⟩
                  have hq2 : (i : Int) / 4 = (q : Int) := by omega
                  have hr2 : (i : Int) % 4 = (r : Int) := by omega
                  have hq3 : (q : Int) < 16 := by omega
                  obtain ⟨x, hx⟩ : ∃ x, ga.getD q 0 = x := ⟨_, rfl⟩
                  obtain ⟨y, hy⟩ : ∃ x, gs.getD q 0 = x := ⟨_, rfl⟩
                  have cq := g1.cell q (by omega)
                  have cp := g2.cell q (by omega)
                  have lp := g2.getD_lt q
                  have lq := g1.getD_lt q
                  rw [hx] at cp lp
                  rw [hy] at cq lq
                  obtain ⟨v, hv⟩ : ∃ v, (x + y) % 4294967296 = v := ⟨_, rfl⟩
                  have sv : IntKind.u32.wrap ((x : Int) + y) = (v : Int) := by rw [IntKind.wrap_u32]; omega
                  have hvl : (v : Int) ≤ 4294967295 := by omega
                  have HE2 : Hid (refOut ga gs (i + 1) = (refOut ga gs i).set i (v / 256 ^ (i % 4) % 256)) := Lib.hid (by show (refOut ga gs i).set i _ = _; rw [hq, hx, hy, hv])
                  have HO := Lib.hid hQ
                  have HF := Lib.hid hF
                  have fo := hQ.frozen i
                  have co := hQ.cell i (by omega)
                  have hr4 : r < 4 := by omega
                  have s1 : IntKind.i64.wrap (q : Int) = (q : Int) := IntWalk.i64_in _ (by omega)
                  clear hv hx hy hF hQ g1 g2
                  have hr5 : Hid ((v : Int) / 2 ^ min (8 * (i % 4)) 32 % 256 = ((v / 256 ^ (i % 4) % 256 : Nat) : Int)) := by
                    have e : min (8 * (i % 4)) 32 = 8 * (i % 4) := by omega
                    have e2 : (2 : Int) ^ (8 * (i % 4)) = ((256 ^ (i % 4) : Nat) : Int) := by rw [Int.natCast_pow, Int.pow_mul]; rfl
                    rw [e, e2]
                    exact Lib.hid (by rw [Int.natCast_emod, Int.natCast_ediv]; rfl)
                  have HS := Lib.hid (HO.out.set i (v / 256 ^ (i % 4) % 256) (Nat.mod_lt _ (by decide))).drew
                  have HF2 := Lib.hid ((HF.out.set ⟨O, i, none⟩ (.int .u8 ((v / 256 ^ (i % 4) % 256 : Nat) : Int)) rfl).trans (Fr.drew _) |>.mono (U := fun k => k = O) (by simp))
                  clear hr2 hr4 hq hr
                  go_wp2_with fail
                  go_still_tail 17, (by kernel_rfl)
                  clear sv s1
                  change wpList _ _ _ _ _ wr.drew
                  go_wp2_with fail
                  go_roundw
                  case rel => exact ⟨i + 1, by go_num, by omega, by rw [HE2.out, hr5.out]; exact HS.out, by rw [hr5.out]; exact HF2.out⟩
                  case measure => simp [intOf]; omega
                · obtain rfl : i = 64 := by omega
                  rw [show (64 : Nat) = 4 * 16 from rfl, refOut4] at hQ
                  obtain ⟨X, hX, hXO, hXs, hX1⟩ := hQ.arr
                  have hZ0 := hF.heap P.out.2.2.2.1 (by have := HLO.out; omega)
                  have H27 : Hid ((Try.prog.info? 27).map (·.size) = some X.size) := by rw [hXs]; exact Lib.hid (by kernel_rfl)
                  have HS64 : Hid (Z.size = X.size) := Lib.hid (by rw [hXs, HZ.out]; rfl)
                  have HR := heap_setRow_new _ R X _ 27 hZ0
                  have HFF := Lib.hid hF
                  clear hXs hQ hF
                  go_wp2_with (first | refine wpList_load_row rfl 27 _ rfl O rfl 27 _ (0, 0) _ hXO Try.underlying27 rfl H27.out ?_ | refine wpList_store_row rfl 27 _ _ rfl R X rfl rfl 27 _ hZ0 H27.out HS64.out hX1 ?_)
                  try simp only [Exit.inBlock, Exit.then]
                  refine bodyPost_ret (v := .agg X) ?_ rfl ⟨?_, ?_⟩
                  · exact results_cell_row rfl _ _ R 27 X (0, 0) _ rfl HR Try.underlying27 rfl H27.out
                  · refine congrArg Ending.returned ?_
                    unfold blockF
                    rw [← HBG.out, ← HGA.out]
                    exact hX.out.symm
                  · rw [← HBw.out]
                    refine (P.out.2.2.2.2.1.trans (HFF.out.below ?_ ?_)).trans (below_setRow _ B R X HRG.out.2.1)
                    · have := P.out.2.2.2.2.2; have := HLO.out; omega
                    · intro k hk e; have := HLO.out; omega
end Go.Proofs.Ytbgidkphbbpdeaa
