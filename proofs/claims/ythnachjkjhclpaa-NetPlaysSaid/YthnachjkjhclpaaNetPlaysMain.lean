/- The main walk of NetPlays. -/
import Derived.Test.YthnachjkjhclpaaNetPair
import Derived.StillTailTactics
namespace Go.Proofs.Ythnachjkjhclpaa
open Go.RowKit
set_option linter.unusedVariables false
set_option linter.unusedSimpArgs false

set_option maxRecDepth 100000 in
set_option maxHeartbeats 6400000 in
theorem plays_main (a : Option Addr) (len cap : Nat) (ps : List OpV) (w : World) (h : Ops w a len ps) (hf : opFew ps = true) :
    Calls Try.prog 6 #[.slice a len cap] w fun e w' => e = .returned (.bool true) ∧ Below w.heap.size w w' := by
  have hlen : len ≤ 300 := by
    have := h.len
    simp [opFew] at hf
    omega
  have HF := Lib.hid hf
  have H := Lib.hid h
  clear hf h
  go_enter Try.func6, Try.ntmps6
  go_wp2_with fail
  refine (awake_any _).mono ?_
  rintro e w1 ⟨rfl, hb1⟩
  go_wp2_with fail
  refine (opFew_any a len cap ps _ (H.out.below hb1)).mono ?_
  rintro e w2 ⟨rfl, rfl⟩
  rw [HF.out]
  have HB1 := Lib.hid hb1
  have H1 := Lib.hid (H.out.below hb1)
  clear hb1
  go_wp2_with fail
  refine (new_any _).mono ?_
  rintro e w2 ⟨rfl, rfl⟩
  have S0 := PlayLoop.start w1
  have hz : (w1.alloc (.cells #[.slice none 0 0] 47)).heap.size = w1.heap.size + 1 := by simp
  obtain ⟨w2, hw2⟩ : ∃ w2, (w1.alloc (.cells #[.slice none 0 0] 47)).alloc (.cells #[.slice none 0 0] 40) = w2 := ⟨_, rfl⟩
  rw [hw2] at S0
  have HW2 := Lib.hid hw2
  clear hw2
  go_wp2_with fail
  try rw [hz]
  rw [HW2.out]
  obtain ⟨B, hB⟩ : ∃ B, w1.heap.size = B := ⟨_, rfl⟩
  obtain ⟨R, hR⟩ : ∃ R, w1.heap.size + 1 = R := ⟨_, rfl⟩
  rw [hR, hB] at S0
  rw [hR, hB]
  have HBB := Lib.hid hB
  have HRR := Lib.hid hR
  clear hB hR hz
  go_loopw [5] (fun v wr => ∃ (k : Nat), v = .int .i64 k ∧ k ≤ len ∧ PlayLoop w1 B R wr) (fun v _ => len - (intOf v).toNat)
  case atStart => exact ⟨0, rfl, Nat.zero_le _, S0⟩
  case round =>
    obtain ⟨k, rfl, hk, n, p, q, pc, qc, ls, ls', hP⟩ := hrel
    by_cases hlt : (k : Int) < len
    · obtain ⟨b, o, rfl, hc⟩ := H1.out.mem (by omega)
      obtain ⟨x, hx⟩ : ∃ p, ps[k]? = some p := ⟨_, List.getElem?_eq_getElem (by rw [H.out.len]; omega)⟩
      obtain ⟨x1, x2, x3, x4, x5⟩ := hc k x hx
      have hO := (H1.out.ok x (List.mem_of_getElem? hx))
      have F1 := Fr.of_below hP.bel
      have y1 := F1.cell x1 (fun h => h)
      have y2 := F1.cell x2 (fun h => h)
      have y3 := F1.cell x3 (fun h => h)
      have y4 := F1.cell x4 (fun h => h)
      have y5 := F1.cell x5 (fun h => h)
      obtain ⟨kk, ix, f, t, xq, m, c, bs⟩ := x
      simp only at y1 y2 y3 y4 y5 hO
      obtain ⟨W, hW⟩ : ∃ W, wr.alloc (.cells #[.int .u8 kk, .int .i64 ix, .int .i64 f, .int .i64 t, .slice xq m c] 42) = W := ⟨_, rfl⟩
      obtain ⟨X, hX⟩ : ∃ X, wr.heap.size = X := ⟨_, rfl⟩
      obtain ⟨hP2, hI⟩ := hP.enter hO hW hX
      have k16 := Lib.hid (refPlace_any R q n qc ix W hP2.pair.ref.cell)
      obtain ⟨v, hv⟩ : ∃ v, refIx ix n = v := ⟨_, rfl⟩
      rw [hv] at k16
      obtain ⟨b1, b2, b3, b4, b5⟩ := hI.box.cell
      have HV := Lib.hid hv
      have HW := Lib.hid hW
      have HX := Lib.hid hX
      have HP := Lib.hid hP2
      have HI := Lib.hid hI
      have HWS : Hid (w1.heap.size ≤ W.heap.size) := hP2.bel.size
      clear hc hx x1 x2 x3 x4 x5 hO F1 hP S0 hv hW hX hP2 hI
      go_wp2_with fail
      rw [HW.out, HX.out]
      refine k16.out.mono ?_
      rintro e w3 ⟨rfl, rfl⟩
      rcases Bool.eq_false_or_eq_true (kk.tmod 5 == 0) with k0 | k0
      · by_cases hno : 200 ≤ (n : Int) ∨ 16384 < (m : Int)
        · have HPD := Lib.hid (HP.out.quiet (Fr.drew W))
          have HBD := Lib.hid (HI.out.box.fr (Fr.drew W) (fun h => h))
          obtain ⟨d1, d2, d3, d4, d5⟩ := HBD.out.cell
          have HOK := Lib.hid (HI.out.okFr (Fr.drew W) (fun _ _ h => h))
          have K8 := Lib.hid (send_no B w1.heap.size p n pc ls ⟨f, t, xq, m, c, bs⟩ W.drew HPD.out.pair.net (by simp only; omega))
          simp only at K8
          go_wp2_with fail
          go_region_law (first
            | (go_simp; go_at_call 8; refine K8.out.mono ?_; rintro e w4 ⟨rfl, h4⟩; have HP4 := Lib.hid (HPD.out.quiet (Fr.of_below h4)); obtain ⟨e1, e2, e3, e4, e5⟩ := (HBD.out.fr (Fr.of_below h4) (fun h => h)).cell; have K17 := Lib.hid (refSend_no R w1.heap.size q n qc ls' ⟨f, t, xq, m, c, bs⟩ w4 HP4.out.pair.ref (by simp only; omega)); simp only at K17; clear h4)
            | (go_simp; go_at_call 17; refine K17.out.mono ?_; rintro e W6 ⟨rfl, h6⟩; have HP6 := Lib.hid (HP4.out.quiet (Fr.of_below h6)); clear h6))
          all_goals
            obtain ⟨E1, E2, E3⟩ := HP6.out.ends
            have HE1 := Lib.hid E1
            have e1 := E1 0
            have e2 := E2 0
            rw [World.drewN_zero] at e1 e2
            have HE3 := Lib.hid E3
            clear E1 E2 E3
            go_wp2_with fail
            go_quiet ((go_at_call 11; exact Calls.quiet_of_same ((count_any B _ _ _ _ (HE1.out _)).mono (fun _ _ h => ⟨h.1, h.2.symm⟩))))
            go_wp2_with fail
            go_roundw
            case rel => exact ⟨k + 1, by go_num, by omega, HE3.out _⟩
            case measure => simp [intOf]; omega
        · have hn2 : (n : Int) < 200 := by omega
          have hm2 : (m : Int) ≤ 16384 := by omega
          have HPD := Lib.hid (HP.out.quiet (Fr.drew W))
          have HBD := Lib.hid (HI.out.box.fr (Fr.drew W) (fun h => h))
          obtain ⟨d1, d2, d3, d4, d5⟩ := HBD.out.cell
          have HOK := Lib.hid (HI.out.okFr (Fr.drew W) (fun _ _ h => h))
          have K8 := Lib.hid (send_ok B w1.heap.size p n pc ls ⟨f, t, xq, m, c, bs⟩ W.drew HPD.out.pair.net HOK.out hn2 hm2 HPD.out.bel.size)
          simp only at K8
          go_wp2_with fail
          go_region_law (first
            | (go_simp; go_at_call 8; refine K8.out.mono ?_; rintro e w4 ⟨p4, cap4, q4, c4, rfl, N4, F4, g4, _⟩; have HP4 := Lib.hid (HPD.out.pair.netGo F4 N4 g4); have HB4 := Lib.hid (HPD.out.pair.netBelow HPD.out.bel F4); obtain ⟨e1, e2, e3, e4, e5⟩ := (HBD.out.fr F4 HI.out.apart.1).cell; have K17 := Lib.hid (refSend_ok R w1.heap.size q n qc ls' ⟨f, t, xq, m, c, bs⟩ w4 HP4.out.ref (HI.out.okFr ((Fr.drew W).trans F4) (fun k hk e => e.elim id (HPD.out.pair.lowNet k hk))) HI.out.low hn2 hm2 HB4.out.size HP4.out.hR); simp only at K17; clear N4 F4 g4)
            | (go_simp; go_at_call 17; refine K17.out.mono ?_; rintro e W6 ⟨q6, c6, rfl, N6, F6, g6⟩; have HP6 := Lib.hid (HP.out.sent (m := m) (by omega) (by omega) (HP4.out.refGo F6 N6 g6) (HP4.out.refBelow HB4.out F6)); clear N6 F6 g6))
          all_goals
            obtain ⟨E1, E2, E3⟩ := HP6.out.ends
            have HE1 := Lib.hid E1
            have e1 := E1 0
            have e2 := E2 0
            rw [World.drewN_zero] at e1 e2
            have HE3 := Lib.hid E3
            clear E1 E2 E3
            go_wp2_with fail
            go_quiet ((go_at_call 11; exact Calls.quiet_of_same ((count_any B _ _ _ _ (HE1.out _)).mono (fun _ _ h => ⟨h.1, h.2.symm⟩))))
            go_wp2_with fail
            go_roundw
            case rel => exact ⟨k + 1, by go_num, by omega, HE3.out _⟩
            case measure => simp [intOf]; omega
      rcases Bool.eq_false_or_eq_true (kk.tmod 5 == 1) with k1 | k1
      · rcases Nat.eq_zero_or_pos n with rfl | hn
        · obtain rfl : v = -1 := HV.out.symm
          go_wp2_with fail
          refine (take_none B p pc ix W HP.out.pair.net.cell).mono ?_
          rintro e w4 ⟨rfl, hb4⟩
          have F4 := Fr.of_below hb4
          have F5 : Fr W (w4.alloc (.cells #[.int .i64 0, .int .i64 0, .slice none 0 0] 27)) (fun _ => False) := (F4.trans (Fr.alloc w4 _)).mono (by simp)
          have HP5 := Lib.hid (HP.out.quiet F5)
          obtain ⟨d1, d2, d3, d4, d5⟩ := (HI.out.box.fr F5 (fun h => h)).cell
          have K18 := Lib.hid (refTake_none R q qc ix _ HP5.out.pair.ref.cell)
          have HY := Lib.hid (heap_alloc_new w4 (.cells #[.int .i64 0, .int .i64 0, .slice none 0 0] 27))
          clear hb4 F4 F5
          go_wp2_with fail
          refine K18.out.mono ?_
          rintro e w6 ⟨rfl, hb6⟩
          have F7 : Fr (w4.alloc (.cells #[.int .i64 0, .int .i64 0, .slice none 0 0] 27)) (w6.alloc (.cells #[.int .i64 0, .int .i64 0, .slice none 0 0] 27)) (fun _ => False) := ((Fr.of_below hb6).trans (Fr.alloc w6 _)).mono (by simp)
          have HP7 := Lib.hid (HP5.out.quiet F7)
          obtain ⟨y0, y1, y2, _⟩ := letter_cells (F7.heap HY.out (fun h => h))
          obtain ⟨z0, z1, z2, _⟩ := letter_cells (heap_alloc_new w6 (.cells #[.int .i64 0, .int .i64 0, .slice none 0 0] 27))
          have K19 := Lib.hid (same_any ⟨0, 0, none, 0, 0, []⟩ ⟨0, 0, none, 0, 0, []⟩ (w6.alloc (.cells #[.int .i64 0, .int .i64 0, .slice none 0 0] 27)) (Src.nil _ _) (Src.nil _ _) rfl rfl rfl)
          clear hb6 F7
          go_wp2_with fail
          refine K19.out.mono ?_
          rintro e W6 ⟨rfl, h6⟩
          have HP6 := Lib.hid (HP7.out.quiet (Fr.of_below h6))
          clear h6
          obtain ⟨E1, E2, E3⟩ := HP6.out.ends
          have HE1 := Lib.hid E1
          have e1 := E1 0
          have e2 := E2 0
          rw [World.drewN_zero] at e1 e2
          have HE3 := Lib.hid E3
          clear E1 E2 E3
          go_wp2_with fail
          go_quiet ((go_at_call 11; exact Calls.quiet_of_same ((count_any B _ _ _ _ (HE1.out _)).mono (fun _ _ h => ⟨h.1, h.2.symm⟩))))
          go_wp2_with fail
          go_roundw
          case rel => exact ⟨k + 1, by go_num, by omega, HE3.out _⟩
          case measure => simp [intOf]; omega
        · obtain ⟨j, hj, rfl, hjn⟩ := refIx_pos hn HV.out
          have hji : (j : Int) < n := by omega
          obtain ⟨lf, lt, lm, lbs, q4, c4, q5, c5, hl, hl', hm⟩ := HP.out.pick hjn
          obtain ⟨g, cur, rfl, hnc, hg, g0, g1, g2⟩ := HP.out.pair.ref.rowAt hjn hl'
          simp only at g0 g1 g2
          have K9 := Lib.hid (take_some B w1.heap.size p n pc ls hn ix W HP.out.pair.net ⟨lf, lt, q4, lm, c4, lbs⟩ (hj ▸ hl) (by simp only; omega))
          rw [hj] at K9
          have HL' := Lib.hid hl'
          have hRlt := HP.out.pair.Rlt
          have hle := HP.out.le
          clear hl hl' hg
          go_wp2_with fail
          refine K9.out.mono ?_
          rintro e w4 ⟨q6, c6, rfl, O4, N4, F4⟩
          simp only [Lt.val]
          have F5 : Fr w4 (w4.alloc (.cells #[.int .i64 lf, .int .i64 lt, .slice q6 lm c6] 27)) (fun _ => False) := Fr.alloc w4 _
          have P4 := HP.out.pair.netGo F4 N4 (fun i hi => .inl hi)
          have B4 := HP.out.pair.netBelow HP.out.bel F4
          have P5 := P4.quiet F5
          have B5 := P4.netBelow B4 (F5.mono (fun _ _ h => h.elim))
          obtain ⟨d1, d2, d3, d4, d5⟩ := ((HI.out.box.fr F4 HI.out.apart.1).fr F5 (fun h => h)).cell
          have K18 := Lib.hid (refTake_some R w1.heap.size _ n qc ls' hn hle ix _ P5.ref ⟨lf, lt, q5, lm, c5, lbs⟩ (hj ▸ HL'.out) B5.size P5.hR)
          rw [hj] at K18
          have hYR : ¬ w4.heap.size = R := by have := F4.size; omega
          have HY := Lib.hid (heap_alloc_new w4 (.cells #[.int .i64 lf, .int .i64 lt, .slice q6 lm c6] 27))
          have HP5 := Lib.hid P5
          have HB5 := Lib.hid B5
          have HO5 := Lib.hid (O4.fr F5 (fun _ _ h => h))
          have OK5 := Lib.hid (P5.ref.ok _ (List.mem_of_getElem? HL'.out))
          have LW5 := Lib.hid (P5.ref.low _ (List.mem_of_getElem? HL'.out))
          clear O4 N4 F4 F5 P4 B4 P5 B5
          go_wp2_with fail
          refine K18.out.mono ?_
          rintro e w6 ⟨q7, cap7, rfl, N6, F6, g6⟩
          simp only [Lt.val]
          have F6' := F6.mono (U := fun k => k = R ∨ some k = blk (some ⟨g, 0, none⟩)) (fun _ _ h => .inl h)
          have HL6 := HP.out.taken (HP5.out.refGo F6' N6 (fun i hi => .inr (g6 i hi))) (HP5.out.refBelow HB5.out F6')
          have F67 := F6.trans (Fr.alloc w6 (.cells #[.int .i64 lf, .int .i64 lt, .slice q5 lm c5] 27))
          have HP7 := Lib.hid (HL6.quiet (Fr.alloc w6 (.cells #[.int .i64 lf, .int .i64 lt, .slice q5 lm c5] 27)))
          obtain ⟨y0, y1, y2, _⟩ := letter_cells (F67.heap HY.out (fun h => h.elim hYR (fun h => h)))
          obtain ⟨z0, z1, z2, _⟩ := letter_cells (heap_alloc_new w6 (.cells #[.int .i64 lf, .int .i64 lt, .slice q5 lm c5] 27))
          have K19 := Lib.hid (same_any ⟨lf, lt, q6, lm, c6, lbs⟩ ⟨lf, lt, q5, lm, c5, lbs⟩ (w6.alloc (.cells #[.int .i64 lf, .int .i64 lt, .slice q5 lm c5] 27)) (HO5.out.fr F67 (fun i hi e => by have := (HO5.out.lt i hi).1; rcases e with e | e <;> omega)).src (OK5.out.src.fr F67 (fun hp a ha e => by have := LW5.out hp a ha; have := HP5.out.hR; rcases e with e | e <;> omega)) rfl rfl rfl)
          clear N6 F6 g6 F6' HL6 F67
          go_wp2_with fail
          refine K19.out.mono ?_
          rintro e W6 ⟨rfl, h6⟩
          have HP6 := Lib.hid (HP7.out.quiet (Fr.of_below h6))
          clear h6
          obtain ⟨E1, E2, E3⟩ := HP6.out.ends
          have HE1 := Lib.hid E1
          have e1 := E1 0
          have e2 := E2 0
          rw [World.drewN_zero] at e1 e2
          have HE3 := Lib.hid E3
          clear E1 E2 E3
          go_wp2_with fail
          go_quiet ((go_at_call 11; exact Calls.quiet_of_same ((count_any B _ _ _ _ (HE1.out _)).mono (fun _ _ h => ⟨h.1, h.2.symm⟩))))
          go_wp2_with fail
          go_roundw
          case rel => exact ⟨k + 1, by go_num, by omega, HE3.out _⟩
          case measure => simp [intOf]; omega
      rcases Bool.eq_false_or_eq_true (kk.tmod 5 == 2) with k2 | k2
      · rcases Nat.eq_zero_or_pos n with rfl | hn
        · obtain rfl : v = -1 := HV.out.symm
          go_wp2_with fail
          refine (double_none B p pc ix W HP.out.pair.net.cell).mono ?_
          rintro e W6 ⟨rfl, hb4⟩
          have HP6 := Lib.hid (HP.out.quiet (Fr.of_below hb4))
          clear hb4
          obtain ⟨E1, E2, E3⟩ := HP6.out.ends
          have HE1 := Lib.hid E1
          have e1 := E1 0
          have e2 := E2 0
          rw [World.drewN_zero] at e1 e2
          have HE3 := Lib.hid E3
          clear E1 E2 E3
          go_wp2_with fail
          go_quiet ((go_at_call 11; exact Calls.quiet_of_same ((count_any B _ _ _ _ (HE1.out _)).mono (fun _ _ h => ⟨h.1, h.2.symm⟩))))
          go_wp2_with fail
          go_roundw
          case rel => exact ⟨k + 1, by go_num, by omega, HE3.out _⟩
          case measure => simp [intOf]; omega
        · by_cases hn2 : 200 ≤ (n : Int)
          · obtain ⟨j, hj, rfl, hjn⟩ := refIx_pos hn HV.out
            have hji : (j : Int) < n := by omega
            obtain ⟨lf, lt, lm, lbs, q4, c4, q5, c5, hl, hl', hm⟩ := HP.out.pick hjn
            obtain ⟨g, cur, rfl, hnc, hg, g0, g1, g2⟩ := HP.out.pair.ref.rowAt hjn hl'
            simp only at g0 g1 g2
            have K12 := Lib.hid (double_full B w1.heap.size p n pc ls hn2 ix W HP.out.pair.net HP.out.fewN)
            have hmx : max (j : Int) 0 = j := by omega
            clear hl hg
            have HL' := Lib.hid hl'
            clear hl'
            go_wp2_with fail
            refine K12.out.mono ?_
            rintro e w4 ⟨rfl, hb4⟩
            have F4 := Fr.of_below hb4
            have HP4 := Lib.hid (HP.out.quiet F4)
            have r4 := HP4.out.pair.ref.cell
            have f0 := F4.cell g0 (fun h => h)
            have f1 := F4.cell g1 (fun h => h)
            have f2 := F4.cell g2 (fun h => h)
            have K17 := Lib.hid (refSend_no R w1.heap.size _ n qc ls' ⟨lf, lt, q5, lm, c5, lbs⟩ w4 HP4.out.pair.ref (.inl hn2))
            simp only at K17
            clear hb4 F4
            go_wp2_with fail
            refine K17.out.mono ?_
            rintro e W6 ⟨rfl, h6⟩
            have HP6 := Lib.hid (HP4.out.quiet (Fr.of_below h6))
            clear h6
            obtain ⟨E1, E2, E3⟩ := HP6.out.ends
            have HE1 := Lib.hid E1
            have e1 := E1 0
            have e2 := E2 0
            rw [World.drewN_zero] at e1 e2
            have HE3 := Lib.hid E3
            clear E1 E2 E3
            go_wp2_with fail
            go_quiet ((go_at_call 11; exact Calls.quiet_of_same ((count_any B _ _ _ _ (HE1.out _)).mono (fun _ _ h => ⟨h.1, h.2.symm⟩))))
            go_wp2_with fail
            go_roundw
            case rel => exact ⟨k + 1, by go_num, by omega, HE3.out _⟩
            case measure => simp [intOf]; omega
          · obtain ⟨j, hj, rfl, hjn⟩ := refIx_pos hn HV.out
            have hji : (j : Int) < n := by omega
            obtain ⟨lf, lt, lm, lbs, q4, c4, q5, c5, hl, hl', hm⟩ := HP.out.pick hjn
            obtain ⟨g, cur, rfl, hnc, hg, g0, g1, g2⟩ := HP.out.pair.ref.rowAt hjn hl'
            simp only at g0 g1 g2
            have hn3 : (n : Int) < 200 := by omega
            have K12 := Lib.hid (double_ok B w1.heap.size p n pc ls hn3 hn ix W HP.out.pair.net HP.out.fewN HP.out.bel.size ⟨lf, lt, q4, lm, c4, lbs⟩ (hj ▸ hl))
            have hmx : max (j : Int) 0 = j := by omega
            have hgT : ¬ (g = B ∨ some g = blk p) := by
              rintro (e | e)
              · exact HP.out.pair.qB (by rw [← e]; rfl)
              · exact HP.out.pair.sep g rfl e.symm
            have HL' := Lib.hid hl'
            have HT := Lib.hid hgT
            clear hl hg hl' hgT
            go_wp2_with fail
            refine K12.out.mono ?_
            rintro e w4 ⟨p4, cap4, q6, c6, rfl, N4, F4, g4, _⟩
            have P4 := HP.out.pair.netGo F4 N4 g4
            have B4 := HP.out.pair.netBelow HP.out.bel F4
            have r4 := P4.ref.cell
            have f0 := F4.cell g0 HT.out
            have f1 := F4.cell g1 HT.out
            have f2 := F4.cell g2 HT.out
            have K17 := Lib.hid (refSend_ok R w1.heap.size _ n qc ls' ⟨lf, lt, q5, lm, c5, lbs⟩ w4 P4.ref (P4.ref.ok _ (List.mem_of_getElem? HL'.out)) (P4.ref.low _ (List.mem_of_getElem? HL'.out)) hn3 (by simp only; omega) B4.size P4.hR)
            simp only at K17
            have HP4 := Lib.hid P4
            have HB4 := Lib.hid B4
            clear N4 F4 g4 P4 B4
            go_wp2_with fail
            refine K17.out.mono ?_
            rintro e W6 ⟨q7, c7, rfl, N6, F6, g6⟩
            have HP6 := Lib.hid (HP.out.sent (m := lm) (by omega) hm (HP4.out.refGo F6 N6 g6) (HP4.out.refBelow HB4.out F6))
            clear N6 F6 g6
            obtain ⟨E1, E2, E3⟩ := HP6.out.ends
            have HE1 := Lib.hid E1
            have e1 := E1 0
            have e2 := E2 0
            rw [World.drewN_zero] at e1 e2
            have HE3 := Lib.hid E3
            clear E1 E2 E3
            go_wp2_with fail
            go_quiet ((go_at_call 11; exact Calls.quiet_of_same ((count_any B _ _ _ _ (HE1.out _)).mono (fun _ _ h => ⟨h.1, h.2.symm⟩))))
            go_wp2_with fail
            go_roundw
            case rel => exact ⟨k + 1, by go_num, by omega, HE3.out _⟩
            case measure => simp [intOf]; omega
      rcases Bool.eq_false_or_eq_true (kk.tmod 5 == 3) with k3 | k3
      · rcases Nat.eq_zero_or_pos n with rfl | hn
        · obtain rfl : v = -1 := HV.out.symm
          go_wp2_with fail
          refine (turn_none B p pc ix xq m c W HP.out.pair.net.cell).mono ?_
          rintro e W6 ⟨rfl, rfl⟩
          have HP6 := HP
          obtain ⟨E1, E2, E3⟩ := HP6.out.ends
          have HE1 := Lib.hid E1
          have e1 := E1 0
          have e2 := E2 0
          rw [World.drewN_zero] at e1 e2
          have HE3 := Lib.hid E3
          clear E1 E2 E3
          go_wp2_with fail
          go_quiet ((go_at_call 11; exact Calls.quiet_of_same ((count_any B _ _ _ _ (HE1.out _)).mono (fun _ _ h => ⟨h.1, h.2.symm⟩))))
          go_wp2_with fail
          go_roundw
          case rel => exact ⟨k + 1, by go_num, by omega, HE3.out _⟩
          case measure => simp [intOf]; omega
        · by_cases hml : (m : Int) ≤ 16384
          · obtain ⟨j, hj, rfl, hjn⟩ := refIx_pos hn HV.out
            have hji : (j : Int) < n := by omega
            obtain ⟨lf, lt, lm, lbs, q4, c4, q5, c5, hl, hl', hm⟩ := HP.out.pick hjn
            obtain ⟨g, cur, rfl, hnc, hg, g0, g1, g2⟩ := HP.out.pair.ref.rowAt hjn hl'
            simp only at g0 g1 g2
            have HPD := HP.out.quiet (Fr.drew W)
            have r5 := HPD.pair.ref.cell
            obtain ⟨d1, d2, d3, d4, d5⟩ := (HI.out.box.fr (Fr.drew W) (fun h => h)).cell
            have fg : W.drew.frozen? ⟨g, j * 3 + 2, none⟩ = false := frozen_of_row _ g _ _ _ ((Fr.drew W).heap hg (fun h => h))
            have h2' : W.drew.cell? ⟨g, j * 3 + 2, none⟩ = some (.slice q5 lm c5) := (Fr.drew W).cell g2 (fun h => h)
            have hXg : ¬ X = g := fun e => HI.out.apart.2 (.inr (by rw [e]; rfl))
            have hgX : ¬ g = X := fun e => hXg e.symm
            have P5 := HPD.pair.turned hl' (q := xq) (m := m) (c := c) (bs := bs) HI.out.low ⟨HI.out.ok.src.drew, HI.out.ok.nil⟩
            have B5 := HPD.pair.refBelow HPD.bel ((Fr.setCell W.drew ⟨g, j * 3 + 2, none⟩ (.slice xq m c)).mono (fun k _ e => .inr (by rw [e]; rfl)))
            try simp only at P5
            have K20 := Lib.hid (turn_ok B w1.heap.size p n pc ls hn ix xq m c bs _ P5.net B5.size ⟨lf, lt, q4, lm, c4, lbs⟩ (hj ▸ hl) (P5.ref.ok _ (List.mem_of_getElem? (by rw [List.getElem?_set]; simp [(List.getElem?_eq_some_iff.1 hl').1] : (ls'.set j ⟨lf, lt, xq, m, c, bs⟩)[j]? = some ⟨lf, lt, xq, m, c, bs⟩))).src HI.out.ok.nil (by omega))
            rw [hj] at K20
            try simp only at K20
            have HP5 := Lib.hid P5
            have HB5 := Lib.hid B5
            clear P5 B5 HPD hl hl' hg
            go_wp2_with fail
            go_still_tail 10, (by kernel_rfl)
            change wpList _ _ _ _ _ W.drew
            generalize hW : W.drew = w2 at d1 d2 d3 d4 d5 r5 fg h2' K20 HP5 HB5 ⊢
            go_wp2_with fail
            refine K20.out.mono ?_
            rintro e W6 ⟨q6, c6, rfl, N6, F6, _⟩
            have HP6 := Lib.hid (HP.out.turn (by omega) HP5.out HB5.out N6 F6)
            clear N6 F6
            obtain ⟨E1, E2, E3⟩ := HP6.out.ends
            have HE1 := Lib.hid E1
            have e1 := E1 0
            have e2 := E2 0
            rw [World.drewN_zero] at e1 e2
            have HE3 := Lib.hid E3
            clear E1 E2 E3
            go_wp2_with fail
            go_quiet ((go_at_call 11; exact Calls.quiet_of_same ((count_any B _ _ _ _ (HE1.out _)).mono (fun _ _ h => ⟨h.1, h.2.symm⟩))))
            go_wp2_with fail
            go_roundw
            case rel => exact ⟨k + 1, by go_num, by omega, HE3.out _⟩
            case measure => simp [intOf]; omega
          · obtain ⟨j, hj, rfl, hjn⟩ := refIx_pos hn HV.out
            have hji : (j : Int) < n := by omega
            obtain ⟨lf, lt, lm, lbs, q4, c4, q5, c5, hl, hl', hm⟩ := HP.out.pick hjn
            obtain ⟨g, cur, rfl, hnc, hg, g0, g1, g2⟩ := HP.out.pair.ref.rowAt hjn hl'
            simp only at g0 g1 g2
            clear hl hl' hg
            go_wp2_with fail
            refine (turn_long B p n pc hn ix xq m c W HP.out.pair.net.cell (by omega)).mono ?_
            rintro e W6 ⟨rfl, rfl⟩
            have HP6 := HP
            obtain ⟨E1, E2, E3⟩ := HP6.out.ends
            have HE1 := Lib.hid E1
            have e1 := E1 0
            have e2 := E2 0
            rw [World.drewN_zero] at e1 e2
            have HE3 := Lib.hid E3
            clear E1 E2 E3
            go_wp2_with fail
            go_quiet ((go_at_call 11; exact Calls.quiet_of_same ((count_any B _ _ _ _ (HE1.out _)).mono (fun _ _ h => ⟨h.1, h.2.symm⟩))))
            go_wp2_with fail
            go_roundw
            case rel => exact ⟨k + 1, by go_num, by omega, HE3.out _⟩
            case measure => simp [intOf]; omega
      · rcases Nat.eq_zero_or_pos n with rfl | hn
        · obtain rfl : v = -1 := HV.out.symm
          go_wp2_with fail
          refine (at_none B p pc ix W HP.out.pair.net.cell).mono ?_
          rintro e w4 ⟨rfl, hb4⟩
          have HP4 := Lib.hid (HP.out.quiet (Fr.of_below hb4))
          clear hb4
          go_wp2_with fail
          obtain ⟨W5, hW5⟩ : ∃ W5, w4.alloc (.cells #[.int .i64 0, .int .i64 0, .slice none 0 0] 27) = W5 := ⟨_, rfl⟩
          rw [hW5]
          have hP5 := HP4.out.quiet (hW5 ▸ Fr.alloc w4 _)
          have HP5 := Lib.hid hP5
          clear hP5 hW5
          go_quiet (fail)
          obtain ⟨W6, hW6⟩ : ∃ x, W5.drewN nq = x := ⟨_, rfl⟩
          rw [hW6]
          have HP6 := Lib.hid (HP5.out.quiet (hW6 ▸ Fr.drewN W5 nq))
          clear hW6
          obtain ⟨E1, E2, E3⟩ := HP6.out.ends
          have HE1 := Lib.hid E1
          have e1 := E1 0
          have e2 := E2 0
          rw [World.drewN_zero] at e1 e2
          have HE3 := Lib.hid E3
          clear E1 E2 E3
          go_wp2_with fail
          go_quiet ((go_at_call 11; exact Calls.quiet_of_same ((count_any B _ _ _ _ (HE1.out _)).mono (fun _ _ h => ⟨h.1, h.2.symm⟩))))
          go_wp2_with fail
          go_roundw
          case rel => exact ⟨k + 1, by go_num, by omega, HE3.out _⟩
          case measure => simp [intOf]; omega
        · obtain ⟨j, hj, rfl, hjn⟩ := refIx_pos hn HV.out
          have hji : (j : Int) < n := by omega
          obtain ⟨lf, lt, lm, lbs, q4, c4, q5, c5, hl, hl', hm⟩ := HP.out.pick hjn
          obtain ⟨g, cur, rfl, hnc, hg, g0, g1, g2⟩ := HP.out.pair.ref.rowAt hjn hl'
          simp only at g0 g1 g2
          have K4 := Lib.hid (at_some B w1.heap.size p n pc ls hn ix W HP.out.pair.net ⟨lf, lt, q4, lm, c4, lbs⟩ (hj ▸ hl) (by simp only; omega))
          have HG := Lib.hid hg
          have HL' := Lib.hid hl'
          clear hl hl' hg
          go_wp2_with fail
          refine K4.out.mono ?_
          rintro e w4 ⟨q6, c6, rfl, O6, B6⟩
          simp only [Lt.val]
          obtain ⟨W5, hW5⟩ : ∃ W5, w4.alloc (.cells #[.int .i64 lf, .int .i64 lt, .slice q6 lm c6] 27) = W5 := ⟨_, rfl⟩
          obtain ⟨Y, hY⟩ : ∃ Y, w4.heap.size = Y := ⟨_, rfl⟩
          have F45 : Fr w4 W5 (fun _ => False) := hW5 ▸ Fr.alloc w4 _
          have FW5 : Fr W W5.drew (fun _ => False) := (((Fr.of_below B6).trans F45).trans (Fr.drew W5)).mono (by simp)
          obtain ⟨d0, d1, d2, _⟩ := letter_cells ((Fr.drew W5).heap (show W5.heap[Y]? = _ from hY ▸ hW5 ▸ heap_alloc_new w4 _) (fun h => h))
          have f0 := FW5.cell g0 (fun h => h)
          have f1 := FW5.cell g1 (fun h => h)
          have f2 := FW5.cell g2 (fun h => h)
          have hP5 := HP.out.quiet FW5
          have r5 := hP5.pair.ref.cell
          have K19 := Lib.hid (same_any ⟨lf, lt, q6, lm, c6, lbs⟩ ⟨lf, lt, q5, lm, c5, lbs⟩ W5.drew (O6.fr ((F45.trans (Fr.drew W5)).mono (by simp)) (fun _ _ h => h)).src (hP5.pair.ref.ok _ (List.mem_of_getElem? HL'.out)).src rfl rfl rfl)
          have HP5 := Lib.hid hP5
          have HW5 := Lib.hid hW5
          have HY := Lib.hid hY
          clear O6 B6 hW5 hY F45 FW5 hP5
          go_wp2_with fail
          rw [HW5.out, HY.out]
          go_still_tail 15, (by kernel_rfl)
          change wpList _ _ _ _ _ W5.drew
          generalize hW : W5.drew = w2 at d0 d1 d2 f0 f1 f2 r5 K19 HP5 ⊢
          trace_state
          go_wp2_with fail
          refine K19.out.mono ?_
          rintro e W6 ⟨rfl, h6⟩
          have HP6 := Lib.hid (HP5.out.quiet (Fr.of_below h6))
          clear h6
          obtain ⟨E1, E2, E3⟩ := HP6.out.ends
          have HE1 := Lib.hid E1
          have e1 := E1 0
          have e2 := E2 0
          rw [World.drewN_zero] at e1 e2
          have HE3 := Lib.hid E3
          clear E1 E2 E3
          go_wp2_with fail
          go_quiet ((go_at_call 11; exact Calls.quiet_of_same ((count_any B _ _ _ _ (HE1.out _)).mono (fun _ _ h => ⟨h.1, h.2.symm⟩))))
          go_wp2_with fail
          go_roundw
          case rel => exact ⟨k + 1, by go_num, by omega, HE3.out _⟩
          case measure => simp [intOf]; omega
    · have hn200 := hP.le
      have HP := Lib.hid hP
      have K14 := Lib.hid (way_any B w1.heap.size p n pc ls wr hP.pair.net hP.fewN hP.le)
      clear hP
      obtain rfl : k = len := by omega
      go_wp2_with fail
      refine K14.out.mono ?_
      rintro e W2 ⟨r, cr, rfl, hR⟩
      obtain ⟨b2, HL2⟩ : ∃ b2, Hid (WayL w1 B R n p q pc qc ls ls' b2 r cr W2) := ⟨wr.heap.size, HP.out.quiet (Fr.of_below hR.bel), hR.ex⟩
      clear hR
      go_wp2_with fail
      go_loopw [16] (fun v wX => ∃ (k2 : Nat), v = .int .i64 k2 ∧ k2 ≤ n ∧ WayL w1 B R n p q pc qc ls ls' b2 r cr wX) (fun v _ => n - (intOf v).toNat)
      case atStart => exact ⟨0, rfl, Nat.zero_le _, HL2.out⟩
      case round =>
        obtain ⟨k2, rfl, hk2, hL⟩ := hrel
        by_cases hlt2 : (k2 : Int) < n
        · obtain ⟨lf, lt, lm, lbs, q4, c4, q5, c5, g, g', rfl, rfl, hn1, hn2, ⟨y0, y1, y2⟩, ⟨z0, z1, z2⟩, S4, S5⟩ := (hL.quiet (Fr.drew wr)).pick (j := k2) (by omega)
          have hLD := hL.quiet (Fr.drew wr)
          have r5 := hLD.play.pair.ref.cell
          have K19 := Lib.hid (same_any ⟨lf, lt, q4, lm, c4, lbs⟩ ⟨lf, lt, q5, lm, c5, lbs⟩ wr.drew S4 S5 rfl rfl rfl)
          have HLD := Lib.hid hLD
          clear hL hLD S4 S5
          go_wp2_with fail
          go_still_tail 11, (by kernel_rfl)
          change wpList _ _ _ _ _ wr.drew
          generalize hW : wr.drew = w5 at y0 y1 y2 z0 z1 z2 r5 K19 HLD ⊢
          go_wp2_with fail
          refine K19.out.mono ?_
          rintro e W6 ⟨rfl, h6⟩
          have HL6 := Lib.hid (HLD.out.quiet (Fr.of_below h6))
          clear h6
          go_wp2_with fail
          go_roundw
          case rel => exact ⟨k2 + 1, by go_num, by omega, HL6.out⟩
          case measure => simp [intOf]; omega
        · obtain rfl : k2 = n := by omega
          have r5 := hL.play.pair.ref.cell
          have HB := Lib.hid (HB1.out.trans (hL.play.bel.mono HB1.out.size))
          clear hL
          go_wp2_with fail
          go_ret
          exact ⟨rfl, HB.out⟩
end Go.Proofs.Ythnachjkjhclpaa
