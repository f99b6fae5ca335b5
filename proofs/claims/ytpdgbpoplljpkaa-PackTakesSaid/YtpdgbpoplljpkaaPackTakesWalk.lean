/- The walk of PackTakes. -/
import Derived.Test.YtpdgbpoplljpkaaPackGot
namespace Go.Proofs.Ytpdgbpoplljpkaa
open Go.RowKit
set_option linter.unusedVariables false
set_option linter.unusedSimpArgs false

/-- What holds in the loop that takes the parts out. -/
structure TakesR (w2 : World) (base B : Nat) (pr : Option Addr) (nr cr : Nat) (xs : List Int) (bad : Bool) (wr : World) : Prop where
  inn : ∃ p cap, InAt wr B p nr cap xs bad
  src : Src wr pr nr xs
  lt : 0 < nr → ∀ a, pr = some a → a.block < base
  le : nr ≤ cr
  n : nr ≤ 2000
  bel : Below base w2 wr

theorem got_le {xs : List Int} {k : Int} {X y : Nat} {ts : List Int} {j : Nat} (h : got xs k X = some (y, ts, j)) : j ≤ xs.length := by
  have hd := dec_le xs
  unfold got at h
  split at h
  · split at h
    · cases h
    · simp only [Option.some.injEq, Prod.mk.injEq] at h; omega
  · split at h
    · split at h
      · cases h
      · simp only [Option.some.injEq, Prod.mk.injEq] at h; omega
    · split at h
      · split at h
        · cases h
        · simp only [Option.some.injEq, Prod.mk.injEq] at h; omega
      · split at h
        · cases h
        · simp only [Option.some.injEq, Prod.mk.injEq] at h; omega

theorem slice_0 (p : Option Addr) (n c : Nat) (h : n ≤ c) (w' : World) : (Instr.slice 22 (.slice p n c) (some (.int .i64 0)) none none).run Try.prog w' = .ok (.slice p n c) w' := by
  have he : Try.prog.elem 22 = 5 := by simp [Program.elem, Try.underlying22]
  rw [run_slice_l w' 22 p n c (by rw [he]; exact Try.underlying22) .i64 (0 : Int) (by omega) (by omega), he, Try.sizeOf5 w']
  cases p <;> simp [Result.andThen, sliced, Addr.add]

set_option maxRecDepth 100000 in
set_option maxHeartbeats 1600000 in
theorem takes_walk (a0 : Option Addr) (len0 cap0 : Nat) (z0 : List Int) (a : Option Addr) (len cap : Nat) (ps : List Pt) (w : World) (w0 : IsRow .u8 w a0 len0 cap0 z0) (h : Parts w a len ps) :
    Calls Try.prog 6 #[.slice a0 len0 cap0, .slice a len cap] w fun e w' => e = .returned (.bool true) ∧ Below w.heap.size w w' := by
  obtain ⟨S0, hc0, hcm0, hn0⟩ := w0.src
  obtain ⟨xs, hxs⟩ : ∃ xs, z0.take len0 = xs := ⟨_, rfl⟩
  rw [hxs] at S0
  have HP := Lib.hid (show a0 = none → len0 = 0 ∧ cap0 = 0 from fun e => ⟨by have := hn0 e; omega, hn0 e⟩)
  have H := Lib.hid h
  clear w0 hxs h hn0
  rcases (by omega : (2000 : Int) < len0 ∨ ((len0 : Int) ≤ 2000 ∧ (40 : Int) < len) ∨ ((len0 : Int) ≤ 2000 ∧ (len : Int) ≤ 40)) with h1 | ⟨h1, h2⟩ | ⟨h1, h2⟩
  · go_enter Try.func6, Try.ntmps6
    go_wp2_with fail
    refine (awake_any _).mono ?_
    rintro e w1 ⟨rfl, hb1⟩
    go_wp2_with fail
    refine (awake_any _).mono ?_
    rintro e w2 ⟨rfl, hb2⟩
    go_wp2_with fail
    go_ret
    exact ⟨rfl, hb1.trans (hb2.mono hb1.size)⟩
  · go_enter Try.func6, Try.ntmps6
    go_wp2_with fail
    refine (awake_any _).mono ?_
    rintro e w1 ⟨rfl, hb1⟩
    go_wp2_with fail
    refine (awake_any _).mono ?_
    rintro e w2 ⟨rfl, hb2⟩
    go_wp2_with fail
    go_ret
    exact ⟨rfl, hb1.trans (hb2.mono hb1.size)⟩
  · go_enter Try.func6, Try.ntmps6
    go_wp2_with fail
    refine (awake_any _).mono ?_
    rintro e w1 ⟨rfl, hb1⟩
    have S1 := S0.below hb1
    have H1 := Lib.hid (H.out.below hb1)
    have HB1 := Lib.hid hb1
    have hz1 := hb1.size
    clear hb1 S0
    go_wp2_with fail
    refine (read_any a0 len0 cap0 xs w1 S1 HP.out (by omega)).mono ?_
    rintro e w2 ⟨B, p1, cap1, rfl, hI, hBge, hb2⟩
    have R0 : TakesR w1 w1.heap.size B a0 len0 cap0 xs false w2 := ⟨⟨p1, cap1, hI⟩, S1.below hb2, fun hn => S1.lt hn, hc0, by omega, hb2⟩
    have HR0 := Lib.hid R0
    have HP1 := Lib.hid HP.out
    clear hI hb2 R0 S1
    go_wp2_with fail
    go_loopw [6, 7, 8] (fun v6 v7 v8 wr => ∃ (k : Nat) (bad : Bool) (pr : Option Addr) (nr cr : Nat) (ys : List Int), v6 = .slice pr nr cr ∧ v7 = .bool bad ∧ v8 = .int .i64 k ∧ k ≤ len ∧ TakesR w1 w1.heap.size B pr nr cr ys bad wr) (fun v6 v7 v8 _ => len - (intOf v8).toNat)
    case atStart => exact ⟨0, false, a0, len0, cap0, xs, rfl, rfl, rfl, Nat.zero_le _, HR0.out⟩
    case round =>
      obtain ⟨k, bad, pr, nr, cr, ys, rfl, rfl, rfl, hk, hR⟩ := hrel
      by_cases hlt : (k : Int) < len
      · obtain ⟨b, o, rfl, hc⟩ := H1.out.mem (by omega)
        obtain ⟨p, hp⟩ : ∃ p, ps[k]? = some p := ⟨_, List.getElem?_eq_getElem (by rw [H1.out.len]; omega)⟩
        have hpm : p ∈ ps := List.mem_of_getElem? hp
        obtain ⟨⟨pi, ci, hI⟩, hS, hSl, hnc, hn2, hB⟩ := hR
        have hpok := H1.out.ok p hpm
        obtain ⟨a1, a2, a3⟩ := hc k p hp
        have hblt : b < w1.heap.size := block_lt_of_cell (hc k p hp).1
        have c1 := (hB.cell (p := ⟨b, o + k * 3, none⟩) hblt).trans a1
        have c2 := (hB.cell (p := ⟨b, o + k * 3 + 1, none⟩) hblt).trans a2
        have c3 := (hB.cell (p := ⟨b, o + k * 3 + 2, none⟩) hblt).trans a3
        have hk0 := hpok.k0
        have hx0 := hpok.x0
        have hsB := hB.size
        have HI := Lib.hid hI
        have HB := Lib.hid hB
        have HS := Lib.hid hS
        have HSL := Lib.hid hSl
        clear hc hp a1 a2 a3 hpm hI hB hpok hS hSl HR0
        obtain ⟨kk, x, q, m, c, bs⟩ := p
        simp only at c1 c2 c3 hk0 hx0
        have K := Lib.hid (take21_any B pi nr ci ys bad kk x q m c wr hk0 hx0 HI.out)
        obtain ⟨g, hg⟩ : ∃ g, got ys kk x = g := ⟨_, rfl⟩
        have HG := Lib.hid hg
        rw [hg] at K
        clear hg
        -- what is taken, with and without a fault
        obtain ⟨y, ts, j, bd, hbd, hj⟩ : ∃ y ts j bd, (TookPost wr B (if bad then none else g) nr ci ys = Took wr B y ts j nr ci ys bd) ∧ ((bd = true ∧ (if bad then none else g) = none ∧ y = 0 ∧ ts = [] ∧ j = 0) ∨ (bad = false ∧ bd = false ∧ g = some (y, ts, j))) := by
          cases bad with
          | true => exact ⟨0, [], 0, true, rfl, .inl ⟨rfl, rfl, rfl, rfl, rfl⟩⟩
          | false =>
            cases g with
            | none => exact ⟨0, [], 0, true, rfl, .inl ⟨rfl, rfl, rfl, rfl, rfl⟩⟩
            | some t => obtain ⟨y, ts, j⟩ := t; exact ⟨y, ts, j, false, rfl, .inr ⟨rfl, rfl, rfl⟩⟩
        rw [hbd] at K
        have HJ := Lib.hid hj
        clear hbd hj
        go_wp2_with fail
        refine K.out.mono ?_
        rintro e w3 ⟨pt, capt, qi, rfl, hO3, hI3, hF3⟩
        have hs3 := hF3.size
        have d1 := hF3.cell c1 (show ¬ b = B by omega)
        have d2 := hF3.cell c2 (show ¬ b = B by omega)
        have d3 := hF3.cell c3 (show ¬ b = B by omega)
        have HS3 := Lib.hid (HS.out.fr hF3 (fun hn a ha e => by have := HSL.out hn a ha; omega))
        rcases HJ.out with ⟨rfl, hnone, rfl, rfl, rfl⟩ | ⟨rfl, rfl, rfl⟩
        · rw [List.length_nil] at hO3
          go_wp2_with fail
          refine got22_any pr nr cr ys kk x q m c w3 hk0 hx0 HS3.out hnc (by omega) _ ?_
          rw [HG.out]
          cases bad with
          | true =>
            cases g with
            | none =>
              intro w4 hb4
              have hSt := (hO3.src.below hb4)
              have q1 := hSt.convert (P := Try.prog) capt 22 5 9 Try.underlying22 Try.underlying5 Try.underlying9
              have q2 := (Src.nil w4 none).convert (P := Try.prog) 0 22 5 9 Try.underlying22 Try.underlying5 Try.underlying9
              obtain ⟨s1, hs1⟩ : ∃ s, strOfNums ([] : List Int) = s := ⟨_, rfl⟩
              rw [hs1] at q1 q2
              have I4 : InAt w4 B qi nr ci ys true := by have := hI3.frF (Fr.of_below hb4); simpa using this
              have HI4 := Lib.hid I4
              have sf0 : ∀ w' : World, (Instr.slice 22 (.slice pr nr cr) (some (.int .i64 0)) none none).run Try.prog w' = .ok (.slice pr nr cr) w' := slice_0 pr nr cr hnc
              have R4 : TakesR w1 w1.heap.size B pr nr cr ys true w4 := ⟨⟨qi, ci, I4⟩, HS3.out.below hb4, HSL.out, hnc, hn2, HB.out.trans ((hF3.trans (Fr.of_below hb4)).below hsB (fun i hi e => by rcases e with e | e; omega; exact e))⟩
              have HR4 := Lib.hid R4
              have K18 := Lib.hid (bad_any B qi nr ci ys true w4 I4)
              have K19 := Lib.hid (left_any B qi nr ci ys true w4 I4)
              have K13 := Lib.hid (over_any B qi nr ci ys true w4 I4)
              clear hSt I4 R4 hs1 hb4
              go_wp2_with fail
              refine K18.out.mono ?_
              rintro e w5 ⟨rfl, rfl⟩
              go_wp2_with fail
              refine K19.out.mono ?_
              rintro e w5 ⟨rfl, rfl⟩
              go_wp2_with fail
              refine K13.out.mono ?_
              rintro e w5 ⟨rfl, rfl⟩
              go_wp2
              go_roundw
              case rel => exact ⟨k + 1, true, pr, nr, cr, ys, rfl, rfl, by go_num, by omega, HR4.out⟩
              case measure => simp [intOf]; omega
            | some t =>
              obtain ⟨y', ts', j'⟩ := t
              intro w4 pu mu cu hb4 hSu
              clear hSu
              have hSt := (hO3.src.below hb4)
              have q1 := hSt.convert (P := Try.prog) capt 22 5 9 Try.underlying22 Try.underlying5 Try.underlying9
              have q2 := (Src.nil w4 none).convert (P := Try.prog) 0 22 5 9 Try.underlying22 Try.underlying5 Try.underlying9
              obtain ⟨s1, hs1⟩ : ∃ s, strOfNums ([] : List Int) = s := ⟨_, rfl⟩
              rw [hs1] at q1 q2
              have I4 : InAt w4 B qi nr ci ys true := by have := hI3.frF (Fr.of_below hb4); simpa using this
              have HI4 := Lib.hid I4
              have sf0 : ∀ w' : World, (Instr.slice 22 (.slice pr nr cr) (some (.int .i64 0)) none none).run Try.prog w' = .ok (.slice pr nr cr) w' := slice_0 pr nr cr hnc
              have R4 : TakesR w1 w1.heap.size B pr nr cr ys true w4 := ⟨⟨qi, ci, I4⟩, HS3.out.below hb4, HSL.out, hnc, hn2, HB.out.trans ((hF3.trans (Fr.of_below hb4)).below hsB (fun i hi e => by rcases e with e | e; omega; exact e))⟩
              have HR4 := Lib.hid R4
              have K18 := Lib.hid (bad_any B qi nr ci ys true w4 I4)
              have K19 := Lib.hid (left_any B qi nr ci ys true w4 I4)
              have K13 := Lib.hid (over_any B qi nr ci ys true w4 I4)
              clear hSt I4 R4 hs1 hb4
              go_wp2_with fail
              refine K18.out.mono ?_
              rintro e w5 ⟨rfl, rfl⟩
              go_wp2_with fail
              refine K19.out.mono ?_
              rintro e w5 ⟨rfl, rfl⟩
              go_wp2_with fail
              refine K13.out.mono ?_
              rintro e w5 ⟨rfl, rfl⟩
              go_wp2
              go_roundw
              case rel => exact ⟨k + 1, true, pr, nr, cr, ys, rfl, rfl, by go_num, by omega, HR4.out⟩
              case measure => simp [intOf]; omega
          | false =>
            cases g with
            | some t => cases hnone
            | none =>
              intro w4 hb4
              have hSt := (hO3.src.below hb4)
              have q1 := hSt.convert (P := Try.prog) capt 22 5 9 Try.underlying22 Try.underlying5 Try.underlying9
              have q2 := (Src.nil w4 none).convert (P := Try.prog) 0 22 5 9 Try.underlying22 Try.underlying5 Try.underlying9
              obtain ⟨s1, hs1⟩ : ∃ s, strOfNums ([] : List Int) = s := ⟨_, rfl⟩
              rw [hs1] at q1 q2
              have I4 : InAt w4 B qi nr ci ys true := by have := hI3.frF (Fr.of_below hb4); simpa using this
              have HI4 := Lib.hid I4
              have sf0 : ∀ w' : World, (Instr.slice 22 (.slice pr nr cr) (some (.int .i64 0)) none none).run Try.prog w' = .ok (.slice pr nr cr) w' := slice_0 pr nr cr hnc
              have R4 : TakesR w1 w1.heap.size B pr nr cr ys true w4 := ⟨⟨qi, ci, I4⟩, HS3.out.below hb4, HSL.out, hnc, hn2, HB.out.trans ((hF3.trans (Fr.of_below hb4)).below hsB (fun i hi e => by rcases e with e | e; omega; exact e))⟩
              have HR4 := Lib.hid R4
              have K18 := Lib.hid (bad_any B qi nr ci ys true w4 I4)
              have K19 := Lib.hid (left_any B qi nr ci ys true w4 I4)
              have K13 := Lib.hid (over_any B qi nr ci ys true w4 I4)
              clear hSt I4 R4 hs1 hb4
              go_wp2_with fail
              refine K18.out.mono ?_
              rintro e w5 ⟨rfl, rfl⟩
              go_wp2_with fail
              refine K19.out.mono ?_
              rintro e w5 ⟨rfl, rfl⟩
              go_wp2_with fail
              refine K13.out.mono ?_
              rintro e w5 ⟨rfl, rfl⟩
              go_wp2
              go_roundw
              case rel => exact ⟨k + 1, true, pr, nr, cr, ys, rfl, rfl, by go_num, by omega, HR4.out⟩
              case measure => simp [intOf]; omega
        · have hjl := got_le HG.out
          rw [HS3.out.len] at hjl
          go_wp2_with fail
          refine got22_any pr nr cr ys kk x q m c w3 hk0 hx0 HS3.out hnc (by omega) _ ?_
          rw [HG.out]
          intro w4 pu mu cu hb4 hSu
          have hSt := (hO3.src.below hb4)
          have q1 := hSt.convert (P := Try.prog) capt 22 5 9 Try.underlying22 Try.underlying5 Try.underlying9
          have q2 := hSu.convert (P := Try.prog) cu 22 5 9 Try.underlying22 Try.underlying5 Try.underlying9
          obtain ⟨s1, hs1⟩ : ∃ s, strOfNums ts = s := ⟨_, rfl⟩
          rw [hs1] at q1 q2
          obtain ⟨tl, htl⟩ : ∃ z, ts.length = z := ⟨_, rfl⟩
          rw [htl] at q1
          have I4 := hI3.frF (Fr.of_below hb4)
          obtain ⟨pr', sf, hq1, hq2, hq3⟩ := slice_from 22 Try.underlying22 Try.sizeOf5 (HS3.out.below hb4) j hjl hnc
          obtain ⟨n4, hn4⟩ : ∃ z, nr - j = z := ⟨_, rfl⟩
          rw [hn4] at I4 sf hq1
          have hj0 : decide ((j : Int) < 0) = false := by simp
          have R4 : TakesR w1 w1.heap.size B pr' n4 (cr - j) (ys.drop j) false w4 := ⟨⟨qi, _, I4⟩, hq1, fun hn a ha => by obtain ⟨b', e1, e2⟩ := hq3 a ha; rw [e2]; exact HSL.out (by omega) b' e1, by omega, by omega, HB.out.trans ((hF3.trans (Fr.of_below hb4)).below hsB (fun i hi e => by rcases e with e | e; omega; exact e))⟩
          have HR4 := Lib.hid R4
          have K18 := Lib.hid (bad_any B qi _ _ _ false w4 I4)
          have K19 := Lib.hid (left_any B qi _ _ _ false w4 I4)
          have K13 := Lib.hid (over_any B qi _ _ _ false w4 I4)
          obtain ⟨bz, hbz⟩ : ∃ z, ((n4 : Int) == 0) = z := ⟨_, rfl⟩
          rw [htl]
          clear hSt I4 R4 hs1 hb4 hSu hq1 hq2 hq3 hn4 htl hO3 hI3
          cases bz
          all_goals
            go_wp2_with fail
            refine K18.out.mono ?_
            rintro e w5 ⟨rfl, rfl⟩
            go_wp2_with fail
            refine K19.out.mono ?_
            rintro e w5 ⟨rfl, rfl⟩
            go_wp2_with fail
            refine K13.out.mono ?_
            rintro e w5 ⟨rfl, rfl⟩
            go_wp2
            go_roundw
            case rel => exact ⟨k + 1, false, pr', n4, cr - j, ys.drop j, rfl, rfl, by go_num, by omega, HR4.out⟩
            case measure => simp [intOf]; omega
      · go_wp2
        go_ret
        exact ⟨rfl, HB1.out.trans (hR.bel.mono hz1)⟩
end Go.Proofs.Ytpdgbpoplljpkaa
