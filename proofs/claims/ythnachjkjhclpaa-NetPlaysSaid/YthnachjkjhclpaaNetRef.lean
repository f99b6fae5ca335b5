/- A row of calls; the contracts of the law's few and of the reference's Place and Same. -/
import Derived.Test.YthnachjkjhclpaaNetOps
namespace Go.Proofs.Ythnachjkjhclpaa
open Go.RowKit
set_option linter.unusedVariables false
set_option linter.unusedSimpArgs false

/-- A call that came in. -/
structure OpV where
  k : Int
  i : Int
  l : Lt
structure OpV.Ok (p : OpV) (w : World) : Prop where
  lt : p.l.Ok w
  k0 : 0 ≤ p.k ∧ p.k ≤ 255
  i0 : -9223372036854775808 ≤ p.i ∧ p.i ≤ 9223372036854775807
theorem OpV.Ok.below {p : OpV} {w w' : World} (h : p.Ok w) (hb : Below w.heap.size w w') : p.Ok w' := ⟨⟨h.lt.src.below hb, h.lt.nil⟩, h.k0, h.i0⟩
/-- The calls ps in a row that came in. -/
structure Ops (w : World) (a : Option Addr) (n : Nat) (ps : List OpV) : Prop where
  len : ps.length = n
  ok : ∀ p ∈ ps, p.Ok w
  mem : 0 < n → ∃ b o, a = some ⟨b, o, none⟩ ∧ ∀ (i : Nat) (p : OpV), ps[i]? = some p → w.cell? ⟨b, o + i * 5, none⟩ = some (.int .u8 p.k) ∧ w.cell? ⟨b, o + i * 5 + 1, none⟩ = some (.int .i64 p.i) ∧ w.cell? ⟨b, o + i * 5 + 2, none⟩ = some (.int .i64 p.l.f) ∧ w.cell? ⟨b, o + i * 5 + 3, none⟩ = some (.int .i64 p.l.t) ∧ w.cell? ⟨b, o + i * 5 + 4, none⟩ = some (.slice p.l.q p.l.m p.l.c)
theorem Ops.below {w w' : World} {a : Option Addr} {len : Nat} {ps : List OpV} (h : Ops w a len ps) (hb : Below w.heap.size w w') : Ops w' a len ps := by
  refine ⟨h.len, fun p hp => (h.ok p hp).below hb, fun hn => ?_⟩
  obtain ⟨b, o, rfl, hc⟩ := h.mem hn
  refine ⟨b, o, rfl, fun i p hp => ?_⟩
  obtain ⟨c1, c2, c3, c4, c5⟩ := hc i p hp
  have F := Fr.of_below hb
  exact ⟨F.cell c1 (fun h => h), F.cell c2 (fun h => h), F.cell c3 (fun h => h), F.cell c4 (fun h => h), F.cell c5 (fun h => h)⟩

def opSum (ps : List OpV) (k : Nat) : Nat := ((ps.take k).map fun p => min p.l.m 20000).sum
theorem opSum_succ {ps : List OpV} {k : Nat} {p : OpV} (h : ps[k]? = some p) : opSum ps (k + 1) = opSum ps k + min p.l.m 20000 := by
  unfold opSum
  rw [List.take_add_one, h]
  simp
theorem opSum_le (ps : List OpV) (k : Nat) : opSum ps k ≤ k * 20000 := by
  induction k with
  | zero => simp [opSum]
  | succ k ih =>
    cases h : ps[k]? with
    | none =>
      have : opSum ps (k + 1) = opSum ps k := by unfold opSum; rw [List.take_add_one, h]; simp
      omega
    | some p => rw [opSum_succ h]; omega
/-- The law's few, as it answers. -/
def opFew (ps : List OpV) : Bool := decide (ps.length ≤ 300 ∧ opSum ps ps.length ≤ 60000)

set_option maxRecDepth 100000 in
set_option maxHeartbeats 1600000 in
theorem opFew_any (a : Option Addr) (len cap : Nat) (ps : List OpV) (w : World) (h : Ops w a len ps) :
    Calls Try.prog 15 #[.slice a len cap] w fun e w' => e = .returned (.bool (opFew ps)) ∧ w = w' := by
  have H := Lib.hid h
  clear h
  go_enter Try.func15, Try.ntmps15
  go_wp2_with fail
  go_loop [3, 4] (fun v u => ∃ (s k : Nat), v = .int .i64 s ∧ u = .int .i64 k ∧ k ≤ len ∧ k ≤ 400 ∧ s = opSum ps k) (fun v u => len - (intOf u).toNat)
  case atStart => exact ⟨0, 0, rfl, rfl, Nat.zero_le _, by omega, by simp [opSum]⟩
  case round =>
    obtain ⟨s, k, rfl, rfl, hk, hk5, hs⟩ := hrel
    have hsl : s ≤ k * 20000 := by rw [hs]; exact opSum_le _ _
    have HS := Lib.hid hs
    clear hs
    by_cases hlt : (k : Int) < len
    · by_cases h50 : (k : Int) < 400
      · obtain ⟨b, o, rfl, hc⟩ := H.out.mem (by omega)
        obtain ⟨p, hp⟩ : ∃ p, ps[k]? = some p := ⟨_, List.getElem?_eq_getElem (by rw [H.out.len]; omega)⟩
        obtain ⟨c1, c2, c3, c4, c5⟩ := hc k p hp
        have HN := Lib.hid (opSum_succ hp)
        clear hc hp c1 c2 c3 c4
        obtain ⟨kk, x, f, t, q, m, c, bs⟩ := p
        simp only at c5 HN
        by_cases hm : (m : Int) ≤ 20000
        · have hsum : IntKind.i64.wrap ((s : Int) + m) = ((s + m : Nat) : Int) := by rw [IntWalk.i64_in _ (by omega)]; omega
          go_wp2
          go_round
          case rel => exact ⟨s + min m 20000, k + 1, by go_num, by go_num, by omega, by omega, by rw [HN.out, HS.out]⟩
          case measure => simp [intOf]; omega
        · go_wp2
          go_round
          case rel => exact ⟨s + min m 20000, k + 1, by go_num, by go_num, by omega, by omega, by rw [HN.out, HS.out]⟩
          case measure => simp [intOf]; omega
      · have hf : opFew ps = false := by simp [opFew, H.out.len]; omega
        have HF := Lib.hid hf
        clear hf
        go_wp2
        go_ret
        exact ⟨by rw [HF.out]; rfl, rfl⟩
    · obtain rfl : k = len := by omega
      by_cases h40 : (k : Int) ≤ 300
      · have hf : opFew ps = decide ((s : Int) ≤ 60000) := by
          have e1 : ps.length = k := H.out.len
          have e2 : s = opSum ps k := HS.out
          have hk40 : k ≤ 300 := by omega
          simp [opFew, e1, ← e2, hk40]; omega
        have HF := Lib.hid hf
        clear hf
        go_wp2
        go_ret
        exact ⟨by rw [HF.out]; rfl, rfl⟩
      · have hf : opFew ps = false := by simp [opFew, H.out.len]; omega
        have HF := Lib.hid hf
        clear hf
        go_wp2
        go_ret
        exact ⟨by rw [HF.out]; rfl, rfl⟩

set_option maxHeartbeats 400000 in
theorem refPlace_none (B : Nat) (p : Option Addr) (cap : Nat) (i : Int) (w : World) (c0 : w.cell? ⟨B, 0, none⟩ = some (.slice p 0 cap)) :
    Calls Try.prog 16 #[.pointer (some ⟨B, 0, none⟩), .int .i64 i] w fun e w' => e = .returned (.int .i64 (-1)) ∧ w = w' := by
  go_enter Try.func16, Try.ntmps16
  go_wp2
  go_ret
  exact ⟨rfl, rfl⟩

set_option maxHeartbeats 800000 in
theorem refPlace_some (B : Nat) (p : Option Addr) (n cap : Nat) (hn : 0 < n) (i : Int) (w : World) (c0 : w.cell? ⟨B, 0, none⟩ = some (.slice p n cap)) :
    Calls Try.prog 16 #[.pointer (some ⟨B, 0, none⟩), .int .i64 i] w fun e w' => e = .returned (.int .i64 (placeOf i n)) ∧ w = w' := by
  have e0 : ((n : Int) == 0) = false := by simp; omega
  have hne : ¬ ((n : Int) = 0) := by omega
  by_cases h : 0 ≤ i
  · obtain ⟨k, rfl⟩ := Int.eq_ofNat_of_zero_le h
    have hp : placeOf (k : Int) n = k % n := by
      unfold placeOf; rw [Int.max_eq_left (by omega)]; simp
    have H := Lib.hid hp
    clear hp
    go_enter Try.func16, Try.ntmps16
    go_wp2
    go_ret
    refine ⟨?_, rfl⟩
    rw [H.out]; simp
  · have hp : placeOf i n = 0 := by
      unfold placeOf; rw [Int.max_eq_right (by omega)]; simp
    have H := Lib.hid hp
    have hi : i < 0 := by omega
    clear hp
    go_enter Try.func16, Try.ntmps16
    go_wp2
    go_ret
    refine ⟨?_, rfl⟩
    rw [H.out]; rfl

set_option maxHeartbeats 800000 in
/-- Two letters that say the same. -/
theorem same_any (a b : Lt) (w : World) (ha : Src w a.q a.m a.bs) (hb : Src w b.q b.m b.bs) (hf : a.f = b.f) (ht : a.t = b.t) (hbs : a.bs = b.bs) :
    Calls Try.prog 19 #[.agg #[.int .i64 a.f, .int .i64 a.t, .slice a.q a.m a.c], .agg #[.int .i64 b.f, .int .i64 b.t, .slice b.q b.m b.c]] w fun e w' => e = .returned (.bool true) ∧ Below w.heap.size w w' := by
  obtain ⟨f, t, q, m, c, bs⟩ := a
  obtain ⟨f', t', q', m', c', bs'⟩ := b
  simp only at ha hb hf ht hbs ⊢
  subst hf ht hbs
  obtain ⟨W, hW⟩ : ∃ W, W = (w.alloc (.cells #[.int .i64 f, .int .i64 t, .slice q m c] 27)).alloc (.cells #[.int .i64 f, .int .i64 t, .slice q' m' c'] 27) := ⟨_, rfl⟩
  have hbW : Below w.heap.size w W := by rw [hW]; exact (below_alloc w _).trans ((below_alloc _ _).mono (by simp))
  have q1 := (ha.below hbW).convert (P := Try.prog) c 25 5 9 Try.underlying25 Try.underlying5 Try.underlying9
  have q2 := (hb.below hbW).convert (P := Try.prog) c' 25 5 9 Try.underlying25 Try.underlying5 Try.underlying9
  obtain ⟨s1, hs1⟩ : ∃ s, strOfNums bs = s := ⟨_, rfl⟩
  rw [hs1] at q1 q2
  rw [hW] at q1 q2
  have HB := Lib.hid hbW
  have HW := Lib.hid hW
  clear ha hb hbW hW hs1
  go_enter Try.func19, Try.ntmps19
  go_wp2
  go_ret
  exact ⟨rfl, by rw [← HW.out]; exact HB.out⟩
end Go.Proofs.Ythnachjkjhclpaa
