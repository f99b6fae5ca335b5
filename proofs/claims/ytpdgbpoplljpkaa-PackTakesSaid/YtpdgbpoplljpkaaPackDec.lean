/- The contracts of In.number and In.Num. -/
import Derived.Test.YtpdgbpoplljpkaaPackText
namespace Go.Proofs.Ytpdgbpoplljpkaa
open Go.RowKit
set_option linter.unusedVariables false
set_option linter.unusedSimpArgs false

/-- The number that stands at the head of a text (from its n-th byte on, what is before being x), and how many bytes it has; 0 bytes: none. -/
def decF : Nat → Nat → List Int → Nat × Nat
  | _, _, [] => (0, 0)
  | n, x, c :: cs =>
    if (n = 9 ∧ 1 < c) ∨ 9 < n then (0, 0)
    else if c < 128 then (if c = 0 ∧ 0 < n then (0, 0) else (x + c.toNat % 128 * 128 ^ n, n + 1))
    else decF (n + 1) (x + c.toNat % 128 * 128 ^ n) cs
def dec (xs : List Int) : Nat × Nat := decF 0 0 xs

theorem and127 : ∀ v : Nat, v < 256 → bits BinOp.and IntKind.u8 (v : Int) 127 = ((v % 128 : Nat) : Int) := by decide +kernel
theorem pow128 (k : Nat) : (2 : Int) ^ (7 * k) = ((128 ^ k : Nat) : Int) := by
  rw [show (2 : Int) ^ (7 * k) = ((2 ^ (7 * k) : Nat) : Int) by simp, Nat.pow_mul]
theorem num_step (k x : Nat) (c : Int) (hc : 0 ≤ c ∧ c ≤ 255) (hx : x < 128 ^ k) (hk : k ≤ 9) (h9 : k = 9 → c ≤ 1) :
    bits BinOp.or IntKind.u64 (x : Int) (IntKind.u64.wrap (IntKind.u64.wrap (bits BinOp.and IntKind.u8 c 127) * 2 ^ (7 * k))) = ((x + c.toNat % 128 * 128 ^ k : Nat) : Int) ∧ x + c.toNat % 128 * 128 ^ k < 128 ^ (k + 1) ∧
      x + c.toNat % 128 * 128 ^ k < 18446744073709551616 := by
  obtain ⟨v, rfl⟩ : ∃ v : Nat, c = v := ⟨c.toNat, by omega⟩
  have hd : v % 128 < 128 := Nat.mod_lt _ (by omega)
  have hpos : 0 < 128 ^ k := Nat.pow_pos (by omega)
  have h1 : x + v % 128 * 128 ^ k < 128 ^ (k + 1) := by
    have h2 : (v % 128 + 1) * 128 ^ k ≤ 128 * 128 ^ k := Nat.mul_le_mul_right _ (by omega)
    rw [Nat.add_mul, Nat.one_mul] at h2
    rw [Nat.pow_succ]; omega
  have h2 : x + v % 128 * 128 ^ k < 18446744073709551616 := by
    rcases Nat.lt_or_ge k 9 with h | h
    · have : 128 ^ (k + 1) ≤ 128 ^ 9 := Nat.pow_le_pow_right (by omega) (by omega)
      have e : 128 ^ 9 = 9223372036854775808 := by decide
      omega
    · obtain rfl : k = 9 := by omega
      have := h9 rfl
      have e : 128 ^ 9 = 9223372036854775808 := by decide
      rw [e] at hx ⊢
      omega
  refine ⟨?_, h1, h2⟩
  have w1 : IntKind.u64.wrap ((v % 128 : Nat) : Int) = ((v % 128 : Nat) : Int) := IntWalk.u64_in _ (by omega)
  have e2 : ((v % 128 : Nat) : Int) * ((128 ^ k : Nat) : Int) = ((v % 128 * 128 ^ k : Nat) : Int) := by rw [Int.natCast_mul]
  rw [and127 v (by omega), w1, pow128, e2, IntWalk.u64_in _ (by omega), bits_or_u64_nat _ _ (by omega) (by omega)]
  congr 1
  have h3 : x < 2 ^ (7 * k) := by rw [Nat.pow_mul]; exact hx
  have h4 := Nat.two_pow_add_eq_or_of_lt h3 (v % 128)
  have e3 : (128 : Nat) ^ k = 2 ^ (7 * k) := by rw [Nat.pow_mul]
  rw [Int.toNat_natCast, e3, Nat.or_comm, Nat.mul_comm (v % 128), ← h4, Nat.add_comm]

/-- What holds at the loop's head. -/
structure DecR (xs : List Int) (n k x : Nat) : Prop where
  le : k ≤ n
  le9 : k ≤ 9
  lt : x < 128 ^ k
  eq : dec xs = decF k x (xs.drop k)
theorem decF_cons {xs : List Int} {k : Nat} (h : k < xs.length) (x : Nat) : decF k x (xs.drop k) = if (k = 9 ∧ 1 < xs.getD k 0) ∨ 9 < k then (0, 0) else if xs.getD k 0 < 128 then (if xs.getD k 0 = 0 ∧ 0 < k then (0, 0) else (x + (xs.getD k 0).toNat % 128 * 128 ^ k, k + 1))
      else decF (k + 1) (x + (xs.getD k 0).toNat % 128 * 128 ^ k) (xs.drop (k + 1)) := by
  rw [List.drop_eq_getElem_cons h]
  simp only [decF, List.getD, List.getElem?_eq_getElem h, Option.getD_some]

theorem ret_dec {xs : List Int} {a b : Int} {p : Nat × Nat} (h : dec xs = p) (ha : a = p.1) (hb : b = p.2) : Ending.returned (.tuple #[.int .u64 a, .int .i64 b]) = .returned (.tuple #[.int .u64 (dec xs).1, .int .i64 (dec xs).2]) := by rw [h, ha, hb]

set_option maxHeartbeats 800000 in
theorem number_any (B : Nat) (p : Option Addr) (n cap : Nat) (xs : List Int) (bad : Bool) (w : World) (h : InAt w B p n cap xs bad) :
    Calls Try.prog 29 #[.pointer (some ⟨B, 0, none⟩)] w fun e w' => e = .returned (.tuple #[.int .u64 (dec xs).1, .int .i64 (dec xs).2]) ∧ w = w' := by
  have c0 : w.cell? ⟨B, 0, none⟩ = some (.slice p n cap) := by rw [cell_of_row w B _ _ _ _ h.cells]; rfl
  have hbig := h.big
  have HS := Lib.hid h.src
  clear h
  go_enter Try.func29, Try.ntmps29
  go_wp2
  go_loop [12, 4] (fun i v => ∃ (k : Nat) (x : Nat), i = .int .i64 k ∧ v = .int .u64 x ∧ DecR xs n k x) (fun i _ => n - (intOf i).toNat)
  case atStart => exact ⟨0, 0, rfl, rfl, Nat.zero_le _, by omega, by omega, rfl⟩
  case round =>
    obtain ⟨k, x, rfl, rfl, hr⟩ := hrel
    have hk9 := hr.le9
    have hkn := hr.le
    by_cases hlt : (k : Int) < n
    · obtain ⟨b, o, rfl, hc⟩ := HS.out.mem (by omega)
      have hl := HS.out.len
      have E := decF_cons (show k < xs.length by omega) x
      obtain ⟨c, hcv⟩ : ∃ c, xs.getD k 0 = c := ⟨_, rfl⟩
      have ck := hc k (by omega)
      rw [hcv] at ck E
      have hcr : 0 ≤ c ∧ c ≤ 255 := by
        rw [← hcv]
        simp only [List.getD, List.getElem?_eq_getElem (show k < xs.length by omega)]
        exact HS.out.rng _ (List.getElem_mem _)
      have HE := Lib.hid (hr.eq.trans E)
      have HX := Lib.hid hr.lt
      clear hcv hr hc hl E
      by_cases h9 : (k : Int) = 9
      · obtain rfl : k = 9 := by omega
        clear h9
        by_cases hb : 1 < c
        · go_wp2
          go_ret2
          exact ⟨ret_dec (HE.out.trans (if_pos (by simp [hb]))) rfl rfl, by first | rfl | trivial⟩
        · have E2 := HE.out.trans (if_neg (by omega))
          rw [if_pos (by omega)] at E2
          have HE2 := Lib.hid E2
          clear E2 HE
          obtain ⟨n1, n2, n3⟩ := num_step 9 x c hcr HX.out (by omega) (fun _ => by omega)
          have HN := Lib.hid n1
          clear n1 n2 n3
          by_cases hz : c = 0
          · subst hz
            go_wp2
            go_ret2
            exact ⟨ret_dec (HE2.out.trans (if_pos (by simp))) rfl rfl, by first | rfl | trivial⟩
          · go_wp2
            go_ret2
            exact ⟨ret_dec (HE2.out.trans (if_neg (by omega))) HN.out (by simp), by first | rfl | trivial⟩
      · have E2 := HE.out.trans (if_neg (by omega))
        obtain ⟨n1, n2, n3⟩ := num_step k x c hcr HX.out hk9 (fun e => by omega)
        have HN := Lib.hid n1
        have HN2 := Lib.hid n2
        clear n1 n2 n3 HE
        by_cases hb : c < 128
        · rw [if_pos hb] at E2
          have HE2 := Lib.hid E2
          clear E2
          by_cases hz : c = 0
          · subst hz
            by_cases hk0 : 0 < k
            · go_wp2
              go_ret2
              exact ⟨ret_dec (HE2.out.trans (if_pos (by simp [hk0]))) rfl rfl, by first | rfl | trivial⟩
            · obtain rfl : k = 0 := by omega
              have ck0 : w.cell? ⟨b, o, none⟩ = some (.int .u8 0) := ck
              go_wp2
              go_ret2
              exact ⟨ret_dec (HE2.out.trans (if_neg (by omega))) HN.out (by simp), by first | rfl | trivial⟩
          · go_wp2
            go_ret2
            exact ⟨ret_dec (HE2.out.trans (if_neg (by omega))) HN.out (by simp), by first | rfl | trivial⟩
        · rw [if_neg hb] at E2
          have HE2 := Lib.hid E2
          clear E2
          go_wp2
          go_round
          case rel => exact ⟨k + 1, x + c.toNat % 128 * 128 ^ k, by go_num, by rw [HN.out], by omega, by omega, HN2.out, HE2.out⟩
          case measure => simp [intOf]; omega
    · have hl := HS.out.len
      have E : dec xs = (0, 0) := by rw [hr.eq, List.drop_eq_nil_of_le (by omega)]; rfl
      have HE := Lib.hid E
      clear E hl hr
      go_wp2
      go_ret2
      exact ⟨ret_dec HE.out rfl rfl, by first | rfl | trivial⟩

theorem decF_le : ∀ (xs : List Int) (n x : Nat), (decF n x xs).2 = 0 ∨ n + 1 ≤ (decF n x xs).2 ∧ (decF n x xs).2 ≤ n + xs.length
  | [], n, x => .inl rfl
  | c :: cs, n, x => by
    simp only [decF]
    split
    · exact .inl rfl
    · split
      · split
        · exact .inl rfl
        · right; simp
      · have := decF_le cs (n + 1) (x + c.toNat % 128 * 128 ^ n)
        simp only [List.length_cons]
        omega
theorem dec_le (xs : List Int) : (dec xs).2 ≤ xs.length := by
  have := decF_le xs 0 0
  unfold dec
  omega
theorem decF_lt : ∀ (xs : List Int) (n x : Nat), (∀ v ∈ xs, 0 ≤ v ∧ v ≤ 255) → x < 128 ^ n → n ≤ 9 → (decF n x xs).1 < 18446744073709551616
  | [], n, x, _, _, _ => by simp [decF]
  | c :: cs, n, x, h, hx, hn => by
    have hc := h c (by simp)
    simp only [decF]
    split
    · simp
    · rename_i h1
      obtain ⟨_, k2, k3⟩ := num_step n x c hc hx hn (fun e => by omega)
      split
      · split
        · simp
        · exact k3
      · exact decF_lt cs (n + 1) _ (fun v hv => h v (by simp [hv])) k2 (by omega)
theorem dec_lt (xs : List Int) (h : ∀ v ∈ xs, 0 ≤ v ∧ v ≤ 255) : (dec xs).1 < 18446744073709551616 := decF_lt xs 0 0 h (by omega) (by omega)

set_option maxHeartbeats 400000 in
theorem inNum_bad (B : Nat) (p : Option Addr) (n cap : Nat) (xs : List Int) (bad : Bool) (most : Int) (w : World) (h : InAt w B p n cap xs bad) (hk : bad = true ∨ (dec xs).2 = 0 ∨ most < (dec xs).1) :
    Calls Try.prog 17 #[.pointer (some ⟨B, 0, none⟩), .int .u64 most] w fun e w' => e = .returned (.int .u64 0) ∧ InAt w' B p n cap xs true ∧ Fr w w' (fun k => k = B) := by
  have c1 : w.cell? ⟨B, 1, none⟩ = some (.bool bad) := by rw [cell_of_row w B _ _ _ _ h.cells]; rfl
  obtain ⟨d, hd⟩ : ∃ d, dec xs = d := ⟨_, rfl⟩
  obtain ⟨x, m⟩ := d
  have HN := Lib.hid (number_any B p n cap xs bad w h)
  rw [hd] at hk HN
  have H := Lib.hid h
  clear h hd
  simp only at hk HN
  rcases (show bad = true ∨ (bad = false ∧ (m : Int) = 0) ∨ (bad = false ∧ ¬ (m : Int) = 0 ∧ most < (x : Int)) by cases bad <;> simp at hk ⊢; omega) with rfl | ⟨rfl, h2⟩ | ⟨rfl, h2, h3⟩
  all_goals
    clear hk
    go_enter Try.func17, Try.ntmps17
    go_wp2_with (first | (go_at_call 29; refine HN.out.mono ?_; rintro e w1 ⟨rfl, rfl⟩) | (go_at_call 24; refine (fail_any B p n cap xs _ w H.out).mono ?_; rintro e w1 ⟨rfl, h4, h5⟩))
    go_ret
    exact ⟨rfl, h4, h5⟩
/-- What a taking call leaves in the In. -/
def InPost (w : World) (B : Nat) (v : Value) (n cap k : Nat) (xs : List Int) (e : Ending) (w' : World) : Prop :=
  ∃ q, e = .returned v ∧ InAt w' B q (n - k) (cap - k) (xs.drop k) false ∧ Fr w w' (fun k => k = B)
set_option maxHeartbeats 400000 in
theorem inNum_ok (B : Nat) (p : Option Addr) (n cap : Nat) (xs : List Int) (most : Int) (w : World) (h : InAt w B p n cap xs false) (h0 : (dec xs).2 ≠ 0) (hm : ((dec xs).1 : Int) ≤ most) :
    Calls Try.prog 17 #[.pointer (some ⟨B, 0, none⟩), .int .u64 most] w (InPost w B (.int .u64 (dec xs).1) n cap (dec xs).2 xs) := by
  have c0 : w.cell? ⟨B, 0, none⟩ = some (.slice p n cap) := by rw [cell_of_row w B _ _ _ _ h.cells]; rfl
  have c1 : w.cell? ⟨B, 1, none⟩ = some (.bool false) := by rw [cell_of_row w B _ _ _ _ h.cells]; rfl
  have f0 : w.frozen? ⟨B, 0, none⟩ = false := frozen_of_row w B 0 _ _ h.cells
  have hle := h.le
  have hdl := dec_le xs
  rw [h.src.len] at hdl
  obtain ⟨q, sf, hq1, hq2, hq3⟩ := slice_from 22 Try.underlying22 Try.sizeOf5 h.src (dec xs).2 hdl hle
  have HN := Lib.hid (number_any B p n cap xs false w h)
  obtain ⟨d, hd⟩ : ∃ d, dec xs = d := ⟨_, rfl⟩
  rw [hd] at hq1 HN h0 hm sf hdl ⊢
  obtain ⟨x, m⟩ := d
  simp only at hq1 HN h0 hm sf hdl ⊢
  have h0' : ¬ (m : Int) = 0 := by omega
  have hm0 : ((m : Int) == 0) = false := by simpa using h0'
  have hmb : decide (most < (x : Int)) = false := by simpa using hm
  have hbig := h.big
  have HQ1 := Lib.hid hq1
  have HQ2 := Lib.hid hq2
  have HQ3 := Lib.hid hq3
  have H := Lib.hid h
  clear h hq1 hq2 hq3 hd h0
  go_enter Try.func17, Try.ntmps17
  go_wp2_with (first | (go_at_call 29; refine HN.out.mono ?_; rintro e w1 ⟨rfl, rfl⟩))
  go_ret
  refine ⟨q, rfl, ⟨?_, (HQ1.out).fr (Fr.setCell w ⟨B, 0, none⟩ _) ?_, by omega, ?_, by omega⟩, Fr.setCell w ⟨B, 0, none⟩ _⟩
  · rw [heap_setCell_same w B 0 _ _ _ H.out.cells]; rfl
  · intro hpos a ha
    obtain ⟨b, hb1, hb2⟩ := HQ3.out a ha
    rw [hb2]
    exact H.out.ne (by omega) b hb1
  · intro e
    have := H.out.nil (HQ2.out.1 e)
    omega
end Go.Proofs.Ytpdgbpoplljpkaa
