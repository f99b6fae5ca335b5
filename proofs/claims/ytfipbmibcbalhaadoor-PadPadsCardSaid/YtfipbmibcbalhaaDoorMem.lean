/- Small laws on slices of bytes and on worlds, for the walks of this seat. Nothing here speaks of the program. -/
import Derived.WalkKit
import Derived.WalkSpells
import Derived.WalkLawsBesides
import Derived.Laws.CopyOwn
import Derived.Lib.Hide
import Derived.OpenShut
import Derived.Laws.BytesArg
namespace Go.Proofs.YtfipbmibcbalhaaDoor
open Go.RowKit
set_option linter.unusedVariables false
set_option linter.unusedSimpArgs false

/-- A slice's n bytes are the numbers xs. -/
structure Src (w : World) (p : Option Addr) (n : Nat) (xs : List Int) : Prop where
  len : xs.length = n
  rng : ∀ x ∈ xs, 0 ≤ x ∧ x ≤ 255
  mem : 0 < n → ∃ b o, p = some ⟨b, o, none⟩ ∧ ∀ i, i < n → w.cell? ⟨b, o + i, none⟩ = some (.int .u8 (xs.getD i 0))

theorem Src.lt {w : World} {p : Option Addr} {n : Nat} {xs : List Int} (h : Src w p n xs) (hn : 0 < n) : ∀ a, p = some a → a.block < w.heap.size := by
  obtain ⟨b, o, rfl, hc⟩ := h.mem hn
  intro a ha
  obtain rfl := Option.some.inj ha
  exact block_lt_of_cell (hc 0 hn)
theorem Src.below {w w' : World} {p : Option Addr} {n : Nat} {xs : List Int} (h : Src w p n xs) (hb : Below w.heap.size w w') : Src w' p n xs := by
  refine ⟨h.len, h.rng, fun hn => ?_⟩
  obtain ⟨b, o, rfl, hc⟩ := h.mem hn
  have hl := h.lt hn _ rfl
  exact ⟨b, o, rfl, fun i hi => (hb.cell (p := ⟨b, o + i, none⟩) hl).trans (hc i hi)⟩
/-- The cells of a source, as the laws on copy and append ask them. -/
theorem Src.srcCells {w : World} {p : Option Addr} {n : Nat} {xs : List Int} (h : Src w p n xs) (w' : World) (hb : Below w.heap.size w w') :
    0 < (xs.map (Value.int .u8)).length → ∃ ad, p = some ad ∧ ∀ j v, (xs.map (Value.int .u8))[j]? = some v → w'.cell? (ad.add j) = some v := by
  intro hn
  have h' := h.below hb
  obtain ⟨b, o, hp, hc⟩ := h'.mem (by rw [← h.len]; simpa using hn)
  refine ⟨_, hp, fun j v hj => ?_⟩
  have hjl : j < n := by
    have := (List.getElem?_eq_some_iff.1 hj).1
    rw [← h.len]; simpa using this
  rw [Addr.add_lit, hc j hjl]
  have : xs[j]? = some (xs.getD j 0) := by simp [List.getD, h.len, hjl]
  simp only [List.getElem?_map, this, Option.map_some] at hj
  exact hj
theorem Src.nil (w : World) (p : Option Addr) : Src w p 0 [] := ⟨rfl, by simp, fun h => absurd h (Nat.lt_irrefl 0)⟩
theorem Src.take {w : World} {p : Option Addr} {n : Nat} {xs : List Int} (h : Src w p n xs) (k : Nat) (hk : k ≤ n) : Src w p k (xs.take k) := by
  refine ⟨by simp [h.len]; omega, fun x hx => h.rng x (List.mem_of_mem_take hx), fun hn => ?_⟩
  obtain ⟨b, o, rfl, hc⟩ := h.mem (by omega)
  refine ⟨b, o, rfl, fun i hi => ?_⟩
  rw [hc i (by omega)]
  simp [List.getD, List.getElem?_take, hi]
/-- What a row's opening of a slice of bytes hands over. -/
theorem Src.of_row {w : World} {a : Addr} {n c : Nat} {zs : List Int} (hl : n ≤ c) (hz : zs.length = c) (hc : ∀ i, i < zs.length → w.cell? (a.add i) = some (.int .u8 (zs.getD i 0)))
    (hw : ∀ x ∈ zs, (Lit.int .u8 x).wf = true) : Src w (some a) n (zs.take n) := by
  refine ⟨by simp; omega, fun x hx => bounds_u8 (hw x (List.mem_of_mem_take hx)), fun hn => ?_⟩
  obtain ⟨b, o, s⟩ := a
  obtain rfl : s = none := by simpa [Addr.add] using World.cell?_spot (hc 0 (by omega))
  refine ⟨b, o, rfl, fun i hi => ?_⟩
  have h := hc i (by omega)
  rw [Addr.add_lit] at h
  rw [h]
  simp [List.getD, List.getElem?_take, hi]

/-- What a frame tells the walk of a slice of integers that came in: it is nil; or it leads to a row of cap cells, the numbers zs (the first len are its elements). -/
def IsRow (k : IntKind) (w : World) (a : Option Addr) (len cap : Nat) (zs : List Int) : Prop :=
  (a = none ∧ len = 0 ∧ cap = 0 ∧ zs = []) ∨
  ∃ x, a = some x ∧ len ≤ cap ∧ cap ≤ maxLen ∧ zs.length = cap ∧ (∀ i, i < zs.length → w.cell? (x.add i) = some (.int k (zs.getD i 0))) ∧ ∀ n ∈ zs, (Lit.int k n).wf = true
theorem IsRow.src {w : World} {a : Option Addr} {n c : Nat} {zs : List Int} (h : IsRow .u8 w a n c zs) : Src w a n (zs.take n) ∧ n ≤ c ∧ c ≤ 9223372036854775807 ∧ (a = none → c = 0) := by
  rcases h with ⟨rfl, rfl, rfl, rfl⟩ | ⟨x, rfl, h1, h2, h3, h4, h5⟩
  · exact ⟨Src.nil _ _, by omega, by omega, fun _ => rfl⟩
  · exact ⟨Src.of_row h1 h3 h4 h5, h1, by simpa [maxLen] using h2, fun h => by cases h⟩

/-- string(b). -/
theorem Src.convert {P : Program} {w : World} {p : Option Addr} {n : Nat} {xs : List Int} (h : Src w p n xs) (c : Nat) (src e dst : TypeId)
    (hs : P.underlying src = some (.slice e)) (he : P.underlying e = some (.int .u8)) (hd : P.underlying dst = some .string) :
    (convert src dst (.slice p n c)).run P w = .ok (.string (strOfNums xs)) w := by
  rcases Nat.eq_zero_or_pos n with hn | hn
  · subst hn
    obtain rfl : xs = [] := List.eq_nil_of_length_eq_zero h.len
    cases p with
    | none => exact run_convert_bytes_nil (P := P) w src e hs he 0 c dst hd
    | some a => 
      rw [run_convert_bytes_string (P := P) w src dst e (some a) 0 c hs he hd]
      simp [Conv.bytesToString, loadCells]
      rfl
  · obtain ⟨b, o, rfl, hc⟩ := h.mem hn
    exact run_convert_bytes_arg (P := P) w src e hs he b o n c xs h.len hc dst hd

theorem strOf_inj {xs ys : List Int} (hx : ∀ x ∈ xs, 0 ≤ x ∧ x ≤ 255) (hy : ∀ x ∈ ys, 0 ≤ x ∧ x ≤ 255) : strOfNums xs = strOfNums ys ↔ xs = ys := by
  constructor
  · intro h
    have h1 : (strOfNums xs).data.toList = (strOfNums ys).data.toList := by rw [h]
    rw [strOfNums_data, strOfNums_data] at h1
    have hl : xs.length = ys.length := by simpa using congrArg List.length h1
    apply List.ext_getElem hl
    intro i h2 h3
    have e := congrArg (fun l => l[i]?) h1
    simp [h2, h3] at e
    have a := hx _ (List.getElem_mem h2)
    have b := hy _ (List.getElem_mem h3)
    have e' := congrArg UInt8.toNat e
    simp at e'
    omega
  · rintro rfl; rfl

theorem strOf_beq {xs ys : List Int} (hx : ∀ x ∈ xs, 0 ≤ x ∧ x ≤ 255) (hy : ∀ x ∈ ys, 0 ≤ x ∧ x ≤ 255) : ((strOfNums xs).toList == (strOfNums ys).toList) = decide (xs = ys) := by
  rw [Bool.eq_iff_iff, beq_iff_eq, decide_eq_true_eq, ByteArray.toList_eq, ByteArray.toList_eq, ← strOf_inj hx hy]
  constructor
  · intro h
    cases h1 : strOfNums xs with | mk d1 => cases h2 : strOfNums ys with | mk d2 =>
    rw [h1, h2] at h
    exact congrArg ByteArray.mk (Array.toList_inj.1 h)
  · rintro h; rw [h]
theorem toList_madeCells (z : Value) (n : Nat) : madeCells #[z] n = (List.replicate n z).toArray := by
  rw [← toList_madeCells_one z n]

theorem setRow_alloc_new (w : World) (c c' : Array Value) (t : TypeId) : (w.alloc (.cells c t)).setRow w.heap.size c' = w.alloc (.cells c' t) := by
  simp only [World.setRow, World.alloc]
  congr 1
  apply Array.ext_getElem?
  intro i
  simp only [Array.getElem?_modify, Array.getElem?_push]
  split <;> rename_i h
  · rw [if_pos h.symm, if_pos h.symm]; rfl
  · rw [if_neg (Ne.symm h), if_neg (Ne.symm h)]

/-- 'make([]T, n)' of one-cell elements: the new block's cells are an array of the prover's naming. -/
theorem wpList_make_named {P : Program} (w : World) {ops : Array Oper} {rest : List Oper} {o : Oper} {a : Act} {Q : Exit → Act → World → Prop}
    (hg : o.guard = none) (l c : Operand) (t : TypeId) (hop : o.op = Op.makeSlice t l c) (e : TypeId) (z : Value) (bytes : Nat)
    (h1 : P.underlying t = some (.slice e)) (hi : (P.info? e).map (fun i => (i.zero, i.size, i.bytes)) = some (some z, 1, bytes)) (hz : z.cells = #[z])
    (kl kc : IntKind) (L C : Int) (n : Nat) (hl : a.eval l = .int kl L) (hc : a.eval c = .int kc C) (hL : L = (n : Int)) (hC : C = (n : Int)) (b2 : bytes * n ≤ 281474976710656) (b3 : n ≤ maxLen)
    (A : Array Value) (hA : A.toList = List.replicate n z)
    (hK : wpList P ops Q rest (a.put o.dst (.slice (some ⟨w.heap.size, 0, none⟩) n n)) (w.alloc (.cells A e))) :
    wpList P ops Q (o :: rest) a w := by
  obtain ⟨i, hi1, hi2, hi3, hi4⟩ := info_parts hi
  have h63 : (n : Int) ≤ 9223372036854775807 := by
    have h := b3
    simp [maxLen] at h
    omega
  have hb : (i.bytes : Int) * (n : Int) ≤ 281474976710656 := by
    have h : ((i.bytes * n : Nat) : Int) ≤ 281474976710656 := by rw [hi4]; omega
    rwa [Int.natCast_mul] at h
  have hr := run_make (P := P) w t e i z h1 hi1 hi2 kl kc n n (by omega) (Int.le_refl _) hb h63
  have hA' : (List.replicate n z).toArray = A := by rw [← hA]
  simp only [Int.toNat_natCast, hi3, Nat.mul_one, hz, toList_madeCells, hA'] at hr
  refine wpList_plain hg fun K hK' => ?_
  subst hL
  subst hC
  unfold Oper.wp
  simp only [execOp, hop, hl, hc, hr, Result.andThen, Sem.run_bind]
  exact hK' _ _ hK

/-- 'copy' into a block that was just made: the block's new cells are an array of the prover's naming. -/
theorem wpList_copy_named {P : Program} {w0 : World} {ops : Array Oper} {rest : List Oper} {o : Oper} {a : Act} {Q : Exit → Act → World → Prop} (hgd : o.guard = none) (d s : Operand) (dT sT : TypeId)
    (ho : o.op = .call { callee := .builtin .copy, args := #[d, s], argTypes := #[dT, sT] }) (elem : TypeId) (hu : P.underlying dT = some (.slice elem)) (hsz : (P.info? elem).map (·.size) = some 1)
    (dp sp : Option Addr) (dLen dCap sLen sCap : Nat) (hd : a.eval d = .slice dp dLen dCap) (hs : a.eval s = .slice sp sLen sCap)
    (off : Nat) (cur : Array Value) (t : TypeId) (cs : List Value) (hn : cs.length = Nat.min sLen dLen)
    (hpos : 0 < cs.length → dp = some ⟨w0.heap.size, off, none⟩ ∧ ∃ ad, sp = some ad ∧ ∀ j v, cs[j]? = some v → (w0.alloc (.cells cur t)).cell? (ad.add j) = some v)
    (hfit : off + cs.length ≤ cur.size) (h1 : ∀ v ∈ cs, v.oneCell' = true) (new : Array Value) (hnew : new.toList = splice cur.toList off cs)
    (h : wpList P ops Q rest (a.put o.dst (goInt cs.length)) (w0.alloc (.cells new t))) :
    wpList P ops Q (o :: rest) a (w0.alloc (.cells cur t)) := by
  have hg := heap_alloc_new w0 (.cells cur t)
  by_cases h0 : cs.length = 0
  · obtain rfl : cs = [] := List.eq_nil_of_length_eq_zero h0
    refine wpList_copy_nothing hgd d s dT sT ho elem hu hsz dp sp dLen dCap sLen sCap hd hs (by simpa using hn.symm) ?_
    obtain rfl : new = cur := by
      apply Array.toList_inj.1
      rw [hnew]; simp [splice]
    exact h
  · obtain ⟨rfl, ad, rfl, hsrc⟩ := hpos (by omega)
    refine wpList_copy_own hgd d s dT sT ho elem hu hsz _ off dLen dCap ad sLen sCap hd hs cur t hg cs hn hsrc hfit h1 ?_
    have e : (cur.toList.take off ++ (cs ++ cur.toList.drop (off + cs.length))).toArray = new := by
      apply Array.toList_inj.1
      rw [hnew]; rfl
    rw [e, setRow_alloc_new]
    exact h

theorem bcell {W w1 : World} (hb : Below W.heap.size W w1) : (∀ b o, b < W.heap.size → w1.cell? ⟨b, o, none⟩ = W.cell? ⟨b, o, none⟩) ∧ (∀ b o, b < W.heap.size → w1.frozen? ⟨b, o, none⟩ = W.frozen? ⟨b, o, none⟩) :=
  ⟨fun b o h => hb.cell (p := ⟨b, o, none⟩) h, fun b o h => hb.frozen (p := ⟨b, o, none⟩) h⟩
theorem below_alloc (w : World) (o : Obj) : Below w.heap.size w (w.alloc o) := (Below.refl _ _).alloc (Nat.le_refl _) _
end Go.Proofs.YtfipbmibcbalhaaDoor
