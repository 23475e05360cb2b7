/- Sets of rows as functions to Bool: their words, counts, bytes: plain Lean. -/
import Derived.Test.YtcgfheagbaafoaaDoorCount
namespace Go.Proofs.YtcgfheagbaafoaaDoor.Sets
set_option linter.unusedVariables false
set_option linter.unusedSimpArgs false
open Go.RowKit Go.Proofs.YtcgfheagbaafoaaDoorW.PrintWords Go.Proofs.YtcgfheagbaafoaaDoor.Lib Go.Proofs.YtcgfheagbaafoaaDoor.Pack

/-- the number of the first so many bits -/
def ofb (f : Nat → Bool) : Nat → Nat
  | 0 => 0
  | j + 1 => ofb f j + if f j then 2 ^ j else 0
theorem ofb_lt (f : Nat → Bool) : ∀ n, ofb f n < 2 ^ n
  | 0 => by simp [ofb]
  | n + 1 => by
    have := ofb_lt f n
    rw [ofb, Nat.pow_succ]
    split <;> omega
theorem ofb_bit (f : Nat → Bool) (j : Nat) : ∀ n, (ofb f n).testBit j = (decide (j < n) && f j)
  | 0 => by simp [ofb]
  | n + 1 => by
    have h := ofb_bit f j n
    have hl := ofb_lt f n
    rw [ofb]
    by_cases hf : f n
    · rw [if_pos hf, Nat.add_comm]
      rcases Nat.lt_trichotomy j n with hj | rfl | hj
      · rw [Nat.testBit_two_pow_add_gt hj, h]; simp [hj, show j < n + 1 by omega]
      · rw [Nat.testBit_two_pow_add_eq, h]; simp [hf]
      · have : 2 ^ n + ofb f n < 2 ^ j := by
          have : 2 ^ (n + 1) ≤ 2 ^ j := Nat.pow_le_pow_right (by decide) hj
          rw [Nat.pow_succ] at this; omega
        rw [Nat.testBit_lt_two_pow this]
        simp [show ¬ j < n + 1 by omega]
    · rw [if_neg hf, Nat.add_zero, h]
      by_cases hj : j = n
      · subst hj; simp [hf]
      · have : decide (j < n) = decide (j < n + 1) := by rw [Bool.eq_iff_iff]; simp; omega
        rw [this]
theorem ofb_eq (f : Nat → Bool) (n x : Nat) (hx : x < 2 ^ n) (h : ∀ j, j < n → x.testBit j = f j) : x = ofb f n := by
  apply Nat.eq_of_testBit_eq
  intro j
  rw [ofb_bit]
  by_cases hj : j < n
  · rw [h j hj]; simp [hj]
  · rw [Nat.testBit_lt_two_pow (Nat.lt_of_lt_of_le hx (Nat.pow_le_pow_right (by decide) (by omega)))]
    simp [hj]
theorem ofb_congr {f g : Nat → Bool} : ∀ n, (∀ j, j < n → f j = g j) → ofb f n = ofb g n
  | 0, _ => rfl
  | n + 1, h => by rw [ofb, ofb, ofb_congr n (fun j hj => h j (by omega)), h n (by omega)]
/-- a set's word -/
def wordF (f : Nat → Bool) (rows k : Nat) : Nat := ofb (fun j => decide (64 * k + j < rows) && f (64 * k + j)) 64
def wordsF (f : Nat → Bool) (rows : Nat) : List Int := (List.range (long64 rows)).map fun k => ((wordF f rows k : Nat) : Int)
theorem wordF_lt (f : Nat → Bool) (rows k : Nat) : wordF f rows k < 18446744073709551616 := ofb_lt _ 64
theorem wordF_bit (f : Nat → Bool) (rows k j : Nat) : (wordF f rows k).testBit j = (decide (j < 64) && (decide (64 * k + j < rows) && f (64 * k + j))) := ofb_bit _ _ _
theorem wordsF_length (f : Nat → Bool) (rows : Nat) : (wordsF f rows).length = long64 rows := by simp [wordsF]
theorem wordsF_get (f : Nat → Bool) (rows k : Nat) (h : k < long64 rows) : (wordsF f rows).getD k 0 = ((wordF f rows k : Nat) : Int) := by
  rw [List.getD_eq_getElem?_getD, List.getElem?_eq_getElem (by rw [wordsF_length]; exact h)]
  simp [wordsF]
theorem wordsF_words (f : Nat → Bool) (rows : Nat) : Words (wordsF f rows) := by
  intro x hx
  simp only [wordsF, List.mem_map] at hx
  obtain ⟨k, _, rfl⟩ := hx
  have := wordF_lt f rows k
  omega
theorem wordsF_eq (f : Nat → Bool) (rows : Nat) (ws : List Int) (hl : ws.length = long64 rows) (h : ∀ k, k < long64 rows → ws.getD k 0 = ((wordF f rows k : Nat) : Int)) : ws = wordsF f rows := by
  apply List.ext_getElem
  · rw [hl, wordsF_length]
  · intro k h1 h2
    have e1 := h k (by omega)
    have e2 := wordsF_get f rows k (by omega)
    rw [List.getD_eq_getElem?_getD, List.getElem?_eq_getElem h1] at e1
    rw [List.getD_eq_getElem?_getD, List.getElem?_eq_getElem h2] at e2
    simp only [Option.getD_some] at e1 e2
    rw [e1, e2]
theorem wordF_congr {f g : Nat → Bool} {rows : Nat} (h : ∀ i, i < rows → f i = g i) (k : Nat) : wordF f rows k = wordF g rows k := by
  refine ofb_congr _ (fun j _ => ?_)
  by_cases hj : 64 * k + j < rows
  · rw [h _ hj]
  · simp [hj]
theorem wordsF_congr {f g : Nat → Bool} {rows : Nat} (h : ∀ i, i < rows → f i = g i) : wordsF f rows = wordsF g rows := by
  unfold wordsF; exact List.map_congr_left (fun k _ => by rw [wordF_congr h])
theorem wordsF_none (rows : Nat) : List.replicate (long64 rows) 0 = wordsF (fun _ => false) rows := by
  refine wordsF_eq _ _ _ (by simp) (fun k hk => ?_)
  have : wordF (fun _ => false) rows k = 0 := by
    apply Nat.eq_of_testBit_eq
    intro j
    rw [wordF_bit]; simp
  rw [this, List.getD_eq_getElem?_getD, List.getElem?_replicate, if_pos hk]; rfl
theorem putrow_is (f : Nat → Bool) (rows r : Nat) (hr : r < rows) : putrow (wordsF f rows) r = wordsF (fun i => f i || i == r) rows := by
  have hq : r / 64 < long64 rows := by unfold long64; omega
  unfold putrow
  refine wordsF_eq _ _ _ (by rw [List.length_set, wordsF_length]) (fun k hk => ?_)
  rw [getD_set, wordsF_get f rows _ hq, Int.toNat_natCast, wordsF_length]
  by_cases hkr : k = r / 64
  · subst hkr
    rw [if_pos ⟨rfl, hq⟩]
    refine congrArg Nat.cast ?_
    refine ofb_eq _ 64 _ (Nat.or_lt_two_pow (wordF_lt f rows _) (Nat.pow_lt_pow_right (by decide) (Nat.mod_lt _ (by decide)))) (fun j hj => ?_)
    rw [Nat.testBit_or, wordF_bit, Nat.testBit_two_pow]
    by_cases hj2 : r % 64 = j
    · subst hj2
      have e : 64 * (r / 64) + r % 64 = r := Nat.div_add_mod r 64
      rw [e]
      simp [hr]
    · have e : (64 * (r / 64) + j == r) = false := by rw [beq_eq_false_iff_ne]; omega
      simp [hj, hj2, e]
  · rw [if_neg (fun h => hkr h.1.symm), wordsF_get f rows k hk]
    refine congrArg Nat.cast ?_
    refine ofb_congr _ (fun j hj => ?_)
    have e : (64 * k + j == r) = false := by rw [beq_eq_false_iff_ne]; omega
    simp [e]

/-! ### how many -/
def cnt (f : Nat → Bool) : Nat → Nat
  | 0 => 0
  | n + 1 => cnt f n + if f n then 1 else 0
theorem cnt_le (f : Nat → Bool) : ∀ n, cnt f n ≤ n
  | 0 => Nat.le_refl _
  | n + 1 => by have := cnt_le f n; rw [cnt]; split <;> omega
theorem cnt_congr {f g : Nat → Bool} : ∀ n, (∀ i, i < n → f i = g i) → cnt f n = cnt g n
  | 0, _ => rfl
  | n + 1, h => by rw [cnt, cnt, cnt_congr n (fun j hj => h j (by omega)), h n (by omega)]
theorem cnt_add (f : Nat → Bool) (a : Nat) : ∀ b, cnt f (a + b) = cnt f a + cnt (fun i => f (a + i)) b
  | 0 => rfl
  | b + 1 => by rw [← Nat.add_assoc, cnt, cnt, cnt_add f a b]; omega
theorem cnt_none {f : Nat → Bool} (n : Nat) (h : ∀ i, i < n → f i = false) : cnt f n = 0 := by
  induction n with
  | zero => rfl
  | succ n ih => rw [cnt, ih (fun i hi => h i (by omega)), h n (by omega)]; rfl
theorem cnt_all {f : Nat → Bool} (n : Nat) (h : ∀ i, i < n → f i = true) : cnt f n = n := by
  induction n with
  | zero => rfl
  | succ n ih => rw [cnt, ih (fun i hi => h i (by omega)), h n (by omega)]; rfl
theorem cnt_not (f : Nat → Bool) (n : Nat) : cnt f n + cnt (fun i => !f i) n = n := by
  induction n with
  | zero => rfl
  | succ n ih => rw [cnt, cnt]; cases f n <;> simp <;> omega
theorem cnt_or_and (f g : Nat → Bool) (n : Nat) : cnt (fun i => f i && g i) n + cnt (fun i => f i || g i) n = cnt f n + cnt g n := by
  induction n with
  | zero => rfl
  | succ n ih => rw [cnt, cnt, cnt, cnt]; cases f n <;> cases g n <;> simp <;> omega
theorem cnt_head (f : Nat → Bool) : ∀ n, cnt f (n + 1) = (if f 0 then 1 else 0) + cnt (fun i => f (i + 1)) n
  | 0 => by simp [cnt]
  | n + 1 => by rw [cnt, cnt_head f n, cnt]; omega
theorem pop_cnt : ∀ n x, Lib.popAux n x = cnt (fun j => x.testBit j) n
  | 0, _ => rfl
  | n + 1, x => by
    have e1 : (if x.testBit 0 then 1 else 0) = x % 2 := by
      rw [Nat.testBit_zero]
      rcases Nat.mod_two_eq_zero_or_one x with h | h <;> simp [h]
    have e2 : cnt (fun j => x.testBit (j + 1)) n = cnt (fun j => (x / 2).testBit j) n := cnt_congr _ (fun j _ => by rw [Nat.testBit_succ])
    rw [cnt_head, Lib.popAux, pop_cnt n (x / 2), e1, e2]
theorem count_range (g : Nat → Nat) : ∀ n, count ((List.range n).map fun k => ((g k : Nat) : Int)) = ((List.range n).map fun k => Lib.onesCount (g k)).sum
  | 0 => rfl
  | n + 1 => by
    rw [List.range_succ, List.map_append, count_append, count_range g n, List.map_append, List.sum_append]
    simp only [List.map_cons, List.map_nil, count, Int.toNat_natCast, List.sum_cons, List.sum_nil]
theorem cnt_words (F : Nat → Bool) : ∀ n, ((List.range n).map fun k => cnt (fun j => F (64 * k + j)) 64).sum = cnt F (64 * n)
  | 0 => rfl
  | n + 1 => by
    rw [List.range_succ, List.map_append, List.sum_append, cnt_words F n, Nat.mul_succ, cnt_add]
    simp
theorem word_count (f : Nat → Bool) (rows k : Nat) : Lib.onesCount (wordF f rows k) = cnt (fun j => (decide (64 * k + j < rows) && f (64 * k + j))) 64 := by
  have h : ∀ n, n ≤ 64 → cnt (fun j => (wordF f rows k).testBit j) n = cnt (fun j => (decide (64 * k + j < rows) && f (64 * k + j))) n := fun n hn => cnt_congr n (fun j hj => by
    rw [wordF_bit, decide_eq_true (show j < 64 by omega), Bool.true_and])
  exact (pop_cnt 64 _).trans (h 64 (Nat.le_refl _))
theorem count_is (f : Nat → Bool) (rows : Nat) : count (wordsF f rows) = cnt f rows := by
  have h1 : count (wordsF f rows) = ((List.range (long64 rows)).map fun k => Lib.onesCount (wordF f rows k)).sum := count_range _ _
  have h2 : ((List.range (long64 rows)).map fun k => Lib.onesCount (wordF f rows k)) = (List.range (long64 rows)).map fun k => cnt (fun j => (decide (64 * k + j < rows) && f (64 * k + j))) 64 :=
    List.map_congr_left (fun k _ => word_count f rows k)
  have h3 := cnt_words (fun i => decide (i < rows) && f i) (long64 rows)
  rw [h1, h2]
  refine h3.trans ?_
  obtain ⟨d, hd⟩ : ∃ d, 64 * long64 rows = rows + d := ⟨64 * long64 rows - rows, by unfold long64; omega⟩
  rw [hd, cnt_add, cnt_none d (fun i _ => by show (decide (rows + i < rows) && f (rows + i)) = false; rw [decide_eq_false (by omega)]; rfl), Nat.add_zero]
  exact cnt_congr _ (fun i hi => by simp [hi])

/-! ### bytes -/
def byteF (f : Nat → Bool) (rows i : Nat) : Nat := ofb (fun j => decide (8 * i + j < rows) && f (8 * i + j)) 8
def bytesF (f : Nat → Bool) (rows : Nat) : List Int := (List.range (long rows)).map fun i => ((byteF f rows i : Nat) : Int)
theorem byts_is (f : Nat → Bool) (rows : Nat) : byts (wordsF f rows) (long rows) = bytesF f rows := by
  unfold byts bytesF
  refine List.map_congr_left (fun i hi => ?_)
  rw [List.mem_range] at hi
  have hq : i / 8 < long64 rows := by unfold long at hi; unfold long64; omega
  unfold byteAt
  rw [wordsF_get f rows _ hq, Int.toNat_natCast]
  refine congrArg Nat.cast ?_
  refine ofb_eq _ 8 _ (Nat.mod_lt _ (by decide)) (fun j hj => ?_)
  have e2 : (256 : Nat) = 2 ^ 8 := by decide
  rw [e2, Nat.testBit_mod_two_pow, Nat.testBit_div_two_pow, wordF_bit]
  have e : 64 * (i / 8) + (i % 8 * 8 + j) = 8 * i + j := by omega
  have e3 : i % 8 * 8 + j < 64 := by omega
  simp only [Nat.add_comm j] at *
  rw [e]
  simp [hj, e3]
theorem bytesF_congr {f g : Nat → Bool} {rows : Nat} (h : ∀ i, i < rows → f i = g i) : bytesF f rows = bytesF g rows := by
  unfold bytesF
  refine List.map_congr_left (fun k _ => congrArg Nat.cast ?_)
  refine ofb_congr _ (fun j _ => ?_)
  by_cases hj : 8 * k + j < rows
  · rw [h _ hj]
  · simp [hj]
theorem bytesF_length (f : Nat → Bool) (rows : Nat) : (bytesF f rows).length = long rows := by simp [bytesF]
theorem bytesF_bytes (f : Nat → Bool) (rows : Nat) : Bytes (bytesF f rows) := by rw [← byts_is]; exact byts_bytes _ _
end Go.Proofs.YtcgfheagbaafoaaDoor.Sets
