/- Numbers packed in so many bits each: plain Lean, no program in sight. -/
import Derived.Test.YtcgfheagbaafoaaDoorLib
namespace Go.Proofs.YtcgfheagbaafoaaDoor.Pack
set_option linter.unusedVariables false
set_option linter.unusedSimpArgs false
open Go.RowKit Go.Proofs.YtcgfheagbaafoaaDoorW.PrintWords Go.Proofs.YtcgfheagbaafoaaDoor.Lib

/-- Bit k of bytes. -/
def bit (xs : List Int) (k : Nat) : Nat := (xs.getD (k / 8) 0).toNat / 2 ^ (k % 8) % 2
/-- Bit i of numbers of w bits each. -/
def bitAt (l : List Int) (w i : Nat) : Nat := (l.getD (i / w) 0).toNat / 2 ^ (i % w) % 2
theorem bit_lt (xs : List Int) (k : Nat) : bit xs k < 2 := Nat.mod_lt _ (by decide)
theorem bitAt_lt (l : List Int) (w i : Nat) : bitAt l w i < 2 := Nat.mod_lt _ (by decide)
theorem bitAt_at (l : List Int) (w k j : Nat) (hj : j < w) : bitAt l w (w * k + j) = (l.getD k 0).toNat / 2 ^ j % 2 := by
  unfold bitAt
  rw [Nat.mul_add_div (by omega), Nat.mul_add_mod, Nat.div_eq_of_lt hj, Nat.mod_eq_of_lt hj, Nat.add_zero]
def putbit (out : List Int) (i b : Nat) : List Int := out.set (i / 8) (out.getD (i / 8) 0 + ((b * 2 ^ (i % 8) : Nat) : Int))
def outAt (f : Nat → Nat) (n : Nat) : Nat → List Int
  | 0 => List.replicate n 0
  | i + 1 => putbit (outAt f n i) i (f i)
theorem putbit_length (out : List Int) (i b : Nat) : (putbit out i b).length = out.length := by simp [putbit]
theorem outAt_length (f : Nat → Nat) (n : Nat) : ∀ i, (outAt f n i).length = n
  | 0 => by simp [outAt]
  | i + 1 => by rw [outAt, putbit_length, outAt_length f n i]
theorem getD_set (l : List Int) (i j : Nat) (v : Int) : (l.set i v).getD j 0 = if i = j ∧ j < l.length then v else l.getD j 0 := by
  rw [List.getD_eq_getElem?_getD, List.getElem?_set]
  by_cases h : i = j
  · subst h
    by_cases h2 : i < l.length
    · simp [h2]
    · simp [h2]
  · simp [h]
/-- What isn't reached yet is 0. -/
theorem outAt_fresh (f : Nat → Nat) (hf : ∀ i, f i < 2) (n : Nat) : ∀ i q, 0 ≤ (outAt f n i).getD q 0 ∧ (outAt f n i).getD q 0 < ((2 ^ (min 8 (i - 8 * q)) : Nat) : Int)
  | 0, q => by
    have : (outAt f n 0).getD q 0 = 0 := by
      unfold outAt
      rw [List.getD_eq_getElem?_getD]
      by_cases h : q < n
      · rw [List.getElem?_eq_getElem (by simpa using h)]; simp
      · rw [List.getElem?_eq_none (by simp; omega)]; rfl
    rw [this]; simp
  | i + 1, q => by
    obtain ⟨h0, h1⟩ := outAt_fresh f hf n i q
    unfold outAt putbit
    rw [getD_set]
    have mono : 2 ^ (min 8 (i - 8 * q)) ≤ 2 ^ (min 8 (i + 1 - 8 * q)) := Nat.pow_le_pow_right (by decide) (by omega)
    split
    · rename_i h
      obtain ⟨h, _⟩ := h
      rw [h]
      have e : min 8 (i - 8 * q) = i % 8 := by omega
      have e2 : min 8 (i + 1 - 8 * q) = i % 8 + 1 := by omega
      rw [e] at h1
      rw [e2, Nat.pow_succ]
      have h3 := hf i
      have h4 : f i * 2 ^ (i % 8) ≤ 1 * 2 ^ (i % 8) := Nat.mul_le_mul_right _ (by omega)
      generalize f i * 2 ^ (i % 8) = z at *
      generalize 2 ^ (i % 8) = y at *
      omega
    · omega
theorem outAt_bytes (f : Nat → Nat) (hf : ∀ i, f i < 2) (n i : Nat) : Bytes (outAt f n i) := by
  intro x hx
  obtain ⟨q, hq, rfl⟩ := List.getElem_of_mem hx
  have h := outAt_fresh f hf n i q
  rw [List.getD_eq_getElem?_getD, List.getElem?_eq_getElem hq] at h
  have h2 : 2 ^ (min 8 (i - 8 * q)) ≤ 2 ^ 8 := Nat.pow_le_pow_right (by decide) (by omega)
  simp only [Option.getD_some] at h
  omega
theorem putbit_bit (out : List Int) (i b k : Nat) (hb : b < 2) (hi : i / 8 < out.length) (h0 : 0 ≤ out.getD (i / 8) 0) (h1 : out.getD (i / 8) 0 < ((2 ^ (i % 8) : Nat) : Int)) :
    bit (putbit out i b) k = if k = i then b else bit out k := by
  unfold bit putbit
  rw [getD_set]
  by_cases hk : i / 8 = k / 8
  · rw [if_pos ⟨hk, by omega⟩, ← hk]
    obtain ⟨m, hm⟩ := Int.eq_ofNat_of_zero_le h0
    rw [hm] at h1 ⊢
    have h1' : m < 2 ^ (i % 8) := by omega
    have e : ((m : Int) + ((b * 2 ^ (i % 8) : Nat) : Int)).toNat = 2 ^ (i % 8) * b + m := by rw [Nat.mul_comm b]; omega
    rw [e, Int.toNat_natCast, ← Nat.toNat_testBit, ← Nat.toNat_testBit, Nat.testBit_two_pow_mul_add _ h1']
    by_cases hki : k = i
    · rw [if_pos hki, hki, if_neg (Nat.lt_irrefl _), Nat.sub_self]
      have : b = 0 ∨ b = 1 := by omega
      rcases this with rfl | rfl <;> simp
    · rw [if_neg hki]
      by_cases hlt : k % 8 < i % 8
      · rw [if_pos hlt]
      · rw [if_neg hlt]
        have h2 : m.testBit (k % 8) = false := Nat.testBit_lt_two_pow (Nat.lt_of_lt_of_le h1' (Nat.pow_le_pow_right (by decide) (by omega)))
        have h3 : b.testBit (k % 8 - i % 8) = false := Nat.testBit_lt_two_pow (Nat.lt_of_lt_of_le hb (by
          have : 2 ^ 1 ≤ 2 ^ (k % 8 - i % 8) := Nat.pow_le_pow_right (by decide) (by omega)
          simpa using this))
        rw [h2, h3]
  · rw [if_neg (fun h => hk h.1), if_neg (by rintro rfl; exact hk rfl)]
theorem outAt_bit (f : Nat → Nat) (hf : ∀ i, f i < 2) (n k : Nat) : ∀ i, i ≤ 8 * n → bit (outAt f n i) k = if k < i then f k else 0
  | 0, _ => by
    rw [if_neg (by omega)]
    have h := outAt_fresh f hf n 0 (k / 8)
    have e : (outAt f n 0).getD (k / 8) 0 = 0 := by
      have : min 8 (0 - 8 * (k / 8)) = 0 := by omega
      rw [this] at h
      omega
    unfold bit
    rw [e]; simp
  | i + 1, h => by
    have hfr := outAt_fresh f hf n i (i / 8)
    rw [show min 8 (i - 8 * (i / 8)) = i % 8 by omega] at hfr
    rw [outAt, putbit_bit _ _ _ _ (hf i) (by rw [outAt_length]; omega) hfr.1 hfr.2, outAt_bit f hf n k i (by omega)]
    by_cases hk : k = i
    · subst hk; rw [if_pos rfl, if_pos (by omega)]
    · rw [if_neg hk]
      by_cases hlt : k < i
      · rw [if_pos hlt, if_pos (by omega)]
      · rw [if_neg hlt, if_neg (by omega)]
def long (n : Nat) : Nat := (n + 7) / 8
theorem long_le (n : Nat) : n ≤ 8 * long n := by unfold long; omega
/-- The packed bytes. -/
def packed (l : List Int) (w : Nat) : List Int := outAt (bitAt l w) (long (w * l.length)) (w * l.length)
def fits (l : List Int) (w : Nat) : Prop := ∀ n ∈ l, 0 ≤ n ∧ n < ((2 ^ w : Nat) : Int)

/-! ### in the walk's spelling -/
theorem or_bit (c b j : Nat) (hb : b < 2) (hc : c < 2 ^ (j % 8)) : bits .or .u8 (c : Int) (((b * 2 ^ (j % 8) : Nat) : Int)) = ((c + b * 2 ^ (j % 8) : Nat) : Int) := by
  have h8 : 2 ^ (j % 8) ≤ 2 ^ 7 := Nat.pow_le_pow_right (by decide) (by omega)
  have hz : b * 2 ^ (j % 8) ≤ 1 * 2 ^ (j % 8) := Nat.mul_le_mul_right _ (by omega)
  have h := (bits_nat .u8 8 (by decide) wraps_u8 c (b * 2 ^ (j % 8)) (by omega) (by omega)).2
  rw [h]
  congr 1
  rw [Nat.mul_comm b, Nat.or_comm, ← Nat.two_pow_add_eq_or_of_lt hc b, Nat.add_comm]
theorem and1_i64 (a : Nat) (ha : a < 9223372036854775808) : bits .and .i64 a 1 = ((a % 2 : Nat) : Int) := by
  have h := bits_mask .i64 63 (by decide) wraps_i64 1 (by decide) a (by omega) (by omega)
  have e : (2 : Int) ^ 1 - 1 = 1 := by decide
  rw [e] at h
  rw [h]; omega
theorem bit_test64 (m i : Nat) (hm : m < 9223372036854775808) : bits .and .i64 ((m : Int) / 2 ^ i) 1 = ((m / 2 ^ i % 2 : Nat) : Int) := by
  have e1 : (m : Int) / 2 ^ i = ((m / 2 ^ i : Nat) : Int) := by simp
  have hq : m / 2 ^ i ≤ m := Nat.div_le_self _ _
  rw [e1]
  exact and1_i64 _ (by omega)
theorem shl_bit (b j : Nat) (hb : b < 2) : (b : Int) * 2 ^ (j % 8) % 256 = ((b * 2 ^ (j % 8) : Nat) : Int) := by
  have h : 2 ^ (j % 8) < 2 ^ 8 := Nat.pow_lt_pow_right (by decide) (Nat.mod_lt _ (by decide))
  have e1 : (b : Int) * 2 ^ (j % 8) = ((b * 2 ^ (j % 8) : Nat) : Int) := by simp
  rw [e1]
  have hz : b * 2 ^ (j % 8) ≤ 1 * 2 ^ (j % 8) := Nat.mul_le_mul_right _ (by omega)
  omega
theorem div8_w (i : Nat) (h : i ≤ 4611686018427387904) : wrap64 ((i : Int) / 8) = ((i / 8 : Nat) : Int) := by
  rw [show (i : Int) / 8 = ((i / 8 : Nat) : Int) by omega]
  exact IntWalk.wrap64_in _ (by omega)
theorem mod8_w (i : Nat) (h : i ≤ 4611686018427387904) : wrap64 ((i : Int) % 8) = ((i % 8 : Nat) : Int) := by
  rw [show (i : Int) % 8 = ((i % 8 : Nat) : Int) by omega]
  exact IntWalk.wrap64_in _ (by omega)
theorem tmod8_w (i : Nat) : (i : Int).tmod 8 = ((i % 8 : Nat) : Int) := by
  rw [Int.tmod_eq_emod_of_nonneg (by omega)]; omega
theorem u8_bit (b : Nat) (h : b < 2) : IntKind.u8.wrap (b : Int) = (b : Int) := by rw [IntKind.wrap_u8]; omega
theorem pow_w (w : Nat) (h : w ≤ 32) : wrap64 ((2 : Int) ^ w) = ((2 ^ w : Nat) : Int) := by
  have h2 : 2 ^ w ≤ 2 ^ 32 := Nat.pow_le_pow_right (by decide) h
  have e : (2 : Int) ^ w = ((2 ^ w : Nat) : Int) := by simp
  rw [e]
  generalize 2 ^ w = p at *
  exact IntWalk.wrap64_in _ (by omega)
end Go.Proofs.YtcgfheagbaafoaaDoor.Pack
