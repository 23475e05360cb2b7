/- Numbers unpacked: plain Lean. -/
import Derived.Test.YtcgfheagbaafoaaDoorPack
namespace Go.Proofs.YtcgfheagbaafoaaDoor.Pack
set_option linter.unusedVariables false
set_option linter.unusedSimpArgs false
open Go.RowKit Go.Proofs.YtcgfheagbaafoaaDoorW.PrintWords Go.Proofs.YtcgfheagbaafoaaDoor.Lib

/-- The bits behind so many are 0. -/
def Tidy (b : List Int) (n : Nat) : Prop := ∀ i, n ≤ i → i < 8 * b.length → bit b i = 0
theorem clean_even (b : List Int) (n : Nat) (hl : b.length = long n) (h : n % 8 = 0) : Tidy b n := by
  intro i h1 h2
  unfold long at hl
  omega
theorem clean_byte (b : List Int) (n : Nat) (hb : Bytes b) (hl : b.length = long n) (h : n % 8 ≠ 0) :
    Tidy b n ↔ (b.getD (b.length - 1) 0).toNat / 2 ^ (n % 8) = 0 := by
  have hn : b.length - 1 = n / 8 := by unfold long at hl; omega
  have hlen : b.length = n / 8 + 1 := by unfold long at hl; omega
  have hc := hb.getD (n / 8)
  rw [hn]
  constructor
  · intro hC
    apply Nat.div_eq_of_lt
    apply Nat.lt_pow_two_of_testBit
    intro q hq
    by_cases hq8 : q < 8
    · have h1 := hC (8 * (n / 8) + q) (by omega) (by omega)
      unfold bit at h1
      rw [show (8 * (n / 8) + q) / 8 = n / 8 by omega, show (8 * (n / 8) + q) % 8 = q by omega, ← Nat.toNat_testBit] at h1
      cases ht : (b.getD (n / 8) 0).toNat.testBit q
      · rfl
      · rw [ht] at h1; simp at h1
    · exact Nat.testBit_lt_two_pow (Nat.lt_of_lt_of_le (show (b.getD (n / 8) 0).toNat < 2 ^ 8 by omega) (Nat.pow_le_pow_right (by decide) (by omega)))
  · intro h0 i h1 h2
    unfold bit
    have hi : i / 8 = n / 8 := by omega
    rw [hi]
    have hlt : (b.getD (n / 8) 0).toNat < 2 ^ (n % 8) := by
      rw [Nat.div_eq_zero_iff] at h0
      rcases h0 with h0 | h0
      · have : 0 < 2 ^ (n % 8) := Nat.pow_pos (by decide); omega
      · exact h0
    rw [Nat.div_eq_of_lt (Nat.lt_of_lt_of_le hlt (Nat.pow_le_pow_right (by decide) (by omega)))]
/-- The first j bits behind 'at'. -/
def low (b : List Int) (a : Nat) : Nat → Nat
  | 0 => 0
  | j + 1 => low b a j + bit b (a + j) * 2 ^ j
theorem low_lt (b : List Int) (a : Nat) : ∀ j, low b a j < 2 ^ j
  | 0 => by simp [low]
  | j + 1 => by
    have h := low_lt b a j
    have h2 : bit b (a + j) * 2 ^ j ≤ 1 * 2 ^ j := Nat.mul_le_mul_right _ (by have := bit_lt b (a + j); omega)
    rw [low, Nat.pow_succ]
    omega
def numAt (b : List Int) (w k : Nat) : Int := ((low b (w * k) w : Nat) : Int)
/-- The first k of so many numbers. -/
def unpk (b : List Int) (w k : Nat) : List Int := (List.range k).map (numAt b w)
theorem unpk_length (b : List Int) (w k : Nat) : (unpk b w k).length = k := by simp [unpk]
theorem unpk_succ (b : List Int) (w k : Nat) : unpk b w (k + 1) = unpk b w k ++ [numAt b w k] := by simp [unpk, List.range_succ]
theorem or_low (c b j : Nat) (hb : b < 2) (hc : c < 2 ^ j) (hj : j < 32) : bits .or .i64 (c : Int) (((b * 2 ^ j : Nat) : Int)) = ((c + b * 2 ^ j : Nat) : Int) := by
  have h8 : 2 ^ j ≤ 2 ^ 31 := Nat.pow_le_pow_right (by decide) (by omega)
  have hz : b * 2 ^ j ≤ 1 * 2 ^ j := Nat.mul_le_mul_right _ (by omega)
  have h := (bits_nat .i64 63 (by decide) wraps_i64 c (b * 2 ^ j) (by omega) (by omega)).2
  rw [h]
  congr 1
  rw [Nat.mul_comm b, Nat.or_comm, ← Nat.two_pow_add_eq_or_of_lt hc b, Nat.add_comm]
theorem bit_test8 (m r : Nat) (hm : m < 256) : bits .and .u8 ((m : Int) / 2 ^ r) 1 = ((m / 2 ^ r % 2 : Nat) : Int) := by
  have e1 : (m : Int) / 2 ^ r = ((m / 2 ^ r : Nat) : Int) := by simp
  have hq : m / 2 ^ r ≤ m := Nat.div_le_self _ _
  rw [e1]
  generalize m / 2 ^ r = a at *
  have h := bits_mask .u8 8 (by decide) wraps_u8 1 (by decide) a (by omega) (by omega)
  have e : (2 : Int) ^ 1 - 1 = 1 := by decide
  rw [e] at h
  rw [h]; omega
theorem shl64 (b j : Nat) (hb : b < 2) (hj : j < 32) : wrap64 ((b : Int) * 2 ^ j) = ((b * 2 ^ j : Nat) : Int) := by
  have h8 : 2 ^ j ≤ 2 ^ 31 := Nat.pow_le_pow_right (by decide) (by omega)
  have hz : b * 2 ^ j ≤ 1 * 2 ^ j := Nat.mul_le_mul_right _ (by omega)
  have e : (b : Int) * 2 ^ j = ((b * 2 ^ j : Nat) : Int) := by simp
  rw [e]
  generalize b * 2 ^ j = z at *
  exact IntWalk.wrap64_in _ (by omega)
theorem wrap_bit (b : Nat) (hb : b < 2) : wrap64 (b : Int) = (b : Int) := IntWalk.wrap64_in _ (by omega)
/-- From the top bit down. -/
theorem low_down (b : List Int) (a v j top : Nat) (h : v * 2 ^ (j + 1) + low b a (j + 1) = top) : (2 * v + bit b (a + j)) * 2 ^ j + low b a j = top := by
  rw [← h, low, Nat.pow_succ, Nat.add_mul]
  have : 2 * v * 2 ^ j = v * (2 ^ j * 2) := by rw [Nat.mul_comm 2 v, Nat.mul_assoc, Nat.mul_comm 2]
  omega
theorem low_small (b : List Int) (a v j w : Nat) (hj : j ≤ w) (hw : w ≤ 32) (h : v * 2 ^ j + low b a j = low b a w) : v < 4294967296 := by
  have h1 := low_lt b a w
  have h2 : 2 ^ w ≤ 2 ^ 32 := Nat.pow_le_pow_right (by decide) hw
  have h3 : v * 1 ≤ v * 2 ^ j := Nat.mul_le_mul_left _ (Nat.pow_pos (by decide))
  omega
end Go.Proofs.YtcgfheagbaafoaaDoor.Pack
