/- Reading numbers out of bytes: plain Lean, no program in sight. -/
import Derived.Test.YtomgfhapmhagnaaLib
namespace Go.Proofs.Ytomgfhapmhagnaa.Read
set_option linter.unusedVariables false
set_option linter.unusedSimpArgs false
open Go.RowKit Go.Proofs.YtomgfhapmhagnaaW.PrintWords Go.Proofs.Ytomgfhapmhagnaa.Lib

/-- A number: its value, what is left, why not. -/
def uvar : Nat → Nat → List Int → Nat × List Int × Int
  | _, _, [] => (0, [], 10)
  | i, n, c :: l =>
    if (i = 9 ∧ 1 < c) ∨ (c = 0 ∧ 0 < i) then (0, [], 12)
    else if c < 128 then (n + c.toNat * 128 ^ i, l, 0)
    else uvar (i + 1) (n + (c.toNat % 128) * 128 ^ i) l
/-- A reader: what is left, the first error. -/
abbrev St := List Int × Int
def rdU (s : St) : Nat × St := if s.2 ≠ 0 then (0, s) else ((uvar 0 0 s.1).1, (uvar 0 0 s.1).2)
def unzig (n : Nat) : Int := if n % 2 = 0 then (n / 2 : Nat) else -(n / 2 : Nat) - 1
def rdI (s : St) : Int × St := (unzig (rdU s).1, (rdU s).2)
/-- so many things of at least so many bytes -/
def rdC (least : Int) (s : St) : Int × St :=
  if (rdU s).2.2 = 0 ∧ (rdU s).2.1.length / (max least 1).toNat < (rdU s).1 then (0, ([], 10)) else (((rdU s).1 : Int), (rdU s).2)
def rdT (s : St) : List Int × St :=
  ((rdC 1 s).2.1.take (rdC 1 s).1.toNat, ((rdC 1 s).2.1.drop (rdC 1 s).1.toNat, (rdC 1 s).2.2))
def rdEnd (s : St) : Int := if s.2 = 0 ∧ 0 < s.1.length then 12 else s.2
/-- Nothing is left behind an error. -/
def Ok (s : St) : Prop := Bytes s.1 ∧ (s.2 ≠ 0 → s.1 = [])

theorem uvar_form (i n m : Nat) (l : List Int) (h : (i = 9 ∧ 1 < m) ∨ (m = 0 ∧ 0 < i)) : uvar i n ((m : Int) :: l) = (0, [], 12) := by
  unfold uvar; rw [if_pos (by omega)]
theorem uvar_last (i n m : Nat) (l : List Int) (h : ¬ ((i = 9 ∧ 1 < m) ∨ (m = 0 ∧ 0 < i))) (h2 : m < 128) : uvar i n ((m : Int) :: l) = (n + m * 128 ^ i, l, 0) := by
  unfold uvar; rw [if_neg (by omega), if_pos (by omega)]; rfl
theorem uvar_more (i n m : Nat) (l : List Int) (h : ¬ ((i = 9 ∧ 1 < m) ∨ (m = 0 ∧ 0 < i))) (h2 : ¬ m < 128) : uvar i n ((m : Int) :: l) = uvar (i + 1) (n + (m % 128) * 128 ^ i) l := by
  rw [uvar, if_neg (by omega), if_neg (by omega)]; rfl
theorem uvar_lt : ∀ (l : List Int) (i n : Nat), Bytes l → i ≤ 9 → n < 128 ^ i → (uvar i n l).1 < 18446744073709551616
  | [], i, n, _, _, _ => by simp [uvar]
  | c :: l, i, n, hb, hi, hn => by
    have hc := hb c List.mem_cons_self
    have hl : Bytes l := fun x hx => hb x (List.mem_cons_of_mem _ hx)
    unfold uvar
    split
    · simp
    · rename_i h1
      split
      · rename_i h2
        show n + c.toNat * 128 ^ i < 18446744073709551616
        by_cases h9 : i = 9
        · subst h9
          have : c.toNat ≤ 1 := by
            have : ¬ (1 < c) := fun h => h1 (Or.inl ⟨rfl, h⟩)
            omega
          have h3 : c.toNat * 128 ^ 9 ≤ 1 * 128 ^ 9 := Nat.mul_le_mul_right _ this
          have h4 : (128 : Nat) ^ 9 = 9223372036854775808 := by decide
          omega
        · have h3 : c.toNat * 128 ^ i ≤ 127 * 128 ^ i := Nat.mul_le_mul_right _ (by omega)
          have h4 : (128 : Nat) ^ i ≤ 128 ^ 8 := Nat.pow_le_pow_right (by decide) (by omega)
          have h5 : (128 : Nat) ^ 8 = 72057594037927936 := by decide
          omega
      · rename_i h2
        by_cases h9 : i = 9
        · exfalso
          exact h1 (Or.inl ⟨h9, by omega⟩)
        · refine uvar_lt l (i + 1) _ hl (by omega) ?_
          have h3 : (c.toNat % 128) * 128 ^ i ≤ 127 * 128 ^ i := Nat.mul_le_mul_right _ (by omega)
          rw [Nat.pow_succ]
          omega
theorem rdU_lt (s : St) (h : Ok s) : (rdU s).1 < 18446744073709551616 := by
  unfold rdU
  split
  · show (0 : Nat) < _; decide
  · exact uvar_lt _ _ _ h.1 (by decide) (by decide)
theorem uvar_left : ∀ (l : List Int) (i n : Nat), ∃ k, (uvar i n l).2.1 = l.drop k ∧ ((uvar i n l).2.2 ≠ 0 → (uvar i n l).2.1 = [])
  | [], i, n => ⟨0, rfl, fun _ => rfl⟩
  | c :: l, i, n => by
    unfold uvar
    split
    · exact ⟨(c :: l).length, by simp, fun _ => rfl⟩
    · split
      · exact ⟨1, rfl, fun h => absurd rfl h⟩
      · obtain ⟨k, h1, h2⟩ := uvar_left l (i + 1) (n + (c.toNat % 128) * 128 ^ i)
        exact ⟨k + 1, by rw [h1]; rfl, h2⟩
theorem rdU_ok (s : St) (h : Ok s) : Ok (rdU s).2 := by
  unfold rdU
  split
  · exact h
  · obtain ⟨k, h1, h2⟩ := uvar_left s.1 0 0
    exact ⟨by show Bytes (uvar 0 0 s.1).2.1; rw [h1]; exact h.1.drop k, h2⟩
theorem rdU_left (s : St) : (rdU s).2.1.length ≤ s.1.length := by
  unfold rdU
  split
  · exact Nat.le_refl _
  · obtain ⟨k, h1, _⟩ := uvar_left s.1 0 0
    show (uvar 0 0 s.1).2.1.length ≤ _
    rw [h1, List.length_drop]; omega
theorem rdI_ok (s : St) (h : Ok s) : Ok (rdI s).2 := rdU_ok s h
theorem rdC_ok (least : Int) (s : St) (h : Ok s) : Ok (rdC least s).2 := by
  unfold rdC
  split
  · exact ⟨Bytes.nil, fun _ => rfl⟩
  · exact rdU_ok s h
theorem rdU_bad (s : St) (h : (rdU s).2.2 ≠ 0) : (rdU s).1 = 0 := by
  have key : ∀ (l : List Int) (i n : Nat), (uvar i n l).2.2 ≠ 0 → (uvar i n l).1 = 0 := by
    intro l
    induction l with
    | nil => intro i n _; rfl
    | cons c l ih =>
      intro i n
      unfold uvar
      split
      · intro _; rfl
      · split
        · intro h; exact absurd rfl h
        · exact ih _ _
  unfold rdU at h ⊢
  split at h
  · rename_i h1; rw [if_pos h1]
  · rename_i h1; rw [if_neg h1]; exact key _ _ _ h
/-- A count is not above what is left. -/
theorem rdC_le (s : St) (h : Ok s) : 0 ≤ (rdC 1 s).1 ∧ (rdC 1 s).1.toNat ≤ (rdC 1 s).2.1.length := by
  unfold rdC
  split
  · exact ⟨Int.le_refl _, Nat.le_refl _⟩
  · rename_i h1
    refine ⟨Int.natCast_nonneg _, ?_⟩
    show ((rdU s).1 : Int).toNat ≤ (rdU s).2.1.length
    rw [Int.toNat_natCast]
    by_cases hz : (rdU s).2.2 = 0
    · have h2 : ¬ ((rdU s).2.1.length / (max (1 : Int) 1).toNat < (rdU s).1) := fun h3 => h1 ⟨hz, h3⟩
      have h3 : (max (1 : Int) 1).toNat = 1 := by decide
      rw [h3, Nat.div_one] at h2
      omega
    · rw [rdU_bad s hz]; exact Nat.zero_le _
theorem rdT_ok (s : St) (h : Ok s) : Ok (rdT s).2 := by
  have h1 := rdC_ok 1 s h
  exact ⟨h1.1.drop _, fun h2 => by show List.drop _ (rdC 1 s).2.1 = []; rw [h1.2 h2]; exact List.drop_nil⟩
/-! ### a number's bits -/
theorem or_u64 (a b : Nat) (ha : a < 18446744073709551616) (hb : b < 18446744073709551616) : bits .or .u64 a b = ((a ||| b : Nat) : Int) :=
  (bits_nat .u64 64 (by decide) wraps_u64 a b ha hb).2
theorem or_shift (n c k : Nat) (hn : n < 128 ^ k) (hc : c < 128) (hk : k ≤ 9) (h9 : k = 9 → c ≤ 1) :
    bits .or .u64 (n : Int) (IntKind.u64.wrap ((c : Int) * 2 ^ (7 * k))) = ((n + c * 128 ^ k : Nat) : Int) := by
  have e0 : (128 : Nat) ^ k = 2 ^ (7 * k) := by rw [Nat.pow_mul]
  have hlt : n + c * 128 ^ k < 18446744073709551616 := by
    by_cases h : k = 9
    · subst h
      have h3 : c * 128 ^ 9 ≤ 1 * 128 ^ 9 := Nat.mul_le_mul_right _ (h9 rfl)
      have h4 : (128 : Nat) ^ 9 = 9223372036854775808 := by decide
      omega
    · have h3 : c * 128 ^ k ≤ 127 * 128 ^ k := Nat.mul_le_mul_right _ (by omega)
      have h4 : (128 : Nat) ^ k ≤ 128 ^ 8 := Nat.pow_le_pow_right (by decide) (by omega)
      have h5 : (128 : Nat) ^ 8 = 72057594037927936 := by decide
      omega
  have e1 : IntKind.u64.wrap ((c : Int) * 2 ^ (7 * k)) = ((c * 128 ^ k : Nat) : Int) := by
    have e2 : (c : Int) * 2 ^ (7 * k) = ((c * 128 ^ k : Nat) : Int) := by rw [e0]; simp
    rw [e2, wrap_u64]
    generalize c * 128 ^ k = z at *
    omega
  rw [e1, or_u64 _ _ (by omega) (by omega)]
  congr 1
  rw [e0] at hn ⊢
  have h := Nat.two_pow_add_eq_or_of_lt hn c
  rw [Nat.or_comm, Nat.mul_comm c, ← h, Nat.add_comm]
theorem and1_u64 (a : Nat) (ha : a < 18446744073709551616) : bits .and .u64 a 1 = ((a % 2 : Nat) : Int) := by
  have h := bits_mask .u64 64 (by decide) wraps_u64 1 (by decide) a (by omega) (by omega)
  have e : (2 : Int) ^ 1 - 1 = 1 := by decide
  rw [e] at h
  rw [h]; omega
theorem xor_neg1 (a : Nat) (ha : a < 9223372036854775808) : bits .xor .i64 (a : Int) (-1) = -(a : Int) - 1 := by
  have e1 : BitVec.ofInt 64 (-1) = BitVec.allOnes 64 := by decide
  have e2 : (BitVec.ofInt 64 (a : Int) ^^^ BitVec.allOnes 64).toNat = 18446744073709551615 - a := by
    rw [BitVec.xor_allOnes, BitVec.toNat_not, BitVec.ofInt_natCast, BitVec.toNat_ofNat, Nat.mod_eq_of_lt (by omega)]
  show IntKind.i64.wrap ((BitVec.ofInt 64 (a : Int) ^^^ BitVec.ofInt 64 (-1)).toNat : Int) = _
  rw [e1, e2, IntKind.wrap_i64]
  omega
theorem unzig_bits (n : Nat) (hn : n < 18446744073709551616) : bits .xor .i64 ((n : Int) / 2) (wrap64 (-wrap64 (bits .and .u64 (n : Int) 1))) = unzig n := by
  rw [and1_u64 n hn]
  have e0 : (n : Int) / 2 = ((n / 2 : Nat) : Int) := by omega
  rw [e0]
  unfold unzig
  by_cases h : n % 2 = 0
  · rw [if_pos h, h]
    have e1 : wrap64 (-wrap64 ((0 : Nat) : Int)) = ((0 : Nat) : Int) := by unfold wrap64; decide
    rw [e1, bits_xor_nat .i64 63 (by decide) wraps_i64 _ _ (by omega) (by decide), Nat.xor_zero]
  · have h1 : n % 2 = 1 := by omega
    rw [if_neg h, h1]
    have e1 : wrap64 (-wrap64 ((1 : Nat) : Int)) = -1 := by unfold wrap64; decide
    rw [e1, xor_neg1 _ (by omega)]
theorem unzig_zig (n : Int) : unzig (zigzag n) = n := by
  unfold zigzag unzig
  split <;> split <;> omega
theorem zig_unzig (n : Nat) : zigzag (unzig n) = n := by
  unfold zigzag unzig
  split <;> split <;> omega
theorem unzig_range (n : Nat) (hn : n < 18446744073709551616) : -9223372036854775808 ≤ unzig n ∧ unzig n < 9223372036854775808 := by
  unfold unzig
  split <;> omega
end Go.Proofs.Ytomgfhapmhagnaa.Read
