/- A frame that was turned in up to 32 bits side by side is refused: plain Lean over the words of frames. -/
import Derived.Test.YtobddbkffefbkaaTurn
import Derived.Test.YtobddbkffefbkaaUnframe
namespace Go.Proofs.Ytobddbkffefbkaa.Turn
set_option linter.unusedVariables false
set_option linter.unusedSimpArgs false
open Go.RowKit Go.Proofs.YtobddbkffefbkaaW.PrintWords Go.Proofs.Ytobddbkffefbkaa.Lib Go.Proofs.Ytobddbkffefbkaa.Crc Go.Proofs.Ytobddbkffefbkaa.Bas

def flip1 (xs : List Int) (p : Nat) : List Int := xs.set (p / 8) (((xs.getD (p / 8) 0).toNat ^^^ 2 ^ (p % 8) : Nat) : Int)
theorem flip1_length (xs : List Int) (p : Nat) : (flip1 xs p).length = xs.length := by simp [flip1]
theorem flip1_bytes {xs : List Int} (h : Bytes xs) (p : Nat) : Bytes (flip1 xs p) := by
  intro x hx
  rcases List.mem_or_eq_of_mem_set hx with hx | rfl
  · exact h x hx
  · have h0 := h.getD (p / 8)
    have h1 : (xs.getD (p / 8) 0).toNat ^^^ 2 ^ (p % 8) < 2 ^ 8 := Nat.xor_lt_two_pow (by omega) (Nat.pow_lt_pow_right (by decide) (Nat.mod_lt _ (by decide)))
    omega
theorem flip1_bit (xs : List Int) (p k : Nat) (hp : p < 8 * xs.length) : bit (flip1 xs p) k = if k = p then 1 - bit xs k else bit xs k := by
  unfold bit flip1
  by_cases h8 : k / 8 = p / 8
  · have hl : k / 8 < xs.length := by omega
    have e : ((xs.set (p / 8) (((xs.getD (p / 8) 0).toNat ^^^ 2 ^ (p % 8) : Nat) : Int)).getD (k / 8) 0).toNat = (xs.getD (k / 8) 0).toNat ^^^ 2 ^ (p % 8) := by
      rw [h8, List.getD_eq_getElem?_getD, List.getElem?_set, if_pos rfl, if_pos (by omega)]
      rfl
    rw [e, ← Nat.toNat_testBit, ← Nat.toNat_testBit, Nat.testBit_xor, Nat.testBit_two_pow]
    by_cases hk : k = p
    · rw [if_pos hk, hk]
      cases (xs.getD (p / 8) 0).toNat.testBit (p % 8) <;> simp
    · rw [if_neg hk, decide_eq_false (by omega)]
      simp
  · rw [if_neg (by rintro rfl; exact h8 rfl)]
    rw [List.getD_eq_getElem?_getD, List.getElem?_set, if_neg (by omega), ← List.getD_eq_getElem?_getD]
def turned (xs : List Int) (a m : Nat) : Nat → List Int
  | 0 => xs
  | i + 1 => if m / 2 ^ i % 2 = 1 then flip1 (turned xs a m i) (a + i) else turned xs a m i
theorem turned_length (xs : List Int) (a m : Nat) : ∀ i, (turned xs a m i).length = xs.length
  | 0 => rfl
  | i + 1 => by
    unfold turned
    split
    · rw [flip1_length, turned_length xs a m i]
    · exact turned_length xs a m i
theorem turned_bytes {xs : List Int} (h : Bytes xs) (a m : Nat) : ∀ i, Bytes (turned xs a m i)
  | 0 => h
  | i + 1 => by
    unfold turned
    split
    · exact flip1_bytes (turned_bytes h a m i) _
    · exact turned_bytes h a m i
theorem turned_bit (xs : List Int) (a m k : Nat) : ∀ i, a + i ≤ 8 * xs.length →
    bit (turned xs a m i) k = if a ≤ k ∧ k < a + i ∧ m / 2 ^ (k - a) % 2 = 1 then 1 - bit xs k else bit xs k
  | 0, _ => by rw [if_neg (by omega)]; rfl
  | i + 1, h => by
    have ih := turned_bit xs a m k i (by omega)
    unfold turned
    by_cases hm : m / 2 ^ i % 2 = 1
    · rw [if_pos hm, flip1_bit _ _ _ (by rw [turned_length]; omega), ih]
      by_cases hk : k = a + i
      · subst hk
        rw [if_pos rfl, if_neg (by omega), if_pos ⟨by omega, by omega, by rw [show a + i - a = i by omega]; exact hm⟩]
      · rw [if_neg hk]
        by_cases hc : a ≤ k ∧ k < a + i ∧ m / 2 ^ (k - a) % 2 = 1
        · rw [if_pos hc, if_pos ⟨hc.1, by omega, hc.2.2⟩]
        · rw [if_neg hc, if_neg (fun h2 => hc ⟨h2.1, by omega, h2.2.2⟩)]
    · rw [if_neg hm, ih]
      by_cases hc : a ≤ k ∧ k < a + i ∧ m / 2 ^ (k - a) % 2 = 1
      · rw [if_pos hc, if_pos ⟨hc.1, by omega, hc.2.2⟩]
      · rw [if_neg hc, if_neg (fun h2 => by
          by_cases hk : k = a + i
          · subst hk
            rw [show a + i - a = i by omega] at h2
            exact hm h2.2.2
          · exact hc ⟨h2.1, by omega, h2.2.2⟩)]
theorem bit_drop (xs : List Int) (n k : Nat) : bit (xs.drop n) k = bit xs (8 * n + k) := by
  unfold bit
  rw [List.getD_eq_getElem?_getD, List.getElem?_drop, ← List.getD_eq_getElem?_getD, show (8 * n + k) / 8 = n + k / 8 by omega, show (8 * n + k) % 8 = k % 8 by omega]
theorem bit_take (xs : List Int) (n k : Nat) (h : k < 8 * n) : bit (xs.take n) k = bit xs k := by
  unfold bit
  rw [List.getD_eq_getElem?_getD, List.getElem?_take, if_pos (by omega), ← List.getD_eq_getElem?_getD]
theorem some_bit {m : Nat} (h0 : m ≠ 0) (h : m < 4294967296) : ∃ i, i < 32 ∧ m / 2 ^ i % 2 = 1 := by
  obtain ⟨i, hi⟩ := Nat.exists_testBit_of_ne_zero h0
  have h1 : m / 2 ^ i % 2 = 1 := by simpa [Nat.testBit_eq_decide_div_mod_eq] using hi
  refine ⟨i, ?_, h1⟩
  rcases Nat.lt_or_ge i 32 with h2 | h2
  · exact h2
  · exfalso
    have h3 : 2 ^ 32 ≤ 2 ^ i := Nat.pow_le_pow_right (by decide) h2
    rw [Nat.div_eq_of_lt (by omega)] at h1
    exact absurd h1 (by decide)
theorem unframe_code (xs : List Int) : (unframe xs).2 ≠ 0 → (unframe xs).1 = [] := by
  unfold unframe
  split
  · intro _; rfl
  · split
    · intro _; rfl
    · split
      · intro _; rfl
      · intro h; exact absurd rfl h
theorem unframe_ok {xs : List Int} (h : (unframe xs).2 = 0) : 8 ≤ xs.length ∧ (xs.take 8).drop 4 = le4 (xs.length - 8) ∧ xs.take 4 = le4 (sum (xs.drop 4)) := by
  unfold unframe at h
  split at h
  · exact absurd h (by decide)
  · split at h
    · exact absurd h (by decide)
    · split at h
      · exact absurd h (by decide)
      · rename_i h1 h2 h3
        exact ⟨by omega, Classical.not_not.1 (fun h4 => h2 (Or.inr h4)), Classical.not_not.1 h3⟩
theorem frame_unframe (xs : List Int) (h : xs.length ≤ 1048576) : unframe (frame xs) = (xs, 0) := by
  have hl := frame_length xs
  have e4 : (frame xs).drop 4 = framed xs := by
    unfold frame; rw [List.drop_append_of_le_length (by simp [le4_length])]; rfl
  have t4 : (frame xs).take 4 = le4 (sum (framed xs)) := by
    unfold frame; rw [List.take_append_of_le_length (by simp [le4_length])]; rfl
  have m4 : ((frame xs).take 8).drop 4 = le4 xs.length := by
    rw [List.drop_take, e4]
    unfold framed; rw [List.take_append_of_le_length (by simp [le4_length])]; rfl
  have e8 : (frame xs).drop 8 = xs := by
    rw [show (8 : Nat) = 4 + 4 from rfl, ← List.drop_drop, e4]
    unfold framed; rw [List.drop_append_of_le_length (by simp [le4_length])]; rfl
  unfold unframe
  rw [if_neg (by omega), if_neg, if_neg, e8]
  · rw [t4, e4]; simp
  · rw [m4, hl]; simp; omega
theorem turned_refused (xs : List Int) (hb : Bytes xs) (h : xs.length ≤ 1048576) (a m : Nat) (hm : m < 4294967296) (h0 : m ≠ 0) (ha : a + 32 ≤ 8 * (xs.length + 8)) :
    (unframe (turned (frame xs) a m 32)).2 ≠ 0 := by
  intro hz
  obtain ⟨i, hi, hbit⟩ := some_bit h0 hm
  have hF := frame_bytes hb
  have hL := frame_length xs
  have hTl := turned_length (frame xs) a m 32
  have hTb := turned_bytes hF a m 32
  have hT := fun k => turned_bit (frame xs) a m k 32 (by omega)
  generalize turned (frame xs) a m 32 = T at *
  obtain ⟨_, h2, h3⟩ := unframe_ok hz
  obtain ⟨_, g2, g3⟩ := unframe_ok (show (unframe (frame xs)).2 = 0 by rw [frame_unframe xs h])
  generalize frame xs = F at *
  rw [hTl] at h2
  -- a bit that is turned
  have hturn : bit T (a + i) ≠ bit F (a + i) := by
    rw [hT, if_pos ⟨by omega, by omega, by rw [show a + i - a = i by omega]; exact hbit⟩]
    have := bit_lt F (a + i)
    omega
  have hsame : ∀ k, (k < a ∨ a + 32 ≤ k) → bit T k = bit F k := fun k hk => by
    rw [hT, if_neg (by omega)]
  -- it isn't one of the length's
  have hlen : ∀ k, 32 ≤ k → k < 64 → bit T k = bit F k := fun k h4 h5 => by
    have e : ∀ X : List Int, bit X k = bit ((X.take 8).drop 4) (k - 32) := fun X => by
      rw [bit_drop, bit_take _ _ _ (by omega), show 8 * 4 + (k - 32) = k by omega]
    rw [e T, e F, h2, g2]
  by_cases hlow : a + i < 32
  · -- in the sum alone: what follows is as it was, and so its sum
    have hd : T.drop 4 = F.drop 4 := by
      apply bits_ext _ _ (hTb.drop 4) (hF.drop 4) (by simp [hTl])
      intro k hk
      rw [bit_drop, bit_drop]
      by_cases hk2 : 8 * 4 + k < 64
      · exact hlen _ (by omega) hk2
      · exact hsame _ (by omega)
    apply hturn
    have e : ∀ X : List Int, bit X (a + i) = bit (X.take 4) (a + i) := fun X => (bit_take _ _ _ (by omega)).symm
    rw [e T, e F, h3, g3, hd]
  · -- behind the length: the sum is as it was
    have h64 : 64 ≤ a + i := by
      rcases Nat.lt_or_ge (a + i) 64 with h4 | h4
      · exact absurd (hlen _ (by omega) h4) hturn
      · exact h4
    have ht : T.take 4 = F.take 4 := by
      apply bits_ext _ _ (hTb.take 4) (hF.take 4) (by simp [hTl])
      intro k hk
      rw [List.length_take] at hk
      rw [bit_take _ _ _ (by omega), bit_take _ _ _ (by omega)]
      exact hsame _ (by omega)
    have hs : sum (T.drop 4) = sum (F.drop 4) := le4_inj (sum_lt _ (hTb.drop 4)) (sum_lt _ (hF.drop 4)) (by rw [← h3, ← g3, ht])
    have hd := sum_window _ _ (hTb.drop 4) (hF.drop 4) (by simp [hTl]) (a - 32) (fun k hk hk2 => by
      rw [bit_drop, bit_drop]
      exact hsame _ (by omega)) hs
    apply hturn
    have e : ∀ X : List Int, bit X (a + i) = bit (X.drop 4) (a + i - 32) := fun X => by
      rw [bit_drop, show 8 * 4 + (a + i - 32) = a + i by omega]
    rw [e T, e F, hd]
/-- The law's test of a bit, in the walk's spelling. -/
theorem bit_test (m i : Nat) (hm : m < 4294967296) : bits .and .u32 ((m : Int) / 2 ^ i) 1 = ((m / 2 ^ i % 2 : Nat) : Int) := by
  have e1 : (m : Int) / 2 ^ i = ((m / 2 ^ i : Nat) : Int) := by simp
  have hq : m / 2 ^ i ≤ m := Nat.div_le_self _ _
  rw [e1]
  exact and1_u32 _ (by omega)
theorem bit_flip (c j : Nat) (hc : c < 256) : bits .xor .u8 (c : Int) ((2 : Int) ^ (j % 8) % 256) = ((c ^^^ 2 ^ (j % 8) : Nat) : Int) := by
  have h : 2 ^ (j % 8) < 2 ^ 8 := Nat.pow_lt_pow_right (by decide) (Nat.mod_lt _ (by decide))
  have e : (2 : Int) ^ (j % 8) % 256 = ((2 ^ (j % 8) : Nat) : Int) := by
    have e1 : (2 : Int) ^ (j % 8) = ((2 ^ (j % 8) : Nat) : Int) := by simp
    rw [e1]
    generalize 2 ^ (j % 8) = z at *
    omega
  rw [e]
  exact xor_u8 _ _ hc (by omega)
end Go.Proofs.Ytobddbkffefbkaa.Turn
