/- What is packed is unpacked as it was: plain Lean. -/
import Derived.Test.YtcgfheagbaafoaaUnpack
namespace Go.Proofs.Ytcgfheagbaafoaa.Pack
set_option linter.unusedVariables false
set_option linter.unusedSimpArgs false
open Go.RowKit Go.Proofs.YtcgfheagbaafoaaW.PrintWords Go.Proofs.Ytcgfheagbaafoaa.Lib

theorem low_is (b : List Int) (a n : Nat) : ∀ j, (∀ t, t < j → bit b (a + t) = n / 2 ^ t % 2) → low b a j = n % 2 ^ j
  | 0, _ => by simp [low, Nat.mod_one]
  | j + 1, h => by
    rw [low, low_is b a n j (fun t ht => h t (by omega)), h j (by omega), Nat.mod_pow_succ, Nat.mul_comm]
theorem packed_length (l : List Int) (w : Nat) : (packed l w).length = long (w * l.length) := by unfold packed; rw [outAt_length]
theorem packed_bytes (l : List Int) (w : Nat) : Bytes (packed l w) := by unfold packed; exact outAt_bytes _ (bitAt_lt l w) _ _
theorem packed_bit (l : List Int) (w k : Nat) : bit (packed l w) k = if k < w * l.length then bitAt l w k else 0 := by
  unfold packed; exact outAt_bit _ (bitAt_lt l w) _ k _ (long_le _)
theorem packed_tidy (l : List Int) (w : Nat) : Tidy (packed l w) (w * l.length) := by
  intro i h1 _
  rw [packed_bit, if_neg (by omega)]
theorem back (l : List Int) (w : Nat) (h : ∀ x ∈ l, 0 ≤ x ∧ x < ((2 ^ w : Nat) : Int)) : unpk (packed l w) w l.length = l := by
  apply List.ext_getElem
  · rw [unpk_length]
  · intro k h1 h2
    have e : (unpk (packed l w) w l.length)[k] = numAt (packed l w) w k := by simp [unpk]
    rw [e, numAt]
    have hx := h _ (List.getElem_mem h2)
    have hg : l.getD k 0 = l[k] := by rw [List.getD_eq_getElem?_getD, List.getElem?_eq_getElem h2]; rfl
    rw [low_is (packed l w) (w * k) (l[k]).toNat w]
    · rw [Nat.mod_eq_of_lt (by omega)]; omega
    · intro t ht
      have : w * k + w ≤ w * l.length := by rw [← Nat.mul_succ]; exact Nat.mul_le_mul_left _ h2
      rw [packed_bit, if_pos (by omega), bitAt_at l w k t ht, hg]
end Go.Proofs.Ytcgfheagbaafoaa.Pack
