/- Strings compared: each of '>', '<=' and '>=' as one word, as the printed texts spell it. -/
import Derived.WalkKit
import Derived.Sort.EncStr
import Derived.Sort.Walk0
namespace Go.Proofs.Ytomgfhapmhagnaa.Ext
open Go.RowKit

theorem less_dec (a b : ByteArray) : Op.bytesLess a.toList b.toList = decide (a.data.toList < b.data.toList) := by
  rw [ByteArray.toList_eq, ByteArray.toList_eq, bytesLess_eq]
theorem list_lt_or (a b : List UInt8) : a < b ∨ a = b ∨ b < a := by
  rcases Decidable.em (a < b) with h | h
  · exact .inl h
  rcases Decidable.em (b < a) with h2 | h2
  · exact .inr (.inr h2)
  exact .inr (.inl (List.le_antisymm h2 h))
theorem eq_dec (a b : ByteArray) : (a.toList == b.toList) = decide (a.data.toList = b.data.toList) := by
  rw [ByteArray.toList_eq, ByteArray.toList_eq, Bool.eq_iff_iff, beq_iff_eq, decide_eq_true_iff]
theorem less_or_eq (a b : ByteArray) : (Op.bytesLess a.toList b.toList || a.toList == b.toList) = !(Op.bytesLess b.toList a.toList) := by
  rw [less_dec, less_dec, eq_dec]
  rcases list_lt_or a.data.toList b.data.toList with h | h | h
  · rw [decide_eq_true h, decide_eq_false (fun h2 => List.lt_asymm h h2)]; rfl
  · rw [h, decide_eq_false (List.lt_irrefl _)]; simp
  · rw [decide_eq_true h, decide_eq_false (fun h2 => List.lt_asymm h h2), decide_eq_false (fun h2 => by rw [h2] at h; exact List.lt_irrefl _ h)]; rfl
theorem gtr_str (t : TypeId) (a b : ByteArray) : binOp .gtr t (.string a) (.string b) = pure (.bool (Op.bytesLess b.toList a.toList)) := by
  have h : binOp .gtr t (.string a) (.string b) = pure (.bool !(Op.bytesLess a.toList b.toList || a.toList == b.toList)) := by simp [binOp, Op.stringOp]
  rw [h, less_or_eq, Bool.not_not]
theorem leq_str (t : TypeId) (a b : ByteArray) : binOp .leq t (.string a) (.string b) = pure (.bool !(Op.bytesLess b.toList a.toList)) := by
  have h : binOp .leq t (.string a) (.string b) = pure (.bool (Op.bytesLess a.toList b.toList || a.toList == b.toList)) := by simp [binOp, Op.stringOp]
  rw [h, less_or_eq]
theorem geq_str (t : TypeId) (a b : ByteArray) : binOp .geq t (.string a) (.string b) = pure (.bool !(Op.bytesLess a.toList b.toList)) := by
  simp [binOp, Op.stringOp]
/-! short names -/
theorem q1_ {α : Type} (l : List α) (i : Nat) (a : α) : l.toArray.setIfInBounds i a = (l.set i a).toArray := List.setIfInBounds_toArray ..
theorem q2_ {α : Type} (x : α) (l : List α) (a : α) : (x :: l).set 0 a = a :: l := rfl
theorem q3_ {α : Type} (x : α) (l : List α) (i : Nat) (a : α) : (x :: l).set (i + 1) a = x :: l.set i a := rfl
end Go.Proofs.Ytomgfhapmhagnaa.Ext
