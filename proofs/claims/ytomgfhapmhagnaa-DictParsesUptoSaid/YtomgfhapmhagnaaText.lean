/- Texts as lists of bytes: their order, sorted ones, beginnings: plain Lean. -/
import Derived.Test.YtomgfhapmhagnaaReg
import Derived.Sort.EncStr
import Derived.Sort.Walk0
import Derived.Lib.SlicesCompact
import Derived.Lib.RowBridge
namespace Go.Proofs.Ytomgfhapmhagnaa.Txt
set_option linter.unusedVariables false
set_option linter.unusedSimpArgs false
open Go.RowKit Go.Proofs.YtomgfhapmhagnaaW.PrintWords Go.Proofs.Ytomgfhapmhagnaa.Lib

abbrev T := List UInt8
def bs (t : T) : ByteArray := ⟨t.toArray⟩
theorem bs_data (t : T) : (bs t).data.toList = t := rfl
theorem bs_of (s : ByteArray) : bs s.data.toList = s := rfl
theorem bs_size (t : T) : (bs t).size = t.length := rfl
theorem less_is (a b : ByteArray) : Op.bytesLess a.toList b.toList = decide (a.data.toList < b.data.toList) := by
  rw [ByteArray.toList_eq, ByteArray.toList_eq, bytesLess_eq]
theorem bs_eq (a b : ByteArray) : (a = b) ↔ a.data.toList = b.data.toList := ⟨fun h => by rw [h], fun h => by rw [← bs_of a, ← bs_of b, h]⟩
/-- A row of texts. -/
def text : Kd T := Kd.scalar encStr (fun _ => rfl)
theorem at_text {w : World} {A : Option Addr} {n : Nat} {xs : List T} (h : text.C w A n xs) (k : Nat) (hk : k < n) : ∃ ad, A = some ad ∧ w.cell? (ad.add k) = some (.string (bs (xs.getD k []))) := by
  obtain ⟨ad, c, e, hc, hK, hcell⟩ := Kd.C_get h [] (k : Int) (by omega) (by omega)
  rw [Int.toNat_natCast] at hK hcell
  have hK' : c = [encStr (xs.getD k [])] := hK
  subst hK'
  have := hcell 0 _ rfl
  have e1 : text.sz = 1 := rfl
  rw [e1, Nat.mul_one, Nat.add_zero] at this
  exact ⟨ad, e, this⟩
theorem text_of_strings {w : World} {A : Option Addr} {n : Nat} {xs : List ByteArray} (h : Kd.string.C w A n xs) : text.C w A n (xs.map (·.data.toList)) := by
  obtain ⟨h1, h2, h3⟩ := h
  refine ⟨by rw [List.length_map]; exact h1, h2, fun hn => ?_⟩
  obtain ⟨ad, e, hc⟩ := h3 hn
  refine ⟨ad, e, fun j p hj => ?_⟩
  rw [List.getElem?_map, Option.map_eq_some_iff] at hj
  obtain ⟨s, hs, rfl⟩ := hj
  obtain ⟨c, hcl, hK, hcell⟩ := hc j s hs
  exact ⟨c, hcl, hK, hcell⟩

/-! ### the order -/
theorem lt_irrefl (a : T) : ¬ a < a := List.lt_irrefl a
theorem lt_trans {a b c : T} (h : a < b) (h2 : b < c) : a < c := List.lt_trans h h2
theorem le_iff (a b : T) : a ≤ b ↔ ¬ b < a := Iff.rfl
theorem lt_or (a b : T) : a < b ∨ a = b ∨ b < a := by
  by_cases h1 : a < b
  · exact .inl h1
  · by_cases h2 : b < a
    · exact .inr (.inr h2)
    · exact .inr (.inl (List.le_antisymm h2 h1))
theorem lt_of_le_lt {a b c : T} (h : a ≤ b) (h2 : b < c) : a < c := by
  rcases lt_or a b with h3 | rfl | h3
  · exact lt_trans h3 h2
  · exact h2
  · exact absurd h3 h
theorem lt_of_lt_le {a b c : T} (h : a < b) (h2 : b ≤ c) : a < c := by
  rcases lt_or b c with h3 | rfl | h3
  · exact lt_trans h h3
  · exact h
  · exact absurd h3 h2
theorem lt_of_le_ne {a b : T} (h : a ≤ b) (h2 : a ≠ b) : a < b := by
  rcases lt_or a b with h3 | rfl | h3
  · exact h3
  · exact absurd rfl h2
  · exact absurd h3 h
theorem le_trans {a b c : T} (h : a ≤ b) (h2 : b ≤ c) : a ≤ c := fun h3 => h2 (lt_of_lt_le h3 h)
/-- the texts, each once, rising -/
def built (l : List T) : List T := Go.Lib.compact (l.mergeSort fun x y => decide (x ≤ y))
theorem compact_rises (d : Array T) (h : ∀ i j, i ≤ j → j < d.size → d[i]! ≤ d[j]!) (m : Nat) (hm : m ≤ d.size) : (Go.Lib.compactUpTo d m).Pairwise (· < ·) := by
  unfold Go.Lib.compactUpTo
  rw [List.pairwise_map]
  have h1 : (List.range m).Pairwise (· < ·) := List.pairwise_lt_range
  refine (h1.filter (Go.Lib.keeps d)).imp_of_mem (fun {i j} hi hj hij => ?_)
  rw [List.mem_filter, List.mem_range] at hi hj
  have hk : j = 0 ∨ d[j]! ≠ d[j - 1]! := of_decide_eq_true hj.2
  rcases hk with hk | hk
  · omega
  · exact lt_of_le_lt (h i (j - 1) (by omega) (by omega)) (lt_of_le_ne (h (j - 1) j (by omega) (by omega)) (fun e => hk e.symm))
theorem compact_has (d : Array T) : ∀ k, ∃ j, j ≤ k ∧ Go.Lib.keeps d j = true ∧ d[j]! = d[k]!
  | 0 => ⟨0, Nat.le_refl _, by simp [Go.Lib.keeps], rfl⟩
  | k + 1 => by
    by_cases h : d[k + 1]! = d[k]!
    · obtain ⟨j, h1, h2, h3⟩ := compact_has d k
      exact ⟨j, by omega, h2, by rw [h3, h]⟩
    · exact ⟨k + 1, Nat.le_refl _, by simp [Go.Lib.keeps, h], rfl⟩
theorem compact_mem (d : Array T) (m : Nat) (y : T) : y ∈ Go.Lib.compactUpTo d m ↔ ∃ k, k < m ∧ d[k]! = y := by
  unfold Go.Lib.compactUpTo
  simp only [List.mem_map, List.mem_filter, List.mem_range]
  constructor
  · rintro ⟨j, ⟨h1, _⟩, h2⟩; exact ⟨j, h1, h2⟩
  · rintro ⟨k, h1, h2⟩
    obtain ⟨j, h3, h4, h5⟩ := compact_has d k
    exact ⟨j, ⟨by omega, h4⟩, by rw [h5, h2]⟩
theorem built_rises (l : List T) : (built l).Pairwise (· < ·) := by
  unfold built Go.Lib.compact
  refine compact_rises _ (fun i j hij hj => ?_) _ (by simp)
  have hs : (l.mergeSort fun x y => decide (x ≤ y)).Pairwise (fun x y => decide (x ≤ y) = true) := by
    refine List.pairwise_mergeSort (fun a b c h1 h2 => ?_) (fun a b => ?_) l
    · exact decide_eq_true (le_trans (of_decide_eq_true h1) (of_decide_eq_true h2))
    · rw [Bool.or_eq_true]
      rcases lt_or a b with h | rfl | h
      · exact .inl (decide_eq_true (fun h2 => lt_irrefl _ (lt_trans h h2)))
      · exact .inl (decide_eq_true (lt_irrefl a))
      · exact .inr (decide_eq_true (fun h2 => lt_irrefl _ (lt_trans h h2)))
  generalize (l.mergeSort fun x y => decide (x ≤ y)) = s at *
  have hj' : j < s.length := by simpa using hj
  have e1 : s.toArray[i]! = s[i] := by rw [getElem!_pos _ i (by simp; omega)]; rfl
  have e2 : s.toArray[j]! = s[j] := by rw [getElem!_pos _ j (by simpa using hj)]; rfl
  rw [e1, e2]
  rcases Nat.lt_or_eq_of_le hij with h | rfl
  · exact of_decide_eq_true (List.pairwise_iff_getElem.1 hs i j (by omega) hj' h)
  · exact lt_irrefl _
theorem built_mem (l : List T) (y : T) : y ∈ built l ↔ y ∈ l := by
  unfold built Go.Lib.compact
  rw [compact_mem]
  have hp : (l.mergeSort fun x y => decide (x ≤ y)).Perm l := List.mergeSort_perm l _
  rw [← hp.mem_iff]
  generalize (l.mergeSort fun x y => decide (x ≤ y)) = s
  constructor
  · rintro ⟨k, h1, rfl⟩
    rw [getElem!_pos _ k (by simpa using h1)]
    simp
  · intro h
    obtain ⟨k, hk, rfl⟩ := List.getElem_of_mem h
    exact ⟨k, hk, by rw [getElem!_pos _ k (by simpa using hk)]; rfl⟩
theorem built_le (l : List T) : (built l).length ≤ l.length := by
  unfold built
  exact Nat.le_trans (Go.Lib.compact_length_le _) (by simp)

/-! ### a text's place -/
def fromOf (l : List T) (s : T) : Nat := (l.takeWhile fun t => decide (t < s)).length
theorem fromOf_le (l : List T) (s : T) : fromOf l s ≤ l.length := by
  unfold fromOf
  exact (List.takeWhile_prefix _).length_le
theorem fromOf_lt : ∀ (l : List T) (s : T) (i : Nat), i < fromOf l s → l.getD i [] < s
  | [], s, i, h => by simp [fromOf] at h
  | x :: l, s, i, h => by
    unfold fromOf at h
    rw [List.takeWhile_cons] at h
    split at h
    · rename_i hx
      rcases i with _ | i
      · exact of_decide_eq_true hx
      · exact fromOf_lt l s i (by unfold fromOf; simpa using h)
    · simp at h
theorem fromOf_not : ∀ (l : List T) (s : T), fromOf l s < l.length → ¬ l.getD (fromOf l s) [] < s
  | [], s, h => by simp [fromOf] at h
  | x :: l, s, h => by
    have e : fromOf (x :: l) s = if x < s then fromOf l s + 1 else 0 := by
      unfold fromOf; rw [List.takeWhile_cons]; by_cases hx : x < s <;> simp [hx]
    rw [e] at h ⊢
    by_cases hx : x < s
    · rw [if_pos hx] at h ⊢
      simpa using fromOf_not l s (by simpa using h)
    · rw [if_neg hx]; simpa using hx
theorem fromOf_is (l : List T) (s : T) (k : Nat) (h1 : k ≤ l.length) (h2 : ∀ i, i < k → l.getD i [] < s) (h3 : k < l.length → ¬ l.getD k [] < s) : k = fromOf l s := by
  rcases Nat.lt_trichotomy k (fromOf l s) with h | h | h
  · exact absurd (fromOf_lt l s k h) (h3 (Nat.lt_of_lt_of_le h (fromOf_le l s)))
  · exact h
  · exact absurd (h2 _ h) (fromOf_not l s (by omega))
theorem rises_at {l : List T} (h : l.Pairwise (· < ·)) (i j : Nat) (hij : i < j) (hj : j < l.length) : l.getD i [] < l.getD j [] := by
  have := List.pairwise_iff_getElem.1 h i j (by omega) hj hij
  rw [List.getD_eq_getElem?_getD, List.getElem?_eq_getElem (by omega), List.getD_eq_getElem?_getD, List.getElem?_eq_getElem hj]
  exact this
theorem rises_le {l : List T} (h : l.Pairwise (· < ·)) (i j : Nat) (hij : i ≤ j) (hj : j < l.length) : l.getD i [] ≤ l.getD j [] := by
  rcases Nat.lt_or_eq_of_le hij with h2 | rfl
  · exact fun h3 => lt_irrefl _ (lt_trans h3 (rises_at h i j h2 hj))
  · exact lt_irrefl _
/-- a text's number -/
def has (l : List T) (s : T) : Bool := decide (fromOf l s < l.length ∧ l.getD (fromOf l s) [] = s)
theorem has_iff {l : List T} (h : l.Pairwise (· < ·)) (s : T) : has l s = true ↔ s ∈ l := by
  unfold has
  rw [decide_eq_true_iff]
  constructor
  · rintro ⟨h1, h2⟩
    rw [← h2, List.getD_eq_getElem?_getD, List.getElem?_eq_getElem h1]
    exact List.getElem_mem h1
  · intro hm
    obtain ⟨k, hk, rfl⟩ := List.getElem_of_mem hm
    have e : l.getD k [] = l[k] := by rw [List.getD_eq_getElem?_getD, List.getElem?_eq_getElem hk]; rfl
    have : k = fromOf l l[k] := fromOf_is l _ k (by omega) (fun i hi => by rw [← e]; exact rises_at h i k hi hk) (fun _ => by rw [e]; exact lt_irrefl _)
    rw [← this, e]
    exact ⟨hk, rfl⟩
theorem fromOf_at {l : List T} (h : l.Pairwise (· < ·)) (k : Nat) (hk : k < l.length) : fromOf l (l.getD k []) = k :=
  (fromOf_is l _ k (by omega) (fun i hi => rises_at h i k hi hk) (fun _ => lt_irrefl _)).symm

/-! ### beginnings -/
def begins (s p : T) : Bool := p.isPrefixOf s
theorem begins_iff (s p : T) : begins s p = true ↔ p <+: s := List.isPrefixOf_iff_prefix
theorem begins_take (s p : T) : begins s p = decide (p.length ≤ s.length ∧ s.take p.length = p) := by
  rw [Bool.eq_iff_iff, begins_iff, decide_eq_true_iff]
  constructor
  · intro h
    exact ⟨h.length_le, (List.prefix_iff_eq_take.1 h).symm⟩
  · rintro ⟨_, h⟩
    exact List.prefix_iff_eq_take.2 h.symm
theorem begins_ge : ∀ (p s : T), p <+: s → p ≤ s
  | [], s, _ => by intro h; cases s <;> cases h
  | x :: p, [], h => by simp at h
  | x :: p, y :: s, h => by
    rw [List.cons_prefix_cons] at h
    obtain ⟨rfl, h⟩ := h
    have := begins_ge p s h
    intro h2
    rw [List.cons_lt_cons_iff] at h2
    rcases h2 with h2 | ⟨_, h2⟩
    · exact absurd h2 (UInt8.lt_irrefl _)
    · exact this h2
/-- between a text and what begins with it lies only what begins with it -/
theorem begins_mid : ∀ (p a b : T), p ≤ a → a ≤ b → p <+: b → p <+: a
  | [], a, b, _, _, _ => List.nil_prefix
  | x :: p, [], b, h, _, _ => absurd (by exact List.nil_lt_cons x p) h
  | x :: p, y :: a, [], _, _, h => by simp at h
  | x :: p, y :: a, z :: b, h1, h2, h3 => by
    rw [List.cons_prefix_cons] at h3
    obtain ⟨rfl, h3⟩ := h3
    have e1 : ¬ y < x := fun h => h1 (by rw [List.cons_lt_cons_iff]; exact .inl h)
    have e2 : ¬ x < y := fun h => h2 (by rw [List.cons_lt_cons_iff]; exact .inl h)
    have e : x = y := by
      apply UInt8.toNat_inj.1
      have e1' : ¬ y.toNat < x.toNat := fun h => e1 (UInt8.lt_iff_toNat_lt.2 h)
      have e2' : ¬ x.toNat < y.toNat := fun h => e2 (UInt8.lt_iff_toNat_lt.2 h)
      omega
    subst e
    rw [List.cons_prefix_cons]
    refine ⟨rfl, begins_mid p a b (fun h => h1 ?_) (fun h => h2 ?_) h3⟩
    · rw [List.cons_lt_cons_iff]; exact .inr ⟨rfl, h⟩
    · rw [List.cons_lt_cons_iff]; exact .inr ⟨rfl, h⟩
end Go.Proofs.Ytomgfhapmhagnaa.Txt
