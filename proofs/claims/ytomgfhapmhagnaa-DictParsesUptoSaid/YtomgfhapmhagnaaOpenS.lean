/- Opening a law's texts into the words of the contracts. -/
import Derived.Test.YtomgfhapmhagnaaText
import Derived.Test.YtomgfhapmhagnaaOpen
import Derived.SliceStrings
import Derived.SizedLaws
namespace Go.Proofs.Ytomgfhapmhagnaa.Txt
set_option linter.unusedVariables false
set_option linter.unusedSimpArgs false
open Go.RowKit Go.Proofs.YtomgfhapmhagnaaW.PrintWords
open Go.ChangeShapes Go.WideShapes Go.ChangeAt

/-- A slice of strings that came in: its texts; what is weighed. -/
theorem open_texts {H : Type} {enc : TypeId × Value → H} {P : Program} {W : World} {base : Nat} {held : Bool} {t e : TypeId} {a : Option Addr} {len cap : Nat} {d : DataW H} {p : List MemPlace}
    (ht : P.underlying t = some (.slice e)) (he : P.underlying e = some .string) (hc : P.cellsOf e = 1)
    (h : DataW.Trod enc P W base (fun _ => true) held t (.slice a len cap) d p) :
    ∃ xs : List T, len ≤ cap ∧ text.C W a len xs ∧ ((len = 0) ∨ ∃ el sp, d = .slice el sp ∧ el.length = len) := by
  obtain ⟨fuel, hf⟩ := h
  rcases open_strings ht he hc hf with ⟨hcs, _⟩ | ⟨x, l, c, ss, hcs, _, hl, hm, hz, hx, hcell, _⟩
  · simp [Value.cells] at hcs
    obtain ⟨rfl, rfl, rfl⟩ := hcs
    exact ⟨[], Nat.le_refl _, Kd.C_nil _ _, .inl rfl⟩
  · simp [Value.cells] at hcs
    obtain ⟨rfl, rfl, rfl⟩ := hcs
    have hz' : ss.length = cap := by simpa using hz
    simp only [Prod.mk.injEq] at hx
    refine ⟨(ss.take len).map (·.data.toList), hl, ?_, .inr ⟨_, _, hx.1, by simp [strs]; omega⟩⟩
    refine ⟨by rw [List.length_map, List.length_take, hz']; exact Nat.min_eq_left hl, Nat.le_trans hl (by simpa [maxLen] using hm), fun hn => ⟨x, rfl, fun j q hj => ⟨[.string (bs q)], rfl, rfl, fun i u hu => ?_⟩⟩⟩
    have hi : i = 0 := by
      rcases i with _ | i
      · rfl
      · simp at hu
    subst hi
    simp only [List.getElem?_cons_zero, Option.some.injEq] at hu
    subst hu
    have e1 : text.sz = 1 := rfl
    have hjl : j < len := by
      have := (List.getElem?_eq_some_iff.1 hj).1
      rw [List.length_map, List.length_take] at this
      omega
    rw [e1, Nat.mul_one, Nat.add_zero, hcell j (by omega), List.getD_eq_getElem?_getD]
    rw [List.getElem?_map, List.getElem?_take, if_pos hjl, Option.map_eq_some_iff] at hj
    obtain ⟨s, hs, rfl⟩ := hj
    rw [hs]; rfl
theorem texts_sized {H : Type} {P : Program} {len : Nat} {d : DataW H} {e : TypeId} (hD : (len = 0) ∨ ∃ el sp, d = DataW.slice el sp ∧ el.length = len) (hb : P.bytesOf e = 16)
    (h : ∀ el sp, d = DataW.slice el sp → (el.length + sp.length) * P.bytesOf e ≤ reachBytes) : len * 16 ≤ 140737488355328 := by
  rcases hD with rfl | ⟨el, sp, he, rfl⟩
  · decide
  · have h1 := h el sp he
    rw [hb] at h1
    have h2 := reachBytes_lt
    have h3 : (2 : Nat) ^ 47 = 140737488355328 := by decide
    have h4 : el.length * 16 ≤ (el.length + sp.length) * 16 := Nat.mul_le_mul_right _ (Nat.le_add_right _ _)
    omega
theorem texts_sized_lt {H : Type} {P : Program} {len : Nat} {d : DataW H} {e : TypeId} (hD : (len = 0) ∨ ∃ el sp, d = DataW.slice el sp ∧ el.length = len) (hb : P.bytesOf e = 16)
    (h : ∀ el sp, d = DataW.slice el sp → (el.length + sp.length) * P.bytesOf e ≤ reachBytes) : len * 16 < 140737488355328 := by
  rcases hD with rfl | ⟨el, sp, he, rfl⟩
  · decide
  · have h1 := h el sp he
    rw [hb] at h1
    have h2 := reachBytes_lt
    have h3 : (2 : Nat) ^ 47 = 140737488355328 := by decide
    have h4 : el.length * 16 ≤ (el.length + sp.length) * 16 := Nat.mul_le_mul_right _ (Nat.le_add_right _ _)
    omega
end Go.Proofs.Ytomgfhapmhagnaa.Txt
