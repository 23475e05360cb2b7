/- Opening a law's arguments into the words of the contracts. -/
import Derived.Test.YtomgfhapmhagnaaLib
import Derived.ProofKit
import Derived.OpenShut
namespace Go.Proofs.Ytomgfhapmhagnaa.Lib
set_option linter.unusedVariables false
set_option linter.unusedSimpArgs false
open Go.RowKit Go.Proofs.YtomgfhapmhagnaaW.PrintWords
open Go.ChangeShapes Go.WideShapes Go.ChangeAt

/-- A slice of whole numbers that came in: its numbers, each fitting its kind. -/
theorem open_nums {H : Type} {enc : TypeId × Value → H} {P : Program} {W : World} {base : Nat} {held : Bool} {t e : TypeId} {k : IntKind} {a : Option Addr} {len cap : Nat} {d : DataW H} {p : List MemPlace}
    (ht : P.underlying t = some (.slice e)) (he : P.underlying e = some (.int k)) (hc : P.cellsOf e = 1)
    (h : DataW.Trod enc P W base (fun _ => true) held t (.slice a len cap) d p) :
    ∃ xs : List Int, len ≤ cap ∧ cap ≤ maxLen ∧ (Kd.int k).C W a len xs ∧ ∀ x ∈ xs, (Lit.int k x).wf = true := by
  obtain ⟨fuel, hf⟩ := h
  rcases open_ints ht he hc hf with ⟨hcs, _⟩ | ⟨x, l, c, zs, hcs, _, hl, hm, hz, _, hcell, hwz⟩
  · simp [Value.cells] at hcs
    obtain ⟨rfl, rfl, rfl⟩ := hcs
    exact ⟨[], Nat.le_refl _, by decide, Kd.C_nil _ _, fun _ h => by cases h⟩
  · simp [Value.cells] at hcs
    obtain ⟨rfl, rfl, rfl⟩ := hcs
    refine ⟨zs.take len, hl, hm, ?_, fun y hy => hwz y (List.mem_of_mem_take hy)⟩
    have hz' : zs.length = cap := by simpa using hz
    refine ⟨by rw [List.length_take, hz']; exact Nat.min_eq_left hl, Nat.le_trans hl (by simpa [maxLen] using hm), fun hn => ⟨x, rfl, fun j p hj => ⟨[.int k p], rfl, rfl, fun i u hu => ?_⟩⟩⟩
    have hi : i = 0 := by
      rcases i with _ | i
      · rfl
      · simp at hu
    subst hi
    simp only [List.getElem?_cons_zero, Option.some.injEq] at hu
    subst hu
    have e1 : (Kd.int k).sz = 1 := rfl
    have hjl : j < len := by
      have := (List.getElem?_eq_some_iff.1 hj).1
      rw [List.length_take] at this
      omega
    rw [e1, Nat.mul_one, Nat.add_zero, hcell j (by omega), List.getD_eq_getElem?_getD]
    rw [List.getElem?_take, if_pos hjl] at hj
    rw [hj]; rfl
theorem open_bytes {H : Type} {enc : TypeId × Value → H} {P : Program} {W : World} {base : Nat} {held : Bool} {t e : TypeId} {a : Option Addr} {len cap : Nat} {d : DataW H} {p : List MemPlace}
    (ht : P.underlying t = some (.slice e)) (he : P.underlying e = some (.int .u8)) (hc : P.cellsOf e = 1)
    (h : DataW.Trod enc P W base (fun _ => true) held t (.slice a len cap) d p) :
    ∃ xs : List Int, len ≤ cap ∧ (Kd.int .u8).C W a len xs ∧ Bytes xs := by
  obtain ⟨xs, h1, _, h2, h3⟩ := open_nums ht he hc h
  refine ⟨xs, h1, h2, fun x hx => ?_⟩
  have := bounds_u8 (h3 x hx)
  omega
end Go.Proofs.Ytomgfhapmhagnaa.Lib
