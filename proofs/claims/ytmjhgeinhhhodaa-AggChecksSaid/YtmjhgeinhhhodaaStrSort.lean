/- Rows of strings sorted, and each told once: as texts, and as strings. -/
import Derived.Test.YtmjhgeinhhhodaaTextA
import Derived.Test.YtmjhgeinhhhodaaExtGrow
namespace Go.Proofs.Ytmjhgeinhhhodaa.P
set_option linter.unusedVariables false
set_option linter.unusedSimpArgs false
open Go.RowKit Go.Proofs.YtmjhgeinhhhodaaW.PrintWords Go.Proofs.YtmjhgeinhhhodaaW.PrintLast Go.Proofs.YtmjhgeinhhhodaaW.PrintMore Go.Proofs.Ytmjhgeinhhhodaa.Lib
open Go.Proofs.Ytmjhgeinhhhodaa

def txts (l : List ByteArray) : List Txt.T := l.map (·.data.toList)
def strs (l : List Txt.T) : List ByteArray := l.map Txt.bs
theorem strs_txts (l : List ByteArray) : strs (txts l) = l := by
  unfold strs txts
  rw [List.map_map]
  exact (List.map_congr_left (fun x _ => Txt.bs_of x)).trans (List.map_id l)
theorem txts_strs (l : List Txt.T) : txts (strs l) = l := by
  unfold strs txts
  rw [List.map_map]
  exact (List.map_congr_left (fun x _ => rfl)).trans (List.map_id l)
theorem txts_length (l : List ByteArray) : (txts l).length = l.length := List.length_map ..
theorem strs_length (l : List Txt.T) : (strs l).length = l.length := List.length_map ..
theorem R_txts {e : Nat} {w : World} {base : Nat} {ok : Nat → Prop} {v : Value} {l : List ByteArray} (h : Kd.R Kd.string e w base ok v l) : Kd.R Txt.text e w base ok v (txts l) := by
  have ho := Kd.own_of_R h
  refine Kd.R_of_own ?_ h.1
  rw [txts_length]
  have e : encs encStr (txts l) = encs Value.string l := by
    unfold txts
    simp only [encs, List.map_map]
    exact List.map_congr_left (fun x _ => rfl)
  rw [e]
  exact ho
theorem R_strs {e : Nat} {w : World} {base : Nat} {ok : Nat → Prop} {v : Value} {l : List Txt.T} (h : Kd.R Txt.text e w base ok v l) : Kd.R Kd.string e w base ok v (strs l) := by
  have ho := Kd.own_of_R h
  refine Kd.R_of_own ?_ h.1
  rw [strs_length]
  have e : encs Value.string (strs l) = encs encStr l := by
    unfold strs
    simp only [encs, List.map_map]
    exact List.map_congr_left (fun x _ => rfl)
  rw [e]
  exact ho
/-- the strings of a row sorted -/
def sortB (l : List ByteArray) : List ByteArray := strs ((txts l).mergeSort fun x y => decide (x ≤ y))
/-- neighbours that are the same told once -/
def compactB (l : List ByteArray) : List ByteArray := strs (Go.Lib.compact (txts l))
/-- sorted, each once -/
def builtB (l : List ByteArray) : List ByteArray := strs (Txt.built (txts l))
theorem sortB_length (l : List ByteArray) : (sortB l).length = l.length := by unfold sortB; rw [strs_length, List.length_mergeSort, txts_length]
theorem built_is (l : List ByteArray) : compactB (sortB l) = builtB l := by unfold compactB sortB builtB; rw [txts_strs]; rfl
theorem sort_strings (l : List ByteArray) (w : World) (base : Nat) (ok : Nat → Prop) (A : Option Addr) (n c : Nat) (h : Kd.R Kd.string 9 w base ok (.slice A n c) l) (hl : l.length < 4611686018427387904) :
    Calls Try.prog 30 #[.slice A n c] w fun e w' => e = .returned (.tuple #[]) ∧ Kd.R Kd.string 9 w' base ok (.slice A n c) (sortB l) ∧ w.grownBy w' (Value.slice A n c).ownBlock :=
  (Txt.sort_texts (txts l) w base ok A n c (R_txts h) (by rw [txts_length]; exact hl)).mono fun e w' ⟨h1, h2, h3⟩ => ⟨h1, R_strs h2, h3⟩
theorem compact_strings (l : List ByteArray) (w : World) (base : Nat) (ok : Nat → Prop) (A : Option Addr) (n c : Nat) (h : Kd.R Kd.string 9 w base ok (.slice A n c) l) (hl : l.length < 4611686018427387904) :
    Calls Try.prog 31 #[.slice A n c] w fun e w' => ∃ v, e = .returned v ∧ Kd.R Kd.string 9 w' base ok v (compactB l) ∧ v = .slice A (compactB l).length c ∧ w.grownBy w' (Value.slice A n c).ownBlock :=
  (Txt.compact_texts (txts l) w base ok A n c (R_txts h) (by rw [txts_length]; exact hl)).mono fun e w' ⟨h1, h2, h3⟩ => by
    have e1 : (compactB l).length = (Go.Lib.compact (txts l)).length := strs_length _
    exact ⟨_, h1, R_strs h2, by rw [e1], h3⟩
end Go.Proofs.Ytmjhgeinhhhodaa.P
