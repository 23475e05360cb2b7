/- The listed table lies in its variable. -/
import Derived.Test.YtcgfheagbaafoaaDoorRows
import Derived.Test.YtcgfheagbaafoaaDoorList
import Derived.LaidMore
import Derived.Stop.Joined
import Derived.SevenTiedAt
import Derived.Lib.LaidTab
import Derived.MakeChecks
namespace Go.Proofs.YtcgfheagbaafoaaDoor.Sets
set_option linter.unusedVariables false
open Go.RowKit Go.Proofs.YtcgfheagbaafoaaDoorW.PrintWords Go.Proofs.YtcgfheagbaafoaaDoor.Lib

theorem tab_of {W : World} (hL : laidMetH Tryd.prog [("math/bits.deBruijn64tab", Rows.laid_math_bits_deBruijn64tab)] W) : Tab W := by
  rw [MakeChecks.laidMetH_plain _ _ _ (by kernel_rfl)] at hL
  have h : Go.Lib.TabIs Tryd.prog W "math/bits.deBruijn64tab" .u8 (Go.Lib.deBruijn64tab.map fun n => ((n : Nat) : Int)) :=
    Go.Lib.tabIs_of_head (g := 0) (t := 63) (e := 5) (n := 64) (by kernel_rfl) (by kernel_rfl) Tryd.underlying63 Tryd.underlying5 (by kernel_rfl) (by kernel_rfl) hL
  have hc : ∀ j, j < Go.Lib.deBruijn64tab.length → W.cell? ⟨0, j, none⟩ = some (.int .u8 (Go.Lib.deBruijn64tab.getD j 0)) := fun j hj => by
    rw [h.cell (by kernel_rfl) j (by rw [List.length_map]; exact hj)]
    simp [List.getD_eq_getElem?_getD, List.getElem?_eq_getElem hj]
  refine ⟨hc, ?_⟩
  have h0 := hc 0 (by decide)
  exact World.block_lt_of_cell? W _ h0
end Go.Proofs.YtcgfheagbaafoaaDoor.Sets
