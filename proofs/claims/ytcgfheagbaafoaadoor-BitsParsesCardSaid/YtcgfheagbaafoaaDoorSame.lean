/- Chapter 02's statements: same. -/
import Derived.Test.YtcgfheagbaafoaaDoorMadeLaw
namespace Go.Proofs.YtcgfheagbaafoaaDoor.Sets
set_option linter.unusedVariables false
set_option linter.unusedSimpArgs false
open Go.RowKit Go.Proofs.YtcgfheagbaafoaaDoorW.PrintWords Go.Proofs.YtcgfheagbaafoaaDoorW.PrintLast Go.Proofs.YtcgfheagbaafoaaDoorW.PrintMore Go.Proofs.YtcgfheagbaafoaaDoor.Lib Go.Proofs.YtcgfheagbaafoaaDoor.Pack Go.Proofs.YtcgfheagbaafoaaDoor.PackA

set_option maxRecDepth 100000 in
set_option maxHeartbeats 400000 in
theorem same_calls (xs : List Int) (A B : Option Addr) (n m c d : Nat) (w : World) (hA : Kd.C (Kd.int .i64) w A n xs) (hB : Kd.C (Kd.int .i64) w B m xs) :
    Calls Tryd.prog 38 #[.slice A n c, .slice B m d] w fun e w' => e = .returned (.bool true) ∧ Drawn0 w w' := by
  have HA := Aside0.mk hA
  have HB := Aside0.mk hB
  obtain rfl := hA.1
  obtain rfl := hB.1
  have hm := hA.2.1
  clear hA hB
  go_enter Tryd.func38, Tryd.ntmps38
  go_wp2_with fail
  go_loopw [5] (fun i w' => ∃ k : Nat, k ≤ xs.length ∧ i = .int .i64 k ∧ Drawn0 w w') (fun i _ => xs.length - (intOf i).toNat)
  case atStart => exact ⟨0, by omega, rfl, Drawn0.refl _⟩
  case round =>
    obtain ⟨k, hk, rfl, ⟨m1, rfl⟩⟩ := hrel
    by_cases hlt : k < xs.length
    · obtain ⟨ad, e, hcell⟩ := Kd.at_int HA.out k (by omega) (by omega)
      subst e
      obtain ⟨ad2, e, hcell2⟩ := Kd.at_int HB.out k (by omega) (by omega)
      subst e
      simp only [Int.toNat_natCast, rd_nat] at hcell hcell2
      have hi1 : (k : Int) < (xs.length : Int) := by omega
      have hi0 : (0 : Int) ≤ (k : Int) := by omega
      generalize xs.getD k 0 = bx at *
      have hbb : (bx != bx) = false := by simp
      go_wp2
      go_quiet (fail)
      go_wp2
      go_roundw
      case rel => exact ⟨k + 1, by omega, by go_num, by repeat (first | exact Drawn0.refl _ | apply Drawn0.step)⟩
      case measure => simp [intOf]; omega
    · have : k = xs.length := by omega
      subst this
      go_wp2
      go_ret
      exact ⟨rfl, by repeat (first | exact Drawn0.refl _ | apply Drawn0.step)⟩
end Go.Proofs.YtcgfheagbaafoaaDoor.Sets
