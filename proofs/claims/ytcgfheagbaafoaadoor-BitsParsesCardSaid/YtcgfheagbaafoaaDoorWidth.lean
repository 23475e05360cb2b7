/- bits.Width: what it answers. -/
import Derived.Test.YtcgfheagbaafoaaDoorPackA
import Derived.Test.YtcgfheagbaafoaaDoorShelf
namespace Go.Proofs.YtcgfheagbaafoaaDoor.PackA
set_option linter.unusedVariables false
set_option linter.unusedSimpArgs false
open Go.RowKit Go.Proofs.YtcgfheagbaafoaaDoorW.PrintWords Go.Proofs.YtcgfheagbaafoaaDoorW.PrintLast Go.Proofs.YtcgfheagbaafoaaDoorW.PrintMore Go.Proofs.YtcgfheagbaafoaaDoor.Lib Go.Proofs.YtcgfheagbaafoaaDoor.Pack

def widthOf (n : Int) : Nat := if n < 1 then 0 else Lib.bitLen (n - 1).toNat

set_option maxRecDepth 100000 in
set_option maxHeartbeats 400000 in
theorem width_calls (n : Int) (w : World) (h0 : -9223372036854775808 ≤ n) (h1 : n ≤ 9223372036854775807) :
    Calls Tryd.prog 26 #[.int .i64 n] w fun e w' => e = .returned (.int .i64 (widthOf n : Nat)) ∧ w = w' := by
  by_cases h : n < 1
  · have HW := Aside0.mk (show widthOf n = 0 by unfold widthOf; rw [if_pos h])
    go_enter Tryd.func26, Tryd.ntmps26
    go_wp2
    go_ret
    exact ⟨by rw [HW.out]; rfl, rfl⟩
  · obtain ⟨m, hm⟩ := Int.eq_ofNat_of_zero_le (show 0 ≤ n - 1 by omega)
    have HW := Aside0.mk (show widthOf n = Lib.bitLen m by unfold widthOf; rw [if_neg h, hm, Int.toNat_natCast])
    obtain rfl : n = (m : Int) + 1 := by omega
    have hm2 : (m : Int) ≤ 18446744073709551615 := by omega
    clear hm
    go_enter Tryd.func26, Tryd.ntmps26
    go_wp2_with fail
    refine (Tryd.bits_Len (m : Int) w (by omega) hm2).mono ?_
    rintro e w1 ⟨rfl, rfl⟩
    rw [Int.toNat_natCast]
    generalize Lib.bitLen m = bl at *
    go_wp2_with fail
    go_ret
    exact ⟨by rw [HW.out]; rfl, rfl⟩

theorem widthOf_le (n : Int) (h1 : n ≤ 9223372036854775807) : widthOf n ≤ 63 := by
  unfold widthOf
  split
  · omega
  · exact Lib.bitLen_le _ 63 (by omega) (by omega)
theorem lenAux_fits : ∀ (f x : Nat), x < 2 ^ f → x < 2 ^ Lib.bitLenAux f x
  | 0, x, h => by simpa [Lib.bitLenAux] using h
  | f + 1, x, h => by
    unfold Lib.bitLenAux
    split
    · omega
    · have := lenAux_fits f (x / 2) (by rw [Nat.pow_succ] at h; omega)
      rw [Nat.add_comm, Nat.pow_succ]
      omega
theorem widthOf_fits (n : Int) (v : Int) (h : v < n) (h0 : 0 ≤ v) (h1 : n ≤ 9223372036854775807) : v < ((2 ^ widthOf n : Nat) : Int) := by
  unfold widthOf
  rw [if_neg (by omega)]
  have := lenAux_fits 64 (n - 1).toNat (by omega)
  unfold Lib.bitLen
  omega
theorem widthOf_min (n : Int) (k : Nat) (hk : k ≤ 64) (h : n ≤ ((2 ^ k : Nat) : Int)) : widthOf n ≤ k := by
  unfold widthOf
  split
  · omega
  · exact Lib.bitLen_le _ k hk (by omega)
theorem widthOf_grows (n : Int) (k : Nat) (h1 : n ≤ 9223372036854775807) (h : ((2 ^ k : Nat) : Int) < n) : k < widthOf n := by
  have hp : 0 < 2 ^ k := Nat.pow_pos (by decide)
  refine Nat.lt_of_not_le (fun h2 => ?_)
  have h3 := widthOf_fits n (n - 1) (by omega) (by omega) h1
  have h4 : 2 ^ widthOf n ≤ 2 ^ k := Nat.pow_le_pow_right (by decide) h2
  omega
end Go.Proofs.YtcgfheagbaafoaaDoor.PackA
