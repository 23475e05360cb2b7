/- bits.Width and the document's. -/
import Derived.Test.YtcgfheagbaafoaaRefUnpack
import Derived.Test.YtcgfheagbaafoaaShelf
namespace Go.Proofs.Ytcgfheagbaafoaa.PackA
set_option linter.unusedVariables false
set_option linter.unusedSimpArgs false
open Go.RowKit Go.Proofs.YtcgfheagbaafoaaW.PrintWords Go.Proofs.YtcgfheagbaafoaaW.PrintLast Go.Proofs.YtcgfheagbaafoaaW.PrintMore Go.Proofs.Ytcgfheagbaafoaa.Lib Go.Proofs.Ytcgfheagbaafoaa.Pack

def widthOf (n : Int) : Nat := if n < 1 then 0 else Lib.bitLen (n - 1).toNat

set_option maxRecDepth 100000 in
set_option maxHeartbeats 400000 in
theorem width_calls (n : Int) (w : World) (h0 : -9223372036854775808 ≤ n) (h1 : n ≤ 9223372036854775807) :
    Calls Try.prog 9 #[.int .i64 n] w fun e w' => e = .returned (.int .i64 (widthOf n : Nat)) ∧ w = w' := by
  by_cases h : n < 1
  · have HW := Aside0.mk (show widthOf n = 0 by unfold widthOf; rw [if_pos h])
    go_enter Try.func9, Try.ntmps9
    go_wp2
    go_ret
    exact ⟨by rw [HW.out]; rfl, rfl⟩
  · obtain ⟨m, hm⟩ := Int.eq_ofNat_of_zero_le (show 0 ≤ n - 1 by omega)
    have HW := Aside0.mk (show widthOf n = Lib.bitLen m by unfold widthOf; rw [if_neg h, hm, Int.toNat_natCast])
    obtain rfl : n = (m : Int) + 1 := by omega
    have hm2 : (m : Int) ≤ 18446744073709551615 := by omega
    clear hm
    go_enter Try.func9, Try.ntmps9
    go_wp2_with fail
    refine (Try.bits_Len (m : Int) w (by omega) hm2).mono ?_
    rintro e w1 ⟨rfl, rfl⟩
    rw [Int.toNat_natCast]
    generalize Lib.bitLen m = bl at *
    go_wp2_with fail
    go_ret
    exact ⟨by rw [HW.out]; rfl, rfl⟩

theorem widthOf_le (n : Int) (h1 : n ≤ 9223372036854775807) : widthOf n ≤ 63 := by
  unfold widthOf
  split
  · omega
  · exact Lib.bitLen_le _ 63 (by omega) (by omega)
theorem lenAux_fits : ∀ (f x : Nat), x < 2 ^ f → x < 2 ^ Lib.bitLenAux f x
  | 0, x, h => by simpa [Lib.bitLenAux] using h
  | f + 1, x, h => by
    unfold Lib.bitLenAux
    split
    · omega
    · have := lenAux_fits f (x / 2) (by rw [Nat.pow_succ] at h; omega)
      rw [Nat.add_comm, Nat.pow_succ]
      omega
theorem widthOf_fits (n : Int) (v : Int) (h : v < n) (h0 : 0 ≤ v) (h1 : n ≤ 9223372036854775807) : v < ((2 ^ widthOf n : Nat) : Int) := by
  unfold widthOf
  rw [if_neg (by omega)]
  have := lenAux_fits 64 (n - 1).toNat (by omega)
  unfold Lib.bitLen
  omega
theorem widthOf_min (n : Int) (k : Nat) (hk : k ≤ 64) (h : n ≤ ((2 ^ k : Nat) : Int)) : widthOf n ≤ k := by
  unfold widthOf
  split
  · omega
  · exact Lib.bitLen_le _ k hk (by omega)
theorem widthOf_grows (n : Int) (k : Nat) (h1 : n ≤ 9223372036854775807) (h : ((2 ^ k : Nat) : Int) < n) : k < widthOf n := by
  have hp : 0 < 2 ^ k := Nat.pow_pos (by decide)
  refine Nat.lt_of_not_le (fun h2 => ?_)
  have h3 := widthOf_fits n (n - 1) (by omega) (by omega) h1
  have h4 : 2 ^ widthOf n ≤ 2 ^ k := Nat.pow_le_pow_right (by decide) h2
  omega
theorem pow62_w (w : Nat) (h : w < 63) : wrap64 ((2 : Int) ^ w) = ((2 ^ w : Nat) : Int) := by
  have h2 : 2 ^ w ≤ 2 ^ 62 := Nat.pow_le_pow_right (by decide) (by omega)
  have e : (2 : Int) ^ w = ((2 ^ w : Nat) : Int) := by simp
  rw [e]
  generalize 2 ^ w = p at *
  exact IntWalk.wrap64_in _ (by omega)

set_option maxRecDepth 100000 in
set_option maxHeartbeats 400000 in
theorem refwidth_calls (n : Int) (w : World) (h0 : -9223372036854775808 ≤ n) (h1 : n ≤ 9223372036854775807) :
    Calls Try.prog 10 #[.int .i64 n] w fun e w' => e = .returned (.int .i64 (widthOf n : Nat)) ∧ w = w' := by
  have HMx := Aside0.mk (widthOf_le n h1)
  go_enter Try.func10, Try.ntmps10
  go_wp2_with fail
  go_loop [3] (fun wv => ∃ k : Nat, k ≤ 63 ∧ wv = .int .i64 k ∧ Aside0 (k ≤ widthOf n)) (fun wv => 63 - (intOf wv).toNat)
  case atStart => exact ⟨0, by omega, rfl, ⟨Nat.zero_le _⟩⟩
  case round =>
    obtain ⟨k, hk, rfl, HK⟩ := hrel
    by_cases hk63 : k < 63
    · have hpw := pow62_w k hk63
      have hp62 : 2 ^ k ≤ 2 ^ 62 := Nat.pow_le_pow_right (by decide) (by omega)
      by_cases hg : ((2 ^ k : Nat) : Int) < n
      · have HK2 := Aside0.mk (Nat.succ_le_of_lt (widthOf_grows n k h1 hg))
        clear hp62 HK HMx
        generalize 2 ^ k = p at *
        have hd : decide ((p : Int) < n) = true := decide_eq_true hg
        clear hg
        go_wp2_with fail
        go_round
        case rel => exact ⟨k + 1, by omega, by go_num, HK2⟩
        case measure => simp [intOf]; omega
      · have HE := Aside0.mk (show widthOf n = k by have := widthOf_min n k (by omega) (by omega); have := HK.out; omega)
        have hn62 : n ≤ 4611686018427387904 := by omega
        clear hp62 HK HMx
        generalize 2 ^ k = p at *
        have hd : decide ((p : Int) < n) = false := decide_eq_false hg
        clear hg
        go_wp2_with fail
        go_ret
        exact ⟨by rw [HE.out]; rfl, rfl⟩
    · have : k = 63 := by omega
      subst this
      have hn62 : 4611686018427387904 < n := by
        refine Int.not_le.1 (fun h => ?_)
        have h2 := widthOf_min n 62 (by omega) (by omega)
        have h3 := HK.out
        omega
      have HE := Aside0.mk (show widthOf n = 63 by have := HMx.out; have := HK.out; omega)
      clear HK HMx
      go_wp2_with fail
      go_ret
      exact ⟨by rw [HE.out]; rfl, rfl⟩
end Go.Proofs.Ytcgfheagbaafoaa.PackA
