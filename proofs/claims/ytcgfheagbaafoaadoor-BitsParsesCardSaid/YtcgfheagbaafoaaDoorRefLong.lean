/- gristmillref02.long and bit: what they answer. -/
import Derived.Test.YtcgfheagbaafoaaDoorPackA
import Derived.Test.YtcgfheagbaafoaaDoorUnpack
namespace Go.Proofs.YtcgfheagbaafoaaDoor.PackA
set_option linter.unusedVariables false
set_option linter.unusedSimpArgs false
open Go.RowKit Go.Proofs.YtcgfheagbaafoaaDoorW.PrintWords Go.Proofs.YtcgfheagbaafoaaDoorW.PrintLast Go.Proofs.YtcgfheagbaafoaaDoorW.PrintMore Go.Proofs.YtcgfheagbaafoaaDoor.Lib Go.Proofs.YtcgfheagbaafoaaDoor.Pack

set_option maxRecDepth 100000 in
set_option maxHeartbeats 400000 in
theorem reflong_calls (n : Nat) (w : World) (hn : n ≤ 4611686018427387904) :
    Calls Tryd.prog 36 #[.int .i64 n] w fun e w' => e = .returned (.int .i64 (long n : Nat)) ∧ w = w' := by
  have hr := tmod8_w n
  by_cases h : n % 8 = 0
  · have ht : (((n % 8 : Nat) : Int) != 0) = false := by rw [h]; rfl
    have HL := Aside0.mk (show ((long n : Nat) : Int) = (n : Int) / 8 by unfold long; omega)
    generalize n % 8 = r at *
    clear h
    go_enter Tryd.func36, Tryd.ntmps36
    go_wp2
    go_ret
    exact ⟨by rw [HL.out]; rfl, rfl⟩
  · have ht : (((n % 8 : Nat) : Int) != 0) = true := by rw [bne_iff_ne]; omega
    have HL := Aside0.mk (show ((long n : Nat) : Int) = (n : Int) / 8 + 1 by unfold long; omega)
    generalize n % 8 = r at *
    clear h
    go_enter Tryd.func36, Tryd.ntmps36
    go_wp2
    go_ret
    exact ⟨by rw [HL.out]; rfl, rfl⟩

theorem bit_two (cn r : Nat) : (((cn : Int) / 2 ^ r).tmod 2) = ((cn / 2 ^ r % 2 : Nat) : Int) := by
  have e1 : (cn : Int) / 2 ^ r = ((cn / 2 ^ r : Nat) : Int) := by simp
  rw [e1]
  generalize cn / 2 ^ r = z
  rw [Int.tmod_eq_emod_of_nonneg (by omega)]; omega

set_option maxRecDepth 100000 in
set_option maxHeartbeats 400000 in
theorem refbit_calls (b : List Int) (A : Option Addr) (m c i : Nat) (w : World) (hC : Kd.C (Kd.int .u8) w A m b) (hb : Bytes b) (hi : i < 8 * m) (hi2 : i ≤ 4611686018427387904) :
    Calls Tryd.prog 37 #[.slice A m c, .int .i64 i] w fun e w' => e = .returned (.int .i64 (bit b i : Nat)) ∧ w = w' := by
  have hqm : i / 8 < m := by omega
  obtain ⟨ad, e, hcell⟩ := Kd.at_int hC ((i / 8 : Nat) : Int) (by omega) (by omega)
  subst e
  simp only [Int.toNat_natCast, rd_nat] at hcell
  have hbb := hb.getD (i / 8)
  have HLB := Aside0.mk (show bit b i = (b.getD (i / 8) 0).toNat / 2 ^ (i % 8) % 2 from rfl)
  generalize b.getD (i / 8) 0 = cc at *
  obtain ⟨cn, rfl⟩ := Int.eq_ofNat_of_zero_le hbb.1
  rw [Int.toNat_natCast] at HLB
  have hcn : cn < 256 := by omega
  have hm9 : m ≤ 9223372036854775807 := by have := hC.2.1; have := hC.1; omega
  have hr9 : i % 8 < 8 := Nat.mod_lt _ (by decide)
  have hr8 := tmod8_w i
  have hbt := bit_two cn (i % 8)
  obtain ⟨r, hr⟩ : ∃ r, i % 8 = r := ⟨_, rfl⟩
  rw [hr] at hr9 hr8 hbt HLB
  clear hr hbb
  go_enter Tryd.func37, Tryd.ntmps37
  go_wp2_with fail
  go_ret
  exact ⟨by rw [HLB.out, ← hbt]; rfl, rfl⟩

end Go.Proofs.YtcgfheagbaafoaaDoor.PackA
