/- bits.clean: what it answers. -/
import Derived.Test.YtcgfheagbaafoaaDoorPackA
import Derived.Test.YtcgfheagbaafoaaDoorUnpack
namespace Go.Proofs.YtcgfheagbaafoaaDoor.PackA
set_option linter.unusedVariables false
set_option linter.unusedSimpArgs false
open Go.RowKit Go.Proofs.YtcgfheagbaafoaaDoorW.PrintWords Go.Proofs.YtcgfheagbaafoaaDoorW.PrintLast Go.Proofs.YtcgfheagbaafoaaDoorW.PrintMore Go.Proofs.YtcgfheagbaafoaaDoor.Lib Go.Proofs.YtcgfheagbaafoaaDoor.Pack

theorem info3s : (Tryd.prog.info? 3).map (fun i => (i.zero, i.size, i.bytes)) = some (some (.int .i64 0), 1, 8) := by kernel_rfl

set_option maxRecDepth 100000 in
set_option maxHeartbeats 400000 in
theorem clean_calls (b : List Int) (A : Option Addr) (m c n : Nat) (w : World) (hC : Kd.C (Kd.int .u8) w A m b) (hb : Bytes b) (hl : m = long n) (hn : n ≤ 4611686018427387904) (q : Bool) (hq : q = true ↔ Tidy b n) :
    Calls Tryd.prog 34 #[.slice A m c, .int .i64 n] w fun e w' => e = .returned (.bool q) ∧ w = w' := by
  have hlen : b.length = m := hC.1
  by_cases h : n % 8 = 0
  · have h2 : q = true := hq.2 (clean_even b n (hlen.trans hl) h)
    subst h2
    have hr : (n : Int).tmod 8 = ((n % 8 : Nat) : Int) := tmod8_w n
    have hr0 : (((n % 8 : Nat) : Int) == 0) = true := by rw [h]; rfl
    clear h hq
    generalize n % 8 = r at *
    go_enter Tryd.func34, Tryd.ntmps34
    go_wp2_with fail
    go_ret
    exact ⟨rfl, rfl⟩
  · have hcl := clean_byte b n hb (hlen.trans hl) h
    rw [hlen] at hcl
    have hm0 : 0 < m := by unfold long at hl; omega
    obtain ⟨m1, hm1⟩ : ∃ m1, m1 = m - 1 := ⟨_, rfl⟩
    have hmm : m1 < m := by omega
    obtain ⟨ad, e, hcell⟩ := Kd.at_int hC m1 (by omega) (by omega)
    cases e
    simp only [Int.toNat_natCast, rd_nat] at hcell
    rw [← hm1] at hcl
    have hmi : (m : Int) - 1 = (m1 : Int) := by omega
    have hcb := hb.getD m1
    generalize b.getD m1 0 = cc at *
    obtain ⟨cn, rfl⟩ := Int.eq_ofNat_of_zero_le hcb.1
    rw [Int.toNat_natCast] at hcl
    have hr : (n : Int).tmod 8 = ((n % 8 : Nat) : Int) := tmod8_w n
    have hr0 : (((n % 8 : Nat) : Int) == 0) = false := by rw [beq_eq_false_iff_ne]; omega
    have hr9 : n % 8 < 8 := Nat.mod_lt _ (by decide)
    have hm9 : m ≤ 9223372036854775807 := by have := hC.2.1; omega
    have hw1 : wrap64 (m1 : Int) = (m1 : Int) := IntWalk.wrap64_in _ (by omega)
    have hmi1 : (m1 : Int) < (m : Int) := by omega
    have HL := Aside0.mk hl
    have HQ : Aside0 (((cn : Int) / 2 ^ (n % 8) == 0) = q) := ⟨by
      have e1 : (cn : Int) / 2 ^ (n % 8) = ((cn / 2 ^ (n % 8) : Nat) : Int) := by simp
      rw [e1, Bool.eq_iff_iff, hq, hcl, beq_iff_eq]
      generalize cn / 2 ^ (n % 8) = z
      omega⟩
    clear hq hcl h hl hm1 hcb
    generalize n % 8 = r at *
    go_enter Tryd.func34, Tryd.ntmps34
    go_wp2_with fail
    go_ret
    exact ⟨by rw [← HQ.out]; rfl, rfl⟩

end Go.Proofs.YtcgfheagbaafoaaDoor.PackA
