import Derived.Test.YtobddbkffefbkaaSum
namespace Go.Proofs.Ytobddbkffefbkaa.Sum
set_option linter.unusedVariables false
set_option linter.unusedSimpArgs false
open Go.RowKit Go.Proofs.YtobddbkffefbkaaW.PrintWords Go.Proofs.Ytobddbkffefbkaa.Lib Go.Proofs.Ytobddbkffefbkaa.Crc

set_option maxRecDepth 100000 in
set_option maxHeartbeats 800000 in
theorem refsum_calls (xs : List Int) (len : Nat) (A : Option Addr) (c : Nat) (w : World) (hr : Kd.C (Kd.int .u8) w A len xs) (hb : Bytes xs) :
    Calls Try.prog 13 #[.slice A len c] w fun e w' => e = .returned (.int .u32 (sum xs : Nat)) ∧ w' = w := by
  obtain rfl := hr.1
  have HR := Aside0.mk hr
  have hm : xs.length ≤ 9223372036854775807 := hr.2.1
  clear hr
  have hbx := Aside0.mk hb
  clear hb
  go_enter Try.func13, Try.ntmps13
  go_wp2
  go_loop [3, 4] (fun x i => ∃ (k : Nat), k ≤ xs.length ∧ i = .int .i64 k ∧ x = .int .u32 (run 4294967295 (xs.take k) : Nat))
    (fun _ i => xs.length - (intOf i).toNat)
  case atStart => exact ⟨0, Nat.zero_le _, rfl, rfl⟩
  case round =>
    obtain ⟨k, hk, rfl, rfl⟩ := hrel
    have hy : run 4294967295 (xs.take k) < 4294967296 := run_lt _ _ (by decide) (hbx.out.take k)
    by_cases hlt : k < xs.length
    · have hsn := Aside0.mk ((congrArg (run 4294967295) (take_snoc xs k hlt)).trans (run_snoc _ _ _))
      generalize run 4294967295 (xs.take k) = y at *
      obtain ⟨ad, e, hcell⟩ := Kd.at_int HR.out k (by omega) (by omega)
      cases e
      simp only [Int.toNat_natCast, rd_nat] at hcell
      have hc := hbx.out.getD k
      generalize xs.getD k 0 = cc at *
      obtain ⟨m, rfl⟩ := Int.eq_ofNat_of_zero_le hc.1
      have hm2 : m < 256 := by omega
      have hfin := Aside0.mk (bitrun_byt y m hm2)
      rw [Int.toNat_natCast] at hsn
      clear hc
      go_wp2
      go_loop [3, 5] (fun x j => ∃ (q : Nat), q ≤ 8 ∧ j = .int .i64 q ∧ x = .int .u32 (bitrun y m q : Nat))
        (fun _ j => 8 - (intOf j).toNat)
      case atStart => exact ⟨0, by omega, rfl, rfl⟩
      case round =>
        obtain ⟨q, hq, rfl, rfl⟩ := hrel
        have hz : bitrun y m q < 4294967296 := bitrun_lt m hy q
        by_cases hq8 : q < 8
        · have hst := Aside0.mk (show bitrun y m (q + 1) = bitstep (bitrun y m q) (m / 2 ^ q % 2) from rfl)
          generalize bitrun y m q = z at *
          obtain ⟨b1, b2, b3⟩ := bitround z m q hz hm2
          by_cases hbit : z % 2 = m / 2 ^ q % 2
          · have hnn : (((z % 2 : Nat) : Int) != ((m / 2 ^ q % 2 : Nat) : Int)) = false := by rw [hbit]; simp
            have hst2 := Aside0.mk (show bitstep z (m / 2 ^ q % 2) = z / 2 by unfold bitstep; rw [if_neg (by omega)])
            clear hbit
            generalize ((z % 2 : Nat) : Int) = e1 at *
            generalize ((m / 2 ^ q % 2 : Nat) : Int) = e2 at *
            go_wp2
            go_round
            case rel => exact ⟨q + 1, by omega, by go_num, by rw [hst.out, hst2.out]; go_num⟩
            case measure => simp [intOf]; omega
          · have hnn : (((z % 2 : Nat) : Int) != ((m / 2 ^ q % 2 : Nat) : Int)) = true := by rw [bne_iff_ne]; omega
            have hst2 := Aside0.mk (show bitstep z (m / 2 ^ q % 2) = z / 2 ^^^ 3988292384 by unfold bitstep; rw [if_pos hbit])
            clear hbit
            generalize ((z % 2 : Nat) : Int) = e1 at *
            generalize ((m / 2 ^ q % 2 : Nat) : Int) = e2 at *
            generalize z / 2 ^^^ 3988292384 = z2 at *
            go_wp2
            go_round
            case rel => exact ⟨q + 1, by omega, by go_num, by rw [hst.out, hst2.out]⟩
            case measure => simp [intOf]; omega
        · have : q = 8 := by omega
          subst this
          rw [hfin.out]
          go_wp2
          go_round
          case rel => exact ⟨k + 1, by omega, by go_num, by rw [hsn.out]⟩
          case measure => simp [intOf]; omega
    · have : k = xs.length := by omega
      subst this
      rw [List.take_length] at hy ⊢
      have HS := Aside0.mk (show bits .xor .u32 ((run 4294967295 xs : Nat) : Int) 4294967295 = (sum xs : Nat) from max_xor' _ hy)
      generalize run 4294967295 xs = y at *
      go_wp2
      go_ret
      exact ⟨ret_int HS.out, rfl⟩
end Go.Proofs.Ytobddbkffefbkaa.Sum
