import Derived.Test.YtobddbkffefbkaaCrc
import Derived.Test.YtobddbkffefbkaaChecked
import Derived.Outline
namespace Go.Proofs.Ytobddbkffefbkaa.Sum
set_option linter.unusedVariables false
set_option linter.unusedSimpArgs false
open Go.RowKit Go.Proofs.YtobddbkffefbkaaW.PrintWords Go.Proofs.Ytobddbkffefbkaa.Lib Go.Proofs.Ytobddbkffefbkaa.Crc

theorem table (w : World) : ∀ j, j < 16 → (w.alloc (.cells #[.int .u32 0, .int .u32 498536548, .int .u32 997073096, .int .u32 651767980, .int .u32 1994146192, .int .u32 1802195444, .int .u32 1303535960, .int .u32 1342533948, .int .u32 3988292384, .int .u32 4027552580, .int .u32 3604390888, .int .u32 3412177804, .int .u32 2607071920, .int .u32 2262029012, .int .u32 2685067896, .int .u32 3183342108] 82)).cell? ⟨w.heap.size, j, none⟩ = some (.int .u32 (T.getD j 0)) := by
  intro j hj
  have : j = 0 ∨ j = 1 ∨ j = 2 ∨ j = 3 ∨ j = 4 ∨ j = 5 ∨ j = 6 ∨ j = 7 ∨ j = 8 ∨ j = 9 ∨ j = 10 ∨ j = 11 ∨ j = 12 ∨ j = 13 ∨ j = 14 ∨ j = 15 := by omega
  rcases this with h | h | h | h | h | h | h | h | h | h | h | h | h | h | h | h <;> subst h <;> simp [T, go_sem]

set_option maxHeartbeats 400000 in
theorem sum_calls (xs : List Int) (len : Nat) (A : Option Addr) (c : Nat) (w : World) (hr : Kd.C (Kd.int .u8) w A len xs) (hb : Bytes xs) :
    Calls Try.prog 12 #[.slice A len c] w fun e w' => e = .returned (.int .u32 (sum xs : Nat)) ∧ Below w.heap.size w w' := by
  obtain rfl := hr.1
  have HR := Aside0.mk hr
  have hm : xs.length ≤ 9223372036854775807 := hr.2.1
  clear hr
  have HT := Aside0.mk (table w)
  have hbx := Aside0.mk hb
  clear hb
  go_enter Try.func12, Try.ntmps12
  go_wp2
  have HB0 := ((Below.refl w.heap.size w).alloc (Nat.le_refl _)) (.cells #[.int .u32 0, .int .u32 498536548, .int .u32 997073096, .int .u32 651767980, .int .u32 1994146192, .int .u32 1802195444, .int .u32 1303535960, .int .u32 1342533948, .int .u32 3988292384, .int .u32 4027552580, .int .u32 3604390888, .int .u32 3412177804, .int .u32 2607071920, .int .u32 2262029012, .int .u32 2685067896, .int .u32 3183342108] 82)
  have HR2 := Aside0.mk (Kd.C_below HR.out HB0)
  have HB := Aside0.mk HB0
  clear HR HB0
  generalize w.alloc _ = W at *
  go_loop [4, 10] (fun x i => ∃ (k : Nat), k ≤ xs.length ∧ i = .int .i64 k ∧ x = .int .u32 (run 4294967295 (xs.take k) : Nat))
    (fun _ i => xs.length - (intOf i).toNat)
  case atStart => exact ⟨0, Nat.zero_le _, rfl, rfl⟩
  case round =>
    obtain ⟨k, hk, rfl, rfl⟩ := hrel
    have hy : run 4294967295 (xs.take k) < 4294967296 := run_lt _ _ (by decide) (hbx.out.take k)
    by_cases hlt : k < xs.length
    · have hsn := Aside0.mk ((congrArg (run 4294967295) (take_snoc xs k hlt)).trans (run_snoc _ _ _))
      generalize run 4294967295 (xs.take k) = y at *
      obtain ⟨ad, e, hcell⟩ := Kd.at_int HR2.out k (by omega) (by omega)
      cases e
      simp only [Int.toNat_natCast, rd_nat] at hcell
      have hc := hbx.out.getD k
      generalize xs.getD k 0 = cc at *
      obtain ⟨y1, y2, h1, l1, h2, h3, l2, h4, h5⟩ := round y cc hy hc
      have t1 := HT.out (y1 % 16) (by omega)
      have t2 := HT.out (y2 % 16) (by omega)
      generalize byt y cc.toNat = y3 at *
      generalize T.getD (y1 % 16) 0 = T1 at *
      generalize T.getD (y2 % 16) 0 = T2 at *
      have hc0 := hc.1
      have hc1 := hc.2
      clear hc
      go_wp2
      go_round
      case rel => exact ⟨k + 1, by omega, by go_num, by rw [hsn.out]⟩
      case measure => simp [intOf]; omega
    · have : k = xs.length := by omega
      subst this
      rw [List.take_length] at hy ⊢
      have HS := Aside0.mk (show bits .xor .u32 IntKind.u32.max ((run 4294967295 xs : Nat) : Int) = (sum xs : Nat) from max_xor _ hy)
      generalize run 4294967295 xs = y at *
      go_wp2
      go_ret
      exact ⟨ret_int HS.out, HB.out⟩
end Go.Proofs.Ytobddbkffefbkaa.Sum
