/- gristmillref02.Pack: what it answers. -/
import Derived.Test.YtcgfheagbaafoaaPackA
namespace Go.Proofs.Ytcgfheagbaafoaa.PackA
set_option linter.unusedVariables false
set_option linter.unusedSimpArgs false
open Go.RowKit Go.Proofs.YtcgfheagbaafoaaW.PrintWords Go.Proofs.YtcgfheagbaafoaaW.PrintLast Go.Proofs.YtcgfheagbaafoaaW.PrintMore Go.Proofs.Ytcgfheagbaafoaa.Lib Go.Proofs.Ytcgfheagbaafoaa.Pack

set_option maxRecDepth 100000 in
set_option maxHeartbeats 400000 in
theorem reflong_calls (n : Nat) (w : World) (hn : n ≤ 4611686018427387904) :
    Calls Try.prog 25 #[.int .i64 n] w fun e w' => e = .returned (.int .i64 (long n : Nat)) ∧ w = w' := by
  have hr := tmod8_w n
  by_cases h : n % 8 = 0
  · have ht : (((n % 8 : Nat) : Int) != 0) = false := by rw [h]; rfl
    have HL := Aside0.mk (show ((long n : Nat) : Int) = (n : Int) / 8 by unfold long; omega)
    generalize n % 8 = r at *
    clear h
    go_enter Try.func25, Try.ntmps25
    go_wp2
    go_ret
    exact ⟨by rw [HL.out]; rfl, rfl⟩
  · have ht : (((n % 8 : Nat) : Int) != 0) = true := by rw [bne_iff_ne]; omega
    have HL := Aside0.mk (show ((long n : Nat) : Int) = (n : Int) / 8 + 1 by unfold long; omega)
    generalize n % 8 = r at *
    clear h
    go_enter Try.func25, Try.ntmps25
    go_wp2
    go_ret
    exact ⟨by rw [HL.out]; rfl, rfl⟩

set_option maxRecDepth 100000 in
set_option maxHeartbeats 400000 in
theorem refpack_range (A : Option Addr) (m c : Nat) (wd : Int) (w : World) (h : wd < 0 ∨ 32 < wd) :
    Calls Try.prog 8 #[.slice A m c, .int .i64 wd] w fun e w' => e = .returned (.tuple #[.slice none 0 0, .int .i64 1]) ∧ w = w' := by
  by_cases h0 : wd < 0
  · go_enter Try.func8, Try.ntmps8
    go_wp2
    go_ret2
    exact ⟨rfl, rfl⟩
  · have h1 : 32 < wd := by omega
    clear h
    go_enter Try.func8, Try.ntmps8
    go_wp2
    go_ret2
    exact ⟨rfl, rfl⟩

set_option maxRecDepth 100000 in
set_option maxHeartbeats 1600000 in
theorem refpack_calls (l : List Int) (A : Option Addr) (m c wd : Nat) (w : World) (hC : Kd.C (Kd.int .i64) w A m l) (hm : m ≤ 5000) (hw : wd ≤ 32) (hl : ∀ x ∈ l, -9223372036854775808 ≤ x ∧ x ≤ 9223372036854775807) :
    Calls Try.prog 8 #[.slice A m c, .int .i64 wd] w fun e w' => ∃ v code xs, e = .returned (.tuple #[v, .int .i64 code]) ∧ Kd.R (Kd.int .u8) 5 w' w.heap.size (fun _ => True) v xs ∧ Below w.heap.size w w' ∧
      ((Fits l wd m ∧ code = 0 ∧ xs = packed l wd) ∨ (¬ Fits l wd m ∧ code = 1 ∧ xs = [])) := by
  have HC := Aside0.mk hC
  have HLen := Aside0.mk (show l.length = m from hC.1)
  have HLb := Aside0.mk hl
  have hwm : wd * m ≤ 160000 := Nat.le_trans (Nat.mul_le_mul hw hm) (by decide)
  obtain ⟨tot, HT⟩ : ∃ tot, Aside0 (wd * m = tot) := ⟨_, ⟨rfl⟩⟩
  have ht : (wd : Int) * (m : Int) = (tot : Int) := by rw [← HT.out]; simp
  have htot : tot ≤ 160000 := by have := HT.out; omega
  clear hC hl hwm
  go_enter Try.func8, Try.ntmps8
  go_wp2_with fail
  refine (reflong_calls tot w (by omega)).mono ?_
  rintro e w1 ⟨rfl, rfl⟩
  have hlong : long tot ≤ 20001 := by unfold long; omega
  obtain ⟨ln, HLn⟩ : ∃ ln, Aside0 (long tot = ln) := ⟨_, ⟨rfl⟩⟩
  rw [HLn.out] at hlong ⊢
  go_wp2_with (first
    | ((with_reducible refine gate_dst (N := 21) rfl ?_); refine Kd.R_make (Kd.int .u8) (w0 := w) w.heap.size 5 rfl (N := 21) rfl 23 _ _ rfl (ln : Int) rfl rfl Try.underlying23 (.int .u8 0) 1 info5 rfl (by decide) (by decide) (0 : Int) (ok := fun _ => True) (okp := fun _ => True) ?hz (fun _ h => h) trivial (by omega) (by omega) (Below.refl _ _) (Nat.le_refl _) ?_; (case hz => rfl); intro v6 w6 ho6 hb6 hg6 ha6; rw [Int.toNat_natCast] at ho6; obtain ⟨A6, c6, rfl, hc6, hC6⟩ := Kd.R_reads ho6; rw [List.length_replicate] at ho6 hc6 ⊢; have HO6 := Aside0.mk ho6; have HB6 := Aside0.mk hb6; clear ho6 hb6 hg6 ha6 hC6)
    | fail)
  go_loopw [7, 8] (fun av kv w' => ∃ k : Nat, k ≤ m ∧ av = .int .i64 ((wd * k : Nat) : Int) ∧ kv = .int .i64 k ∧ Aside0 (Fits l wd k) ∧ Aside0 (Kd.R (Kd.int .u8) 5 w' w.heap.size (fun _ => True) (.slice A6 ln c6) (outAt (bitAt l wd) ln (wd * k))) ∧ Aside0 (Below w.heap.size w w')) (fun _ kv _ => m - (intOf kv).toNat)
  case atStart => exact ⟨0, Nat.zero_le _, rfl, rfl, ⟨fun q hq => by omega⟩, HO6, HB6⟩
  case round =>
    obtain ⟨k, hk, rfl, rfl, HF, HO, HB⟩ := hrel
    by_cases hlt : k < m
    · have HCw := Aside0.mk (Kd.C_below HC.out HB.out)
      obtain ⟨ad, e, hcell⟩ := Kd.at_int HCw.out k (by omega) (by omega)
      cases e
      simp only [Int.toNat_natCast, rd_nat] at hcell
      have hb2 := HLb.out (l.getD k 0) (by rw [List.getD_eq_getElem?_getD, List.getElem?_eq_getElem (by have := HLen.out; omega)]; exact List.getElem_mem _)
      by_cases hneg : l.getD k 0 < 0
      · generalize hz : l.getD k 0 = z at *
        have HZ := Aside0.mk hz
        clear hz
        go_wp2_with fail
        go_ret2
        exact ⟨_, _, [], rfl, Kd.R_nil _ _ _ _ _, HB.out, .inr ⟨fun h => by have := (h k hlt).1; rw [HZ.out] at this; omega, rfl, rfl⟩⟩
      · obtain ⟨nk, hnk⟩ := Int.eq_ofNat_of_zero_le (show 0 ≤ l.getD k 0 by omega)
        rw [hnk] at hcell hb2
        have HNK := Aside0.mk hnk
        have hnk2 : nk < 9223372036854775808 := by omega
        have h0 : decide ((nk : Int) < 0) = false := decide_eq_false (by omega)
        clear hneg hnk hb2
        have hpw := pow_w wd hw
        obtain ⟨p, hp⟩ : ∃ p, 2 ^ wd = p := ⟨_, rfl⟩
        rw [hp] at hpw
        have HPw := Aside0.mk hp
        clear hp
        by_cases hfit : nk < p
        case neg =>
          have HP := Aside0.mk hfit
          have hge : decide (p ≤ nk) = true := decide_eq_true (by omega)
          clear hfit
          go_wp2_with fail
          go_ret2
          exact ⟨_, _, [], rfl, Kd.R_nil _ _ _ _ _, HB.out, .inr ⟨fun h => by have := (h k hlt).2; rw [HNK.out, HPw.out] at this; have := HP.out; omega, rfl, rfl⟩⟩
        case pos =>
          have HP := Aside0.mk hfit
          have hge : decide (p ≤ nk) = false := decide_eq_false (by omega)
          have HWK : Aside0 (wd * k + wd ≤ tot) := ⟨by rw [← HT.out, ← Nat.mul_succ]; exact Nat.mul_le_mul_left _ hlt⟩
          obtain ⟨wk, hwk⟩ : ∃ wk, wk = wd * k := ⟨_, rfl⟩
          have hwkt : wk + wd ≤ tot := by rw [hwk]; exact HWK.out
          have HWk := Aside0.mk hwk
          rw [← hwk] at HO ⊢
          clear hfit hwk HWK
          go_wp2_with fail
          go_loopw [7, 9] (fun av jv w' => ∃ j : Nat, j ≤ wd ∧ jv = .int .i64 j ∧ av = .int .i64 ((wk + j : Nat) : Int) ∧ Aside0 (Kd.R (Kd.int .u8) 5 w' w.heap.size (fun _ => True) (.slice A6 ln c6) (outAt (bitAt l wd) ln (wk + j))) ∧ Aside0 (Below w.heap.size w w')) (fun _ jv _ => wd - (intOf jv).toNat)
          case atStart => exact ⟨0, Nat.zero_le _, rfl, rfl, HO, HB⟩
          case round =>
            clear HO HB HCw hcell hpw
            obtain ⟨j, hj, rfl, rfl, HO, HB⟩ := hrel
            have HCv := Aside0.mk (Kd.C_below HC.out HB.out)
            obtain ⟨ad2, e, hcell⟩ := Kd.at_int HCv.out k (by omega) (by omega)
            cases e
            simp only [Int.toNat_natCast, rd_nat] at hcell
            rw [HNK.out] at hcell
            by_cases hjw : j < wd
            · have hiln : wk + j < 8 * ln := by have := long_le tot; rw [HLn.out] at this; omega
              obtain ⟨g, rfl, hg, -⟩ := R_plain HO.out (by omega)
              have hbv : bitAt l wd (wk + j) = nk / 2 ^ j % 2 := by rw [HWk.out, bitAt_at l wd k j hjw, HNK.out, Int.toNat_natCast]
              have hb2 : nk / 2 ^ j % 2 < 2 := Nat.mod_lt _ (by decide)
              obtain ⟨i, hi⟩ : ∃ i, i = wk + j := ⟨_, rfl⟩
              have HI := Aside0.mk hi
              rw [← hi] at HO hbv hiln ⊢
              have hi2 : i ≤ 160000 := by omega
              clear hi
              have hfr := outAt_fresh (bitAt l wd) (bitAt_lt l wd) ln i (i / 8)
              rw [show min 8 (i - 8 * (i / 8)) = i % 8 by omega] at hfr
              have HS := Aside0.mk (show outAt (bitAt l wd) ln (i + 1) = putbit (outAt (bitAt l wd) ln i) i (bitAt l wd i) from rfl)
              rw [hbv] at HS
              clear hbv
              have e2 : (((nk : Int) / 2 ^ j).tmod 2 == 1) = (nk / 2 ^ j % 2 == 1) := by
                have e1 : (nk : Int) / 2 ^ j = ((nk / 2 ^ j : Nat) : Int) := by simp
                rw [e1]
                generalize nk / 2 ^ j = z
                rw [Int.tmod_eq_emod_of_nonneg (by omega), Bool.eq_iff_iff, beq_iff_eq, beq_iff_eq]
                omega
              generalize nk / 2 ^ j % 2 = b at *
              unfold putbit at HS
              have hi8 : i / 8 < ln := by omega
              obtain ⟨hc1, hf1⟩ := R_at HO.out (i / 8) hi8
              by_cases hb1 : b = 1
              · subst hb1
                have ht : (((nk : Int) / 2 ^ j).tmod 2 == 1) = true := by rw [e2]; rfl
                generalize outAt (bitAt l wd) ln i = L at *
                have HP2 := Aside0.mk (R_set_at HO.out (i / 8) (L.getD (i / 8) 0 + ((1 * 2 ^ (i % 8) : Nat) : Int)))
                generalize L.getD (i / 8) 0 = cc at *
                obtain ⟨cn, rfl⟩ := Int.eq_ofNat_of_zero_le hfr.1
                have hsm : cn + 2 ^ (i % 8) < 256 := by
                  have h8 : 2 ^ (i % 8) ≤ 2 ^ 7 := Nat.pow_le_pow_right (by decide) (by omega)
                  have := hfr.2
                  omega
                have HV := Aside0.mk (show ((cn : Int) + 2 ^ (i % 8)) % 256 = (cn : Int) + ((1 * 2 ^ (i % 8) : Nat) : Int) by
                  have e1 : (2 : Int) ^ (i % 8) = ((2 ^ (i % 8) : Nat) : Int) := by simp
                  rw [e1, Nat.one_mul]
                  generalize 2 ^ (i % 8) = z at *
                  omega)
                clear e2 hfr hsm
                go_wp2_with fail
                go_roundw
                case rel => exact ⟨j + 1, by omega, by go_num, by rw [show wk + (j + 1) = i + 1 by have := HI.out; omega]; go_num, ⟨by rw [show wk + (j + 1) = i + 1 by have := HI.out; omega, HS.out, HV.out]; exact HP2.out⟩, ⟨by rw [HV.out]; exact below_set HB.out hg⟩⟩
                case measure => simp [intOf]; omega
              · have hb0 : b = 0 := by omega
                subst hb0
                have ht : (((nk : Int) / 2 ^ j).tmod 2 == 1) = false := by rw [e2]; rfl
                have HS2 := Aside0.mk (show outAt (bitAt l wd) ln (i + 1) = outAt (bitAt l wd) ln i by
                  rw [HS.out, Nat.zero_mul, Int.natCast_zero, Int.add_zero]
                  apply List.ext_getElem?
                  intro q
                  rw [List.getElem?_set]
                  split
                  · rename_i h
                    subst h
                    split
                    · rename_i h2; rw [List.getD_eq_getElem?_getD, List.getElem?_eq_getElem h2]; rfl
                    · rename_i h2; rw [List.getElem?_eq_none (by omega)]
                  · rfl)
                clear HS e2 hfr hc1 hf1 hb1
                generalize outAt (bitAt l wd) ln i = L at *
                go_wp2_with fail
                go_roundw
                case rel => exact ⟨j + 1, by omega, by go_num, by rw [show wk + (j + 1) = i + 1 by have := HI.out; omega]; go_num, ⟨by rw [show wk + (j + 1) = i + 1 by have := HI.out; omega, HS2.out]; exact HO.out⟩, HB⟩
                case measure => simp [intOf]; omega
            · have : j = wd := by omega
              subst this
              have HWk2 := Aside0.mk (show j * (k + 1) = wk + j by rw [HWk.out, Nat.mul_succ])
              have HF2 := Aside0.mk (show Fits l j (k + 1) by
                intro q hq
                rcases Nat.lt_succ_iff_lt_or_eq.1 hq with h | rfl
                · exact HF.out q h
                · rw [HNK.out, HPw.out]; have := HP.out; omega)
              go_wp2_with fail
              go_roundw
              case rel => exact ⟨k + 1, by omega, by rw [HWk2.out], by go_num, HF2, ⟨by rw [HWk2.out]; exact HO.out⟩, HB⟩
              case measure => simp [intOf]; omega
    · have : k = m := by omega
      subst this
      have HPk := Aside0.mk (show packed l wd = outAt (bitAt l wd) ln (wd * k) by unfold packed; rw [HLen.out, HT.out, HLn.out])
      go_wp2_with fail
      go_ret2
      exact ⟨_, _, packed l wd, rfl, by rw [HPk.out]; exact HO.out, HB.out, .inl ⟨HF.out, rfl, rfl⟩⟩
end Go.Proofs.Ytcgfheagbaafoaa.PackA
