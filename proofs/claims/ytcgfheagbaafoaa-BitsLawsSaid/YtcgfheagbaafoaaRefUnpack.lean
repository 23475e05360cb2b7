/- gristmillref02.Unpack: what it answers. -/
import Derived.Test.YtcgfheagbaafoaaUnpackA
import Derived.Test.YtcgfheagbaafoaaRefPack
namespace Go.Proofs.Ytcgfheagbaafoaa.PackA
set_option linter.unusedVariables false
set_option linter.unusedSimpArgs false
open Go.RowKit Go.Proofs.YtcgfheagbaafoaaW.PrintWords Go.Proofs.YtcgfheagbaafoaaW.PrintLast Go.Proofs.YtcgfheagbaafoaaW.PrintMore Go.Proofs.Ytcgfheagbaafoaa.Lib Go.Proofs.Ytcgfheagbaafoaa.Pack

theorem bit_two (cn r : Nat) : (((cn : Int) / 2 ^ r).tmod 2) = ((cn / 2 ^ r % 2 : Nat) : Int) := by
  have e1 : (cn : Int) / 2 ^ r = ((cn / 2 ^ r : Nat) : Int) := by simp
  rw [e1]
  generalize cn / 2 ^ r = z
  rw [Int.tmod_eq_emod_of_nonneg (by omega)]; omega

set_option maxRecDepth 100000 in
set_option maxHeartbeats 400000 in
theorem refbit_calls (b : List Int) (A : Option Addr) (m c i : Nat) (w : World) (hC : Kd.C (Kd.int .u8) w A m b) (hb : Bytes b) (hi : i < 8 * m) (hi2 : i ≤ 4611686018427387904) :
    Calls Try.prog 28 #[.slice A m c, .int .i64 i] w fun e w' => e = .returned (.int .i64 (bit b i : Nat)) ∧ w = w' := by
  have hqm : i / 8 < m := by omega
  obtain ⟨ad, e, hcell⟩ := Kd.at_int hC ((i / 8 : Nat) : Int) (by omega) (by omega)
  subst e
  simp only [Int.toNat_natCast, rd_nat] at hcell
  have hbb := hb.getD (i / 8)
  have HLB := Aside0.mk (show bit b i = (b.getD (i / 8) 0).toNat / 2 ^ (i % 8) % 2 from rfl)
  generalize b.getD (i / 8) 0 = cc at *
  obtain ⟨cn, rfl⟩ := Int.eq_ofNat_of_zero_le hbb.1
  rw [Int.toNat_natCast] at HLB
  have hcn : cn < 256 := by omega
  have hm9 : m ≤ 9223372036854775807 := by have := hC.2.1; have := hC.1; omega
  have hr9 : i % 8 < 8 := Nat.mod_lt _ (by decide)
  have hr8 := tmod8_w i
  have hbt := bit_two cn (i % 8)
  obtain ⟨r, hr⟩ : ∃ r, i % 8 = r := ⟨_, rfl⟩
  rw [hr] at hr9 hr8 hbt HLB
  clear hr hbb
  go_enter Try.func28, Try.ntmps28
  go_wp2_with fail
  go_ret
  exact ⟨by rw [HLB.out, ← hbt]; rfl, rfl⟩

set_option maxRecDepth 100000 in
set_option maxHeartbeats 1600000 in
theorem refunpack_calls (b : List Int) (A : Option Addr) (m c wd many : Nat) (w : World) (hC : Kd.C (Kd.int .u8) w A m b) (hb : Bytes b) (hmany : many ≤ 5000) (hw : wd ≤ 32) (okd : Bool) (hok : okd = true ↔ (m = long (wd * many) ∧ Tidy b (wd * many))) :
    Calls Try.prog 12 #[.slice A m c, .int .i64 wd, .int .i64 many] w fun e w' => ∃ v, e = .returned (.tuple #[v, .int .i64 (if okd then 0 else 12)]) ∧ Kd.R (Kd.int .i64) 3 w' w.heap.size (fun _ => True) v (if okd then unpk b wd many else []) ∧ Below w.heap.size w w' := by
  have HC := Aside0.mk hC
  have HBy := Aside0.mk hb
  have hmc : m ≤ 9223372036854775807 := by have := hC.2.1; have := hC.1; omega
  have hwm : wd * many ≤ 160000 := Nat.le_trans (Nat.mul_le_mul hw hmany) (by decide)
  obtain ⟨tot, HT⟩ : ∃ tot, Aside0 (wd * many = tot) := ⟨_, ⟨rfl⟩⟩
  have ht : (wd : Int) * (many : Int) = (tot : Int) := by rw [← HT.out]; simp
  have htot : tot ≤ 160000 := by have := HT.out; omega
  rw [HT.out] at hok
  have HOk := Aside0.mk hok
  clear hC hb hwm hok
  go_enter Try.func12, Try.ntmps12
  go_wp2_with fail
  refine (reflong_calls tot w (by omega)).mono ?_
  rintro e w1 ⟨rfl, rfl⟩
  have hlong : long tot ≤ 20001 := by unfold long; omega
  by_cases hml : m = long tot
  case neg =>
    have hne : ((m : Int) != ((long tot : Nat) : Int)) = true := by rw [bne_iff_ne]; omega
    have hok : okd = false := by cases okd; rfl; exact absurd (HOk.out.1 rfl).1 hml
    subst hok
    clear hml
    generalize long tot = ln at *
    go_wp2_with fail
    go_ret2
    exact ⟨_, rfl, Kd.R_nil _ _ _ _ _, Below.refl _ _⟩
  case pos =>
    have hne : ((m : Int) != ((long tot : Nat) : Int)) = false := by rw [bne_eq_false_iff_eq, hml]
    have HML := Aside0.mk hml
    clear hml
    generalize hln : long tot = ln at *
    have HLn := Aside0.mk hln
    clear hln
    have htm : tot ≤ 8 * m := by rw [HML.out, ← HLn.out]; exact long_le _
    have hm2 : m ≤ 20001 := by rw [HML.out]; exact hlong
    have HLb := Aside0.mk (show b.length = m from HC.out.1)
    go_wp2_with fail
    go_loop [8] (fun iv => ∃ i : Nat, tot ≤ i ∧ i ≤ 8 * m ∧ iv = .int .i64 i ∧ Aside0 (∀ q, tot ≤ q → q < i → bit b q = 0)) (fun iv => 8 * m - (intOf iv).toNat)
    case atStart => exact ⟨tot, Nat.le_refl _, htm, rfl, ⟨fun q h1 h2 => by omega⟩⟩
    case round =>
      obtain ⟨i, hi1, hi2, rfl, HZ⟩ := hrel
      by_cases hlt : i < 8 * m
      · go_wp2_with fail
        refine (refbit_calls b A m c i w HC.out HBy.out hlt (by omega)).mono ?_
        rintro e w1 ⟨rfl, rfl⟩
        by_cases hb0 : bit b i = 0
        · have hne2 : (((bit b i : Nat) : Int) != 0) = false := by rw [hb0]; rfl
          have HZ2 := Aside0.mk (show ∀ q, tot ≤ q → q < i + 1 → bit b q = 0 by
            intro q h1 h2
            rcases Nat.lt_succ_iff_lt_or_eq.1 h2 with h | rfl
            · exact HZ.out q h1 h
            · exact hb0)
          clear hb0 HZ
          generalize bit b i = bv at *
          go_wp2_with fail
          go_round
          case rel => exact ⟨i + 1, by omega, by omega, by go_num, HZ2⟩
          case measure => simp [intOf]; omega
        · have hne2 : (((bit b i : Nat) : Int) != 0) = true := by rw [bne_iff_ne]; omega
          have hok : okd = false := by cases okd; rfl; exact absurd ((HOk.out.1 rfl).2 i hi1 (by rw [HLb.out]; exact hlt)) hb0
          subst hok
          clear hb0
          generalize bit b i = bv at *
          go_wp2_with fail
          go_ret2
          exact ⟨_, rfl, Kd.R_nil _ _ _ _ _, Below.refl _ _⟩
      · have : i = 8 * m := by omega
        subst this
        have hok : okd = true := HOk.out.2 ⟨HML.out, fun q h1 h2 => HZ.out q h1 (by rw [← HLb.out]; exact h2)⟩
        subst hok
        clear HZ HOk
        go_wp2_with fail
        go_loopw [9, 10] (fun ov kv w' => ∃ k : Nat, k ≤ many ∧ kv = .int .i64 k ∧ Aside0 (Kd.R (Kd.int .i64) 3 w' w.heap.size (fun _ => True) ov (unpk b wd k)) ∧ Aside0 (Below w.heap.size w w')) (fun _ kv _ => many - (intOf kv).toNat)
        case atStart => exact ⟨0, Nat.zero_le _, rfl, ⟨Kd.R_nil _ _ _ _ _⟩, ⟨Below.refl _ _⟩⟩
        case round =>
          obtain ⟨k, hk, rfl, HO, HB⟩ := hrel
          by_cases hltk : k < many
          · have HWK : Aside0 (wd * k + wd ≤ tot) := ⟨by rw [← HT.out, ← Nat.mul_succ]; exact Nat.mul_le_mul_left _ hltk⟩
            obtain ⟨wk, hwk⟩ : ∃ wk, wk = wd * k := ⟨_, rfl⟩
            have hwki : (wd : Int) * (k : Int) = (wk : Int) := by rw [hwk]; simp
            have hwkt : wk + wd ≤ tot := by rw [hwk]; exact HWK.out
            have HWk := Aside0.mk hwk
            have HCw := Aside0.mk (Kd.C_below HC.out HB.out)
            clear hwk HWK
            go_wp2_with fail
            go_loop [11, 12] (fun nv jv => ∃ (j v : Nat), j ≤ wd ∧ jv = .int .i64 ((j : Int) - 1) ∧ nv = .int .i64 v ∧ Aside0 (v * 2 ^ j + low b wk j = low b wk wd)) (fun _ jv => (intOf jv + 1).toNat)
            case atStart => exact ⟨wd, 0, Nat.le_refl _, rfl, rfl, ⟨by simp⟩⟩
            case round =>
              obtain ⟨j, v, hj, rfl, rfl, HE⟩ := hrel
              have hv := low_small b wk v j wd hj hw HE.out
              rcases j with _ | j
              · have HF := Aside0.mk (show v = low b wk wd by have := HE.out; simp [low] at this; exact this)
                clear HE
                have HS := Aside0.mk (show unpk b wd k ++ [(v : Int)] = unpk b wd (k + 1) by rw [unpk_succ, HF.out, HWk.out]; rfl)
                have hlu := Aside0.mk (unpk_length b wd k)
                go_wp2_with (first
                  | ((with_reducible refine gate_builtin (b := .append) (xs := #[.tmp 69, .tmp 71]) rfl ?_); at_builtin; refine Kd.R_append (Kd.int .i64) (w0 := w) w.heap.size rfl (.tmp 69) (.tmp 71) 22 3 (.int .i64 0) 8 rfl Try.underlying22 info3s rfl (by decide) (by omega) (_) (unpk b wd k) ((v : Int)) [.int .i64 ((v : Int))] (fun _ => True) (fun _ => False) rfl rfl rfl (fun _ hk => hk.elim) (fun _ _ => trivial) HO.out HB.out HB.out.size (by rw [hlu.out]; omega) ?_; intro v2 w2 ho2 hb2 hg2 ha2; have HO2 := Aside0.mk ho2; have HB2 := Aside0.mk hb2; clear ho2 hb2 hg2 ha2)
                  | fail)
                go_roundw
                case rel => exact ⟨k + 1, by omega, by go_num, ⟨by rw [← HS.out]; exact HO2.out⟩, HB2⟩
                case measure => simp [intOf]; omega
              · have hjj : ((j + 1 : Nat) : Int) - 1 = (j : Int) := by omega
                rw [hjj]
                have HE2 := low_down b wk v j _ HE.out
                have hb2 := bit_lt b (wk + j)
                have hji : wk + j < 8 * m := by omega
                obtain ⟨i, hi⟩ : ∃ i, wk + j = i := ⟨_, rfl⟩
                have hii : (wk : Int) + (j : Int) = (i : Int) := by omega
                rw [hi] at HE2 hb2 hji
                have HE3 := Aside0.mk HE2
                clear HE HE2 hi hjj
                go_wp2_with fail
                refine (refbit_calls b A m c i wr HCw.out HBy.out hji (by omega)).mono ?_
                rintro e w1 ⟨rfl, rfl⟩
                generalize bit b i = bv at *
                go_wp2_with fail
                go_round
                case rel => exact ⟨j, 2 * v + bv, by omega, by go_num, by go_num, HE3⟩
                case measure => simp [intOf]
          · have : k = many := by omega
            subst this
            go_wp2_with fail
            go_ret2
            exact ⟨_, rfl, HO.out, HB.out⟩

set_option maxRecDepth 100000 in
set_option maxHeartbeats 400000 in
theorem unpack_range (A : Option Addr) (m c : Nat) (wd many : Int) (w : World) (h : wd < 0 ∨ 32 < wd ∨ many < 0 ∨ 1048576 < many) :
    Calls Try.prog 11 #[.slice A m c, .int .i64 wd, .int .i64 many] w fun e w' => e = .returned (.tuple #[.slice none 0 0, .int .i64 1]) ∧ w = w' := by
  by_cases h0 : wd < 0
  · go_enter Try.func11, Try.ntmps11
    go_wp2
    go_ret2
    exact ⟨rfl, rfl⟩
  · by_cases h1 : 32 < wd
    · clear h
      go_enter Try.func11, Try.ntmps11
      go_wp2
      go_ret2
      exact ⟨rfl, rfl⟩
    · by_cases h2 : many < 0
      · clear h
        go_enter Try.func11, Try.ntmps11
        go_wp2
        go_ret2
        exact ⟨rfl, rfl⟩
      · have h3 : 1048576 < many := by omega
        clear h
        go_enter Try.func11, Try.ntmps11
        go_wp2
        go_ret2
        exact ⟨rfl, rfl⟩

set_option maxRecDepth 100000 in
set_option maxHeartbeats 400000 in
theorem refunpack_range (A : Option Addr) (m c : Nat) (wd many : Int) (w : World) (h : wd < 0 ∨ 32 < wd ∨ many < 0 ∨ 1048576 < many) :
    Calls Try.prog 12 #[.slice A m c, .int .i64 wd, .int .i64 many] w fun e w' => e = .returned (.tuple #[.slice none 0 0, .int .i64 1]) ∧ w = w' := by
  by_cases h0 : wd < 0
  · go_enter Try.func12, Try.ntmps12
    go_wp2
    go_ret2
    exact ⟨rfl, rfl⟩
  · by_cases h1 : 32 < wd
    · clear h
      go_enter Try.func12, Try.ntmps12
      go_wp2
      go_ret2
      exact ⟨rfl, rfl⟩
    · by_cases h2 : many < 0
      · clear h
        go_enter Try.func12, Try.ntmps12
        go_wp2
        go_ret2
        exact ⟨rfl, rfl⟩
      · have h3 : 1048576 < many := by omega
        clear h
        go_enter Try.func12, Try.ntmps12
        go_wp2
        go_ret2
        exact ⟨rfl, rfl⟩
end Go.Proofs.Ytcgfheagbaafoaa.PackA
