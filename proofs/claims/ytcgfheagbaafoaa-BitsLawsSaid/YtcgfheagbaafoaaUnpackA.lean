/- bits.Unpack: what it answers. -/
import Derived.Test.YtcgfheagbaafoaaPackA
import Derived.Test.YtcgfheagbaafoaaUnpack
namespace Go.Proofs.Ytcgfheagbaafoaa.PackA
set_option linter.unusedVariables false
set_option linter.unusedSimpArgs false
open Go.RowKit Go.Proofs.YtcgfheagbaafoaaW.PrintWords Go.Proofs.YtcgfheagbaafoaaW.PrintLast Go.Proofs.YtcgfheagbaafoaaW.PrintMore Go.Proofs.Ytcgfheagbaafoaa.Lib Go.Proofs.Ytcgfheagbaafoaa.Pack

theorem info3s : (Try.prog.info? 3).map (fun i => (i.zero, i.size, i.bytes)) = some (some (.int .i64 0), 1, 8) := by kernel_rfl

set_option maxRecDepth 100000 in
set_option maxHeartbeats 400000 in
theorem clean_calls (b : List Int) (A : Option Addr) (m c n : Nat) (w : World) (hC : Kd.C (Kd.int .u8) w A m b) (hb : Bytes b) (hl : m = long n) (hn : n ≤ 4611686018427387904) (q : Bool) (hq : q = true ↔ Tidy b n) :
    Calls Try.prog 27 #[.slice A m c, .int .i64 n] w fun e w' => e = .returned (.bool q) ∧ w = w' := by
  have hlen : b.length = m := hC.1
  by_cases h : n % 8 = 0
  · have h2 : q = true := hq.2 (clean_even b n (hlen.trans hl) h)
    subst h2
    have hr : (n : Int).tmod 8 = ((n % 8 : Nat) : Int) := tmod8_w n
    have hr0 : (((n % 8 : Nat) : Int) == 0) = true := by rw [h]; rfl
    clear h hq
    generalize n % 8 = r at *
    go_enter Try.func27, Try.ntmps27
    go_wp2_with fail
    go_ret
    exact ⟨rfl, rfl⟩
  · have hcl := clean_byte b n hb (hlen.trans hl) h
    rw [hlen] at hcl
    have hm0 : 0 < m := by unfold long at hl; omega
    obtain ⟨m1, hm1⟩ : ∃ m1, m1 = m - 1 := ⟨_, rfl⟩
    have hmm : m1 < m := by omega
    obtain ⟨ad, e, hcell⟩ := Kd.at_int hC m1 (by omega) (by omega)
    cases e
    simp only [Int.toNat_natCast, rd_nat] at hcell
    rw [← hm1] at hcl
    have hmi : (m : Int) - 1 = (m1 : Int) := by omega
    have hcb := hb.getD m1
    generalize b.getD m1 0 = cc at *
    obtain ⟨cn, rfl⟩ := Int.eq_ofNat_of_zero_le hcb.1
    rw [Int.toNat_natCast] at hcl
    have hr : (n : Int).tmod 8 = ((n % 8 : Nat) : Int) := tmod8_w n
    have hr0 : (((n % 8 : Nat) : Int) == 0) = false := by rw [beq_eq_false_iff_ne]; omega
    have hr9 : n % 8 < 8 := Nat.mod_lt _ (by decide)
    have hm9 : m ≤ 9223372036854775807 := by have := hC.2.1; omega
    have hw1 : wrap64 (m1 : Int) = (m1 : Int) := IntWalk.wrap64_in _ (by omega)
    have hmi1 : (m1 : Int) < (m : Int) := by omega
    have HL := Aside0.mk hl
    have HQ : Aside0 (((cn : Int) / 2 ^ (n % 8) == 0) = q) := ⟨by
      have e1 : (cn : Int) / 2 ^ (n % 8) = ((cn / 2 ^ (n % 8) : Nat) : Int) := by simp
      rw [e1, Bool.eq_iff_iff, hq, hcl, beq_iff_eq]
      generalize cn / 2 ^ (n % 8) = z
      omega⟩
    clear hq hcl h hl hm1 hcb
    generalize n % 8 = r at *
    go_enter Try.func27, Try.ntmps27
    go_wp2_with fail
    go_ret
    exact ⟨by rw [← HQ.out]; rfl, rfl⟩

set_option maxRecDepth 100000 in
set_option maxHeartbeats 1600000 in
theorem unpack_calls (b : List Int) (A : Option Addr) (m c wd many : Nat) (w : World) (hC : Kd.C (Kd.int .u8) w A m b) (hb : Bytes b) (hmany : many ≤ 5000) (hw : wd ≤ 32) (okd : Bool) (hok : okd = true ↔ (m = long (wd * many) ∧ Tidy b (wd * many))) :
    Calls Try.prog 11 #[.slice A m c, .int .i64 wd, .int .i64 many] w fun e w' => ∃ v, e = .returned (.tuple #[v, .int .i64 (if okd then 0 else 12)]) ∧ Kd.R (Kd.int .i64) 3 w' w.heap.size (fun _ => True) v (if okd then unpk b wd many else []) ∧ Below w.heap.size w w' := by
  have HC := Aside0.mk hC
  have HBy := Aside0.mk hb
  have hmc : m ≤ 9223372036854775807 := by have := hC.2.1; have := hC.1; omega
  have hwm : wd * many ≤ 160000 := Nat.le_trans (Nat.mul_le_mul hw hmany) (by decide)
  obtain ⟨tot, HT⟩ : ∃ tot, Aside0 (wd * many = tot) := ⟨_, ⟨rfl⟩⟩
  have ht : (wd : Int) * (many : Int) = (tot : Int) := by rw [← HT.out]; simp
  have htot : tot ≤ 160000 := by have := HT.out; omega
  rw [HT.out] at hok
  have HOk := Aside0.mk hok
  clear hC hb hwm hok
  go_enter Try.func11, Try.ntmps11
  go_wp2_with fail
  refine (long_calls tot w (by omega)).mono ?_
  rintro e w1 ⟨rfl, rfl⟩
  have hlong : long tot ≤ 20001 := by unfold long; omega
  by_cases hml : m = long tot
  case neg =>
    have hne : ((m : Int) != ((long tot : Nat) : Int)) = true := by rw [bne_iff_ne]; omega
    have hok : okd = false := by cases okd; rfl; exact absurd (HOk.out.1 rfl).1 hml
    subst hok
    clear hml
    generalize long tot = ln at *
    go_wp2_with fail
    go_ret2
    exact ⟨_, rfl, Kd.R_nil _ _ _ _ _, Below.refl _ _⟩
  case pos =>
    have hne : ((m : Int) != ((long tot : Nat) : Int)) = false := by rw [bne_eq_false_iff_eq, hml]
    have HML := Aside0.mk hml
    clear hml
    generalize hln : long tot = ln at *
    have HLn := Aside0.mk hln
    clear hln
    go_wp2_with fail
    refine (clean_calls b A m c tot w HC.out HBy.out (by rw [HML.out, HLn.out]) (by omega) okd (by rw [HOk.out]; exact ⟨fun h => h.2, fun h => ⟨HML.out, h⟩⟩)).mono ?_
    rintro e w1 ⟨rfl, rfl⟩
    cases okd
    case false =>
      go_wp2_with fail
      go_ret2
      exact ⟨_, rfl, Kd.R_nil _ _ _ _ _, Below.refl _ _⟩
    case true =>
      clear HOk
      go_wp2_with (first
        | ((with_reducible refine gate_dst (N := 42) rfl ?_); refine Kd.R_make (Kd.int .i64) (w0 := w) w.heap.size 3 rfl (N := 42) rfl 22 _ _ rfl (many : Int) rfl rfl Try.underlying22 (.int .i64 0) 8 info3s rfl (by decide) (by decide) (0 : Int) (ok := fun _ => True) (okp := fun _ => True) ?hz (fun _ h => h) trivial (by omega) (by omega) (Below.refl _ _) (Nat.le_refl _) ?_; (case hz => rfl); intro v6 w6 ho6 hb6 hg6 ha6; rw [Int.toNat_natCast] at ho6; obtain ⟨A6, c6, rfl, hc6, hC6⟩ := Kd.R_reads ho6; rw [List.length_replicate] at ho6 hc6 ⊢; have HO6 := Aside0.mk ho6; have HB6 := Aside0.mk hb6; clear ho6 hb6 hg6 ha6 hC6)
        | fail)
      go_loopw [45] (fun kv w' => ∃ k : Nat, k ≤ many ∧ kv = .int .i64 k ∧ Aside0 (Kd.R (Kd.int .i64) 3 w' w.heap.size (fun _ => True) (.slice A6 many c6) (unpk b wd k ++ List.replicate (many - k) 0)) ∧ Aside0 (Below w.heap.size w w')) (fun kv _ => many - (intOf kv).toNat)
      case atStart => exact ⟨0, Nat.zero_le _, rfl, ⟨by simpa [unpk] using HO6.out⟩, HB6⟩
      case round =>
        obtain ⟨k, hk, rfl, HO, HB⟩ := hrel
        by_cases hlt : k < many
        · obtain ⟨g, rfl, hg, -⟩ := R_plain HO.out (by omega)
          have HWK : Aside0 (wd * k + wd ≤ tot) := ⟨by rw [← HT.out, ← Nat.mul_succ]; exact Nat.mul_le_mul_left _ hlt⟩
          obtain ⟨wk, hwk⟩ : ∃ wk, wk = wd * k := ⟨_, rfl⟩
          have hwki : (wd : Int) * (k : Int) = (wk : Int) := by rw [hwk]; simp
          have hwkt : wk + wd ≤ tot := by rw [hwk]; exact HWK.out
          have HWk := Aside0.mk hwk
          clear hwk HWK
          have HS0 := Aside0.mk (show unpk b wd k ++ List.replicate (many - k) 0 = (unpk b wd k ++ List.replicate (many - k) 0).set k ((low b wk 0 : Nat) : Int) by
            obtain ⟨d, hd⟩ : ∃ d, many - k = d + 1 := ⟨many - k - 1, by omega⟩
            rw [hd, List.replicate_succ, List.set_append_right _ _ (by rw [unpk_length]; exact Nat.le_refl _), unpk_length, Nat.sub_self]
            rfl)
          go_wp2_with fail
          go_loopw [49] (fun jv w' => ∃ j : Nat, j ≤ wd ∧ jv = .int .i64 j ∧ Aside0 (Kd.R (Kd.int .i64) 3 w' w.heap.size (fun _ => True) (.slice (some ⟨g, 0, none⟩) many c6) ((unpk b wd k ++ List.replicate (many - k) 0).set k ((low b wk j : Nat) : Int))) ∧ Aside0 (Below w.heap.size w w')) (fun jv _ => wd - (intOf jv).toNat)
          case atStart => exact ⟨0, Nat.zero_le _, rfl, ⟨by rw [← HS0.out]; exact HO.out⟩, HB⟩
          case round =>
            clear HO HB HS0
            obtain ⟨j, hj, rfl, HO, HB⟩ := hrel
            by_cases hjw : j < wd
            · obtain ⟨i, hi⟩ : ∃ i, i = wk + j := ⟨_, rfl⟩
              have HI := Aside0.mk hi
              have hii : (wk : Int) + (j : Int) = (i : Int) := by omega
              have hi2 : i < tot := by omega
              clear hi
              have hqm : i / 8 < m := by rw [HML.out, ← HLn.out]; unfold long; omega
              have HCw := Aside0.mk (Kd.C_below HC.out HB.out)
              have hmlen : m = b.length := HC.out.1.symm
              obtain ⟨ad, e, hcell⟩ := Kd.at_int HCw.out ((i / 8 : Nat) : Int) (by omega) (by omega)
              subst e
              simp only [Int.toNat_natCast, rd_nat] at hcell
              have hbb := HBy.out.getD (i / 8)
              have hlb : bit b i = (b.getD (i / 8) 0).toNat / 2 ^ (i % 8) % 2 := rfl
              have HS := Aside0.mk (show low b wk (j + 1) = low b wk j + bit b i * 2 ^ j by rw [HI.out]; rfl)
              have hll := low_lt b wk j
              have hb2 := bit_lt b i
              rw [hlb] at HS hb2
              obtain ⟨hc1, hf1⟩ := R_at HO.out k hlt
              rw [getD_set, if_pos ⟨rfl, by simp [unpk_length]; omega⟩] at hc1
              generalize b.getD (i / 8) 0 = cc at *
              obtain ⟨cn, rfl⟩ := Int.eq_ofNat_of_zero_le hbb.1
              rw [Int.toNat_natCast] at HS hb2
              have hcn : cn < 256 := by omega
              have hbt := bit_test8 cn (i % 8) hcn
              have hor := fun h => or_low (low b wk j) (cn / 2 ^ (i % 8) % 2) j h hll
              have hr9 : i % 8 < 8 := Nat.mod_lt _ (by decide)
              have hqq : ((i / 8 : Nat) : Int) < (m : Int) := by omega
              have hq0 : (0 : Int) ≤ ((i / 8 : Nat) : Int) := by omega
              have hj32 : j < 32 := by omega
              have hi4 : i ≤ 4611686018427387904 := by omega
              have hor := hor hb2 hj32
              have hsh := shl64 _ j hb2 hj32
              have hwb := wrap_bit _ hb2
              clear hbb hlb
              generalize cn / 2 ^ (i % 8) % 2 = bv at *
              have HP := Aside0.mk (R_set_at HO.out k ((low b wk j + bv * 2 ^ j : Nat) : Int))
              rw [List.set_set] at HP
              obtain ⟨bs, hbs⟩ : ∃ bs, ((bv * 2 ^ j : Nat) : Int) = bs := ⟨_, rfl⟩
              rw [hbs] at hor hsh
              clear hbs
              obtain ⟨lo, hlo⟩ : ∃ lo, low b wk j = lo := ⟨_, rfl⟩
              rw [hlo] at hor hc1 HS HP
              clear hlo hll
              have hq8 := div8_w i hi4
              have hr8 := tmod8_w i
              obtain ⟨q, hq⟩ : ∃ q, i / 8 = q := ⟨_, rfl⟩
              obtain ⟨r, hr⟩ : ∃ r, i % 8 = r := ⟨_, rfl⟩
              rw [hq] at hq8 hqq hq0 hcell hqm
              rw [hr] at hr8 hr9 hbt
              clear hq hr hi4 hmlen
              go_wp2_with fail
              refine start_ (n := 19) (S := fun w' => w'.cell? ⟨g, k, none⟩ = some (.int .i64 lo) ∧ w'.frozen? ⟨g, k, none⟩ = false ∧ w'.cell? (ad.add q) = some (.int .u8 cn)) (ds := [18]) #[false, false, false, false, false, false, false, false, false, false, false, false, false, false, false, false, false, false, false] (by kernel_rfl) rfl rfl ⟨hc1, hf1, hcell⟩ (fun hHeld => ?_)
              refine pure_ (i := 0) (N := some 57) (v := ?_) (a' := ?_) #[true, false, false, false, false, false, false, false, false, false, false, false, false, false, false, false, false, false, false] rfl rfl (by kernel_rfl) (fun _ _ _ h => h) (Or.inl ⟨by rfl, ?_⟩) ?_ ?_
              rotate_left
              · intro w'
                go_simp
                with_reducible rfl
              rotate_left
              · simp only [Act.put, List.setIfInBounds_toArray, List.set_cons_zero, List.set_cons_succ, i64_w, i32_w]
                rfl
              refine pure_ (i := 1) (N := some 58) (v := ?_) (a' := ?_) #[true, true, false, false, false, false, false, false, false, false, false, false, false, false, false, false, false, false, false] rfl rfl (by kernel_rfl) (fun _ _ _ h => h) (Or.inl ⟨by rfl, ?_⟩) ?_ ?_
              rotate_left
              · intro w'
                go_simp
                with_reducible rfl
              rotate_left
              · simp only [Act.put, List.setIfInBounds_toArray, List.set_cons_zero, List.set_cons_succ, i64_w, i32_w]
                rfl
              refine pure_ (i := 2) (N := some 59) (v := ?_) (a' := ?_) #[true, true, true, false, false, false, false, false, false, false, false, false, false, false, false, false, false, false, false] rfl rfl (by kernel_rfl) (fun _ _ _ h => h) (Or.inl ⟨by rfl, ?_⟩) ?_ ?_
              rotate_left
              · intro w'
                go_simp
                with_reducible rfl
              rotate_left
              · simp only [Act.put, List.setIfInBounds_toArray, List.set_cons_zero, List.set_cons_succ, i64_w, i32_w]
                rfl
              refine pure_ (i := 4) (N := some 61) (v := ?_) (a' := ?_) #[true, true, true, false, true, false, false, false, false, false, false, false, false, false, false, false, false, false, false] rfl rfl (by kernel_rfl) (fun _ _ _ h => h) (Or.inl ⟨by rfl, ?_⟩) ?_ ?_
              rotate_left
              · intro w'
                go_simp
                with_reducible rfl
              rotate_left
              · simp only [Act.put, List.setIfInBounds_toArray, List.set_cons_zero, List.set_cons_succ, i64_w, i32_w]
                rfl
              refine pure_ (i := 5) (N := some 62) (v := ?_) (a' := ?_) #[true, true, true, false, true, true, false, false, false, false, false, false, false, false, false, false, false, false, false] rfl rfl (by kernel_rfl) (fun _ _ _ h => h) (Or.inl ⟨by rfl, ?_⟩) ?_ ?_
              rotate_left
              · intro w'
                go_simp
                with_reducible rfl
              rotate_left
              · simp only [Act.put, List.setIfInBounds_toArray, List.set_cons_zero, List.set_cons_succ, i64_w, i32_w]
                rfl
              refine pure_ (i := 6) (N := some 63) (v := ?_) (a' := ?_) #[true, true, true, false, true, true, true, false, false, false, false, false, false, false, false, false, false, false, false] rfl rfl (by kernel_rfl) (fun _ _ _ h => h) (Or.inl ⟨by rfl, ?_⟩) ?_ ?_
              rotate_left
              · intro w'
                go_simp
                with_reducible rfl
              rotate_left
              · simp only [Act.put, List.setIfInBounds_toArray, List.set_cons_zero, List.set_cons_succ, i64_w, i32_w]
                rfl
              refine pure_ (i := 7) (N := some 64) (v := ?_) (a' := ?_) #[true, true, true, false, true, true, true, true, false, false, false, false, false, false, false, false, false, false, false] rfl rfl (by kernel_rfl) (fun _ _ _ h => h) (Or.inl ⟨by rfl, ?_⟩) ?_ ?_
              rotate_left
              · intro w'
                go_simp
                with_reducible rfl
              rotate_left
              · simp only [Act.put, List.setIfInBounds_toArray, List.set_cons_zero, List.set_cons_succ, i64_w, i32_w]
                rfl
              refine pure_ (i := 9) (N := some 66) (v := ?_) (a' := ?_) #[true, true, true, false, true, true, true, true, false, true, false, false, false, false, false, false, false, false, false] rfl rfl (by kernel_rfl) (fun _ _ _ h => h) (Or.inl ⟨by rfl, ?_⟩) ?_ ?_
              rotate_left
              · intro w'
                go_simp
                with_reducible rfl
              rotate_left
              · simp only [Act.put, List.setIfInBounds_toArray, List.set_cons_zero, List.set_cons_succ, i64_w, i32_w]
                rfl
              refine pure_ (i := 10) (N := some 67) (v := ?_) (a' := ?_) #[true, true, true, false, true, true, true, true, false, true, true, false, false, false, false, false, false, false, false] rfl rfl (by kernel_rfl) (fun _ _ _ h => h) (Or.inl ⟨by rfl, ?_⟩) ?_ ?_
              rotate_left
              · intro w'
                go_simp
                with_reducible rfl
              rotate_left
              · simp only [Act.put, List.setIfInBounds_toArray, List.set_cons_zero, List.set_cons_succ, i64_w, i32_w]
                rfl
              refine pure_ (i := 14) (N := some 71) (v := ?_) (a' := ?_) #[true, true, true, false, true, true, true, true, false, true, true, false, false, false, true, false, false, false, false] rfl rfl (by kernel_rfl) (fun _ _ _ h => h) (Or.inl ⟨by rfl, ?_⟩) ?_ ?_
              rotate_left
              · intro w'
                go_simp
                with_reducible rfl
              rotate_left
              · simp only [Act.put, List.setIfInBounds_toArray, List.set_cons_zero, List.set_cons_succ, i64_w, i32_w]
                rfl
              refine take_ (i := 3) (N := some 60) (v := ?_) (a' := ?_) #[true, true, true, true, true, true, true, true, false, true, true, false, false, false, true, false, false, false, false] rfl rfl (by kernel_rfl) (fun _ _ _ h => h) (Or.inl ⟨by rfl, ?_⟩) hHeld ?_ ?_
              rotate_left
              · rintro w' ⟨s0, s1, s2⟩
                go_simp
                with_reducible rfl
              rotate_left
              · simp only [Act.put, List.setIfInBounds_toArray, List.set_cons_zero, List.set_cons_succ, i64_w, i32_w]
                rfl
              refine take_ (i := 8) (N := some 65) (v := ?_) (a' := ?_) #[true, true, true, true, true, true, true, true, true, true, true, false, false, false, true, false, false, false, false] rfl rfl (by kernel_rfl) (fun _ _ _ h => h) (Or.inl ⟨by rfl, ?_⟩) hHeld ?_ ?_
              rotate_left
              · rintro w' ⟨s0, s1, s2⟩
                go_simp
                with_reducible rfl
              rotate_left
              · simp only [Act.put, List.setIfInBounds_toArray, List.set_cons_zero, List.set_cons_succ, i64_w, i32_w]
                rfl
              refine pure_ (i := 11) (N := some 68) (v := ?_) (a' := ?_) #[true, true, true, true, true, true, true, true, true, true, true, true, false, false, true, false, false, false, false] rfl rfl (by kernel_rfl) (fun _ _ _ h => h) (Or.inl ⟨by rfl, ?_⟩) ?_ ?_
              rotate_left
              · intro w'
                go_simp
                with_reducible rfl
              rotate_left
              · simp only [Act.put, List.setIfInBounds_toArray, List.set_cons_zero, List.set_cons_succ, i64_w, i32_w]
                rfl
              refine pure_ (i := 12) (N := some 69) (v := ?_) (a' := ?_) #[true, true, true, true, true, true, true, true, true, true, true, true, true, false, true, false, false, false, false] rfl rfl (by kernel_rfl) (fun _ _ _ h => h) (Or.inl ⟨by rfl, ?_⟩) ?_ ?_
              rotate_left
              · intro w'
                go_simp
                with_reducible rfl
              rotate_left
              · simp only [Act.put, List.setIfInBounds_toArray, List.set_cons_zero, List.set_cons_succ, i64_w, i32_w]
                rfl
              refine pure_ (i := 13) (N := some 70) (v := ?_) (a' := ?_) #[true, true, true, true, true, true, true, true, true, true, true, true, true, true, true, false, false, false, false] rfl rfl (by kernel_rfl) (fun _ _ _ h => h) (Or.inl ⟨by rfl, ?_⟩) ?_ ?_
              rotate_left
              · intro w'
                go_simp
                with_reducible rfl
              rotate_left
              · simp only [Act.put, List.setIfInBounds_toArray, List.set_cons_zero, List.set_cons_succ, i64_w, i32_w]
                rfl
              refine pure_ (i := 15) (N := some 72) (v := ?_) (a' := ?_) #[true, true, true, true, true, true, true, true, true, true, true, true, true, true, true, true, false, false, false] rfl rfl (by kernel_rfl) (fun _ _ _ h => h) (Or.inl ⟨by rfl, ?_⟩) ?_ ?_
              rotate_left
              · intro w'
                go_simp
                with_reducible rfl
              rotate_left
              · simp only [Act.put, List.setIfInBounds_toArray, List.set_cons_zero, List.set_cons_succ, i64_w, i32_w]
                rfl
              refine pure_ (i := 16) (N := some 73) (v := ?_) (a' := ?_) #[true, true, true, true, true, true, true, true, true, true, true, true, true, true, true, true, true, false, false] rfl rfl (by kernel_rfl) (fun _ _ _ h => h) (Or.inl ⟨by rfl, ?_⟩) ?_ ?_
              rotate_left
              · intro w'
                go_simp
                with_reducible rfl
              rotate_left
              · simp only [Act.put, List.setIfInBounds_toArray, List.set_cons_zero, List.set_cons_succ, i64_w, i32_w]
                rfl
              refine pure_ (i := 17) (N := some 74) (v := ?_) (a' := ?_) #[true, true, true, true, true, true, true, true, true, true, true, true, true, true, true, true, true, true, false] rfl rfl (by kernel_rfl) (fun _ _ _ h => h) (Or.inl ⟨by rfl, ?_⟩) ?_ ?_
              rotate_left
              · intro w'
                go_simp
                with_reducible rfl
              rotate_left
              · simp only [Act.put, List.setIfInBounds_toArray, List.set_cons_zero, List.set_cons_succ, i64_w, i32_w]
                rfl
              refine last_ (i := 18) (N := none) #[true, true, true, true, true, true, true, true, true, true, true, true, true, true, true, true, true, true, true] rfl rfl (by kernel_rfl) (by decide) (fun K hK => ?_)
              refine skip_ (w1 := ?_) (by rfl) rfl ?_ ?_
              rotate_left
              · go_simp
                rfl
              refine hK.out _ _ ?_
              clear hK K
              refine done_ (by kernel_rfl) ?_
              go_wp2_with fail
              go_roundw
              case rel => exact ⟨j + 1, by omega, by go_num, ⟨by rw [HS.out]; have h := Kd.R_drew HP.out; have e : ((lo + bv * 2 ^ j : Nat) : Int) = (lo : Int) + (bv : Int) * 2 ^ j := (by simp); rw [e] at h ⊢; exact h⟩, ⟨below_drew (below_set HB.out hg)⟩⟩
              case measure => simp [intOf]; omega
            · have : j = wd := by omega
              subst this
              have HS := Aside0.mk (show unpk b j (k + 1) ++ List.replicate (many - (k + 1)) 0 = (unpk b j k ++ List.replicate (many - k) 0).set k ((low b wk j : Nat) : Int) by
                obtain ⟨d, hd⟩ : ∃ d, many - k = d + 1 := ⟨many - k - 1, by omega⟩
                rw [hd, List.replicate_succ, List.set_append_right _ _ (by rw [unpk_length]; exact Nat.le_refl _), unpk_length, Nat.sub_self, unpk_succ, show many - (k + 1) = d by omega, HWk.out]
                simp [numAt])
              go_wp2_with fail
              go_roundw
              case rel => exact ⟨k + 1, by omega, by go_num, ⟨by rw [HS.out]; exact HO.out⟩, HB⟩
              case measure => simp [intOf]; omega
        · have : k = many := by omega
          subst this
          have HS := Aside0.mk (show unpk b wd k = unpk b wd k ++ List.replicate (k - k) 0 by simp)
          go_wp2_with fail
          go_ret2
          exact ⟨_, rfl, by rw [HS.out]; exact HO.out, HB.out⟩
end Go.Proofs.Ytcgfheagbaafoaa.PackA
