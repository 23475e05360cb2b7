/- bits.Pack: what it answers. -/
import Derived.Test.YtcgfheagbaafoaaDoorPack
import Derived.Test.YtcgfheagbaafoaaDoorChecked
import Derived.WalkSpells
import Derived.Outline
namespace Go.Proofs.YtcgfheagbaafoaaDoor.PackA
set_option linter.unusedVariables false
set_option linter.unusedSimpArgs false
open Go.RowKit Go.Proofs.YtcgfheagbaafoaaDoorW.PrintWords Go.Proofs.YtcgfheagbaafoaaDoorW.PrintLast Go.Proofs.YtcgfheagbaafoaaDoorW.PrintMore Go.Proofs.YtcgfheagbaafoaaDoor.Lib Go.Proofs.YtcgfheagbaafoaaDoor.Pack

theorem info5s : (Tryd.prog.info? 5).map (·.size) = some 1 := by kernel_rfl
theorem info5 : (Tryd.prog.info? 5).map (fun i => (i.zero, i.size, i.bytes)) = some (some (.int .u8 0), 1, 1) := by kernel_rfl

set_option maxRecDepth 100000 in
set_option maxHeartbeats 400000 in
theorem long_calls (n : Nat) (w : World) (hn : n ≤ 4611686018427387904) :
    Calls Tryd.prog 33 #[.int .i64 n] w fun e w' => e = .returned (.int .i64 (long n : Nat)) ∧ w = w' := by
  have HL := Aside0.mk (show ((long n : Nat) : Int) = ((n : Int) + 7) / 8 by unfold long; omega)
  go_enter Tryd.func33, Tryd.ntmps33
  go_wp2
  go_ret
  exact ⟨by rw [HL.out]; rfl, rfl⟩

set_option maxRecDepth 100000 in
set_option maxHeartbeats 400000 in
theorem pack_range (A : Option Addr) (m c : Nat) (wd : Int) (w : World) (h : wd < 0 ∨ 32 < wd) :
    Calls Tryd.prog 25 #[.slice A m c, .int .i64 wd] w fun e w' => e = .returned (.tuple #[.slice none 0 0, .int .i64 1]) ∧ w = w' := by
  by_cases h0 : wd < 0
  · go_enter Tryd.func25, Tryd.ntmps25
    go_wp2
    go_ret2
    exact ⟨rfl, rfl⟩
  · have h1 : 32 < wd := by omega
    clear h
    go_enter Tryd.func25, Tryd.ntmps25
    go_wp2
    go_ret2
    exact ⟨rfl, rfl⟩

/-- the first so many fit -/
def Fits (l : List Int) (w k : Nat) : Prop := ∀ q, q < k → 0 ≤ l.getD q 0 ∧ l.getD q 0 < ((2 ^ w : Nat) : Int)

set_option maxRecDepth 100000 in
set_option maxHeartbeats 1600000 in
theorem pack_calls (l : List Int) (A : Option Addr) (m c wd : Nat) (w : World) (hC : Kd.C (Kd.int .i64) w A m l) (hm : m ≤ 5000) (hw : wd ≤ 32) (hl : ∀ x ∈ l, -9223372036854775808 ≤ x ∧ x ≤ 9223372036854775807) :
    Calls Tryd.prog 25 #[.slice A m c, .int .i64 wd] w fun e w' => ∃ v code xs, e = .returned (.tuple #[v, .int .i64 code]) ∧ Kd.R (Kd.int .u8) 5 w' w.heap.size (fun _ => True) v xs ∧ Below w.heap.size w w' ∧
      ((Fits l wd m ∧ code = 0 ∧ xs = packed l wd) ∨ (¬ Fits l wd m ∧ code = 1 ∧ xs = [])) := by
  have HC := Aside0.mk hC
  have HLen := Aside0.mk (show l.length = m from hC.1)
  have HLb := Aside0.mk hl
  have hwm : wd * m ≤ 160000 := Nat.le_trans (Nat.mul_le_mul hw hm) (by decide)
  obtain ⟨tot, HT⟩ : ∃ tot, Aside0 (wd * m = tot) := ⟨_, ⟨rfl⟩⟩
  have ht : (wd : Int) * (m : Int) = (tot : Int) := by rw [← HT.out]; simp
  have htot : tot ≤ 160000 := by have := HT.out; omega
  clear hC hl hwm
  go_enter Tryd.func25, Tryd.ntmps25
  go_wp2_with fail
  refine (long_calls tot w (by omega)).mono ?_
  rintro e w1 ⟨rfl, rfl⟩
  have hlong : long tot ≤ 20001 := by unfold long; omega
  obtain ⟨ln, HLn⟩ : ∃ ln, Aside0 (long tot = ln) := ⟨_, ⟨rfl⟩⟩
  rw [HLn.out] at hlong ⊢
  go_wp2_with (first
    | ((with_reducible refine gate_dst (N := 22) rfl ?_); refine Kd.R_make (Kd.int .u8) (w0 := w) w.heap.size 5 rfl (N := 22) rfl 36 _ _ rfl (ln : Int) rfl rfl Tryd.underlying36 (.int .u8 0) 1 info5 rfl (by decide) (by decide) (0 : Int) (ok := fun _ => True) (okp := fun _ => True) ?hz (fun _ h => h) trivial (by omega) (by omega) (Below.refl _ _) (Nat.le_refl _) ?_; (case hz => rfl); intro v6 w6 ho6 hb6 hg6 ha6; rw [Int.toNat_natCast] at ho6; obtain ⟨A6, c6, rfl, hc6, hC6⟩ := Kd.R_reads ho6; rw [List.length_replicate] at ho6 hc6 ⊢; have HO6 := Aside0.mk ho6; have HB6 := Aside0.mk hb6; clear ho6 hb6 hg6 ha6 hC6)
    | fail)
  go_loopw [25] (fun kv w' => ∃ k : Nat, k ≤ m ∧ kv = .int .i64 k ∧ Aside0 (Fits l wd k) ∧ Aside0 (Kd.R (Kd.int .u8) 5 w' w.heap.size (fun _ => True) (.slice A6 ln c6) (outAt (bitAt l wd) ln (wd * k))) ∧ Aside0 (Below w.heap.size w w')) (fun kv _ => m - (intOf kv).toNat)
  case atStart => exact ⟨0, Nat.zero_le _, rfl, ⟨fun q hq => by omega⟩, HO6, HB6⟩
  case round =>
    obtain ⟨k, hk, rfl, HF, HO, HB⟩ := hrel
    by_cases hlt : k < m
    · have HCw := Aside0.mk (Kd.C_below HC.out HB.out)
      obtain ⟨ad, e, hcell⟩ := Kd.at_int HCw.out k (by omega) (by omega)
      cases e
      simp only [Int.toNat_natCast, rd_nat] at hcell
      have hb2 := HLb.out (l.getD k 0) (by rw [List.getD_eq_getElem?_getD, List.getElem?_eq_getElem (by have := HLen.out; omega)]; exact List.getElem_mem _)
      by_cases hneg : l.getD k 0 < 0
      · generalize hz : l.getD k 0 = z at *
        have HZ := Aside0.mk hz
        clear hz
        go_wp2_with fail
        go_ret2
        exact ⟨_, _, [], rfl, Kd.R_nil _ _ _ _ _, HB.out, .inr ⟨fun h => by have := (h k hlt).1; rw [HZ.out] at this; omega, rfl, rfl⟩⟩
      · have HFk := HF.out
        obtain ⟨nk, hnk⟩ := Int.eq_ofNat_of_zero_le (show 0 ≤ l.getD k 0 by omega)
        rw [hnk] at hcell hb2
        have HNK := Aside0.mk hnk
        have hnk2 : nk < 9223372036854775808 := by omega
        have h0 : decide ((nk : Int) < 0) = false := decide_eq_false (by omega)
        clear hneg hnk hb2 HFk
        by_cases hfit : nk < 2 ^ wd
        case neg =>
          have HP := Aside0.mk hfit
          have hsh : ((nk : Int) / 2 ^ wd != 0) = true := by
            have : 0 < 2 ^ wd := Nat.pos_of_ne_zero (by simp)
            have h2 : nk / 2 ^ wd ≠ 0 := by rw [Nat.div_ne_zero_iff]; omega
            rw [bne_iff_ne]
            intro h3
            apply h2
            have : ((nk / 2 ^ wd : Nat) : Int) = 0 := by simpa using h3
            omega
          clear hfit
          go_wp2_with fail
          go_ret2
          exact ⟨_, _, [], rfl, Kd.R_nil _ _ _ _ _, HB.out, .inr ⟨fun h => by have := (h k hlt).2; rw [HNK.out] at this; have := HP.out; omega, rfl, rfl⟩⟩
        case pos =>
          have HP := Aside0.mk hfit
          have hsh : ((nk : Int) / 2 ^ wd != 0) = false := by
            rw [bne_eq_false_iff_eq]
            have : nk / 2 ^ wd = 0 := Nat.div_eq_of_lt hfit
            have : ((nk / 2 ^ wd : Nat) : Int) = 0 := by rw [this]; rfl
            simpa using this
          have HWK : Aside0 (wd * k + wd ≤ tot) := ⟨by rw [← HT.out, ← Nat.mul_succ]; exact Nat.mul_le_mul_left _ hlt⟩
          obtain ⟨wk, hwk⟩ : ∃ wk, wk = wd * k := ⟨_, rfl⟩
          have hwki : (wd : Int) * (k : Int) = (wk : Int) := by rw [hwk]; simp
          have hwkt : wk + wd ≤ tot := by rw [hwk]; exact HWK.out
          have HWk := Aside0.mk hwk
          rw [← hwk] at HO
          clear hfit hwk HWK
          go_wp2_with fail
          go_loopw [39] (fun jv w' => ∃ j : Nat, j ≤ wd ∧ jv = .int .i64 j ∧ Aside0 (Kd.R (Kd.int .u8) 5 w' w.heap.size (fun _ => True) (.slice A6 ln c6) (outAt (bitAt l wd) ln (wk + j))) ∧ Aside0 (Below w.heap.size w w')) (fun jv _ => wd - (intOf jv).toNat)
          case atStart => exact ⟨0, Nat.zero_le _, rfl, HO, HB⟩
          case round =>
            clear HO HB HCw hcell
            obtain ⟨j, hj, rfl, HO, HB⟩ := hrel
            by_cases hjw : j < wd
            · have hiln : wk + j < 8 * ln := by have := long_le tot; rw [HLn.out] at this; omega
              obtain ⟨g, rfl, hg, -⟩ := R_plain HO.out (by omega)
              have hbv : bitAt l wd (wk + j) = nk / 2 ^ j % 2 := by rw [HWk.out, bitAt_at l wd k j hjw, HNK.out, Int.toNat_natCast]
              have hbt := bit_test64 nk j hnk2
              have hb2 : nk / 2 ^ j % 2 < 2 := Nat.mod_lt _ (by decide)
              obtain ⟨i, hi⟩ : ∃ i, i = wk + j := ⟨_, rfl⟩
              have HI := Aside0.mk hi
              have hii : (wk : Int) + (j : Int) = (i : Int) := by omega
              rw [← hi] at HO hbv hiln
              have hi2 : i ≤ 160000 := by omega
              clear hi
              have hfr := outAt_fresh (bitAt l wd) (bitAt_lt l wd) ln i (i / 8)
              rw [show min 8 (i - 8 * (i / 8)) = i % 8 by omega] at hfr
              have HS := Aside0.mk (show outAt (bitAt l wd) ln (i + 1) = putbit (outAt (bitAt l wd) ln i) i (bitAt l wd i) from rfl)
              rw [hbv] at HS
              clear hbv
              generalize nk / 2 ^ j % 2 = b at *
              unfold putbit at HS
              generalize outAt (bitAt l wd) ln i = L at *
              have hor := fun cn => or_bit cn b i hb2
              have hsl := shl_bit b i hb2
              have hr9 : i % 8 < 8 := Nat.mod_lt _ (by decide)
              have hqq : ((i / 8 : Nat) : Int) < (ln : Int) := by omega
              have hq0 : (0 : Int) ≤ ((i / 8 : Nat) : Int) := by omega
              have hi8 : i / 8 < ln := by omega
              have hi4 : i ≤ 4611686018427387904 := by omega
              obtain ⟨q, hq⟩ : ∃ q, i / 8 = q := ⟨_, rfl⟩
              obtain ⟨r, hr⟩ : ∃ r, i % 8 = r := ⟨_, rfl⟩
              rw [hq, hr] at hfr HS
              simp only [hr] at hor
              rw [hr] at hsl hr9
              rw [hq] at hqq hq0 hi8
              obtain ⟨hc1, hf1⟩ := R_at HO.out q hi8
              have HP := Aside0.mk (R_set_at HO.out q (L.getD q 0 + ((b * 2 ^ r : Nat) : Int)))
              generalize L.getD q 0 = cc at *
              obtain ⟨cn, rfl⟩ := Int.eq_ofNat_of_zero_le hfr.1
              have hor := hor cn (by have := hfr.2; omega)
              rw [← Int.natCast_add] at HS HP
              clear hfr
              obtain ⟨bs, hbs⟩ : ∃ bs, ((b * 2 ^ r : Nat) : Int) = bs := ⟨_, rfl⟩
              rw [hbs] at hsl hor
              clear hbs
              have hq8 := div8_w i hi4
              have hr8 := tmod8_w i
              have hub := u8_bit b hb2
              rw [hq] at hq8
              rw [hr] at hr8
              clear hq hr hi4
              go_wp2_with fail
              refine start_ (n := 16) (S := fun w' => w'.cell? ⟨g, q, none⟩ = some (.int .u8 cn) ∧ w'.frozen? ⟨g, q, none⟩ = false) (ds := [15]) #[false, false, false, false, false, false, false, false, false, false, false, false, false, false, false, false] (by kernel_rfl) rfl rfl ⟨hc1, hf1⟩ (fun hHeld => ?_)
              refine pure_ (i := 0) (N := some 47) (v := ?_) (a' := ?_) #[true, false, false, false, false, false, false, false, false, false, false, false, false, false, false, false] rfl rfl (by kernel_rfl) (fun _ _ _ h => h) (Or.inl ⟨by rfl, ?_⟩) ?_ ?_
              rotate_left
              · intro w'
                go_simp
                with_reducible rfl
              rotate_left
              · simp only [Act.put, List.setIfInBounds_toArray, List.set_cons_zero, List.set_cons_succ, i64_w, i32_w]
                rfl
              refine pure_ (i := 1) (N := some 48) (v := ?_) (a' := ?_) #[true, true, false, false, false, false, false, false, false, false, false, false, false, false, false, false] rfl rfl (by kernel_rfl) (fun _ _ _ h => h) (Or.inl ⟨by rfl, ?_⟩) ?_ ?_
              rotate_left
              · intro w'
                go_simp
                with_reducible rfl
              rotate_left
              · simp only [Act.put, List.setIfInBounds_toArray, List.set_cons_zero, List.set_cons_succ, i64_w, i32_w]
                rfl
              refine pure_ (i := 2) (N := some 49) (v := ?_) (a' := ?_) #[true, true, true, false, false, false, false, false, false, false, false, false, false, false, false, false] rfl rfl (by kernel_rfl) (fun _ _ _ h => h) (Or.inl ⟨by rfl, ?_⟩) ?_ ?_
              rotate_left
              · intro w'
                go_simp
                with_reducible rfl
              rotate_left
              · simp only [Act.put, List.setIfInBounds_toArray, List.set_cons_zero, List.set_cons_succ, i64_w, i32_w]
                rfl
              refine pure_ (i := 3) (N := some 50) (v := ?_) (a' := ?_) #[true, true, true, true, false, false, false, false, false, false, false, false, false, false, false, false] rfl rfl (by kernel_rfl) (fun _ _ _ h => h) (Or.inl ⟨by rfl, ?_⟩) ?_ ?_
              rotate_left
              · intro w'
                go_simp
                with_reducible rfl
              rotate_left
              · simp only [Act.put, List.setIfInBounds_toArray, List.set_cons_zero, List.set_cons_succ, i64_w, i32_w]
                rfl
              refine pure_ (i := 5) (N := some 52) (v := ?_) (a' := ?_) #[true, true, true, true, false, true, false, false, false, false, false, false, false, false, false, false] rfl rfl (by kernel_rfl) (fun _ _ _ h => h) (Or.inl ⟨by rfl, ?_⟩) ?_ ?_
              rotate_left
              · intro w'
                go_simp
                with_reducible rfl
              rotate_left
              · simp only [Act.put, List.setIfInBounds_toArray, List.set_cons_zero, List.set_cons_succ, i64_w, i32_w]
                rfl
              refine pure_ (i := 6) (N := some 53) (v := ?_) (a' := ?_) #[true, true, true, true, false, true, true, false, false, false, false, false, false, false, false, false] rfl rfl (by kernel_rfl) (fun _ _ _ h => h) (Or.inl ⟨by rfl, ?_⟩) ?_ ?_
              rotate_left
              · intro w'
                go_simp
                with_reducible rfl
              rotate_left
              · simp only [Act.put, List.setIfInBounds_toArray, List.set_cons_zero, List.set_cons_succ, i64_w, i32_w]
                rfl
              refine pure_ (i := 7) (N := some 54) (v := ?_) (a' := ?_) #[true, true, true, true, false, true, true, true, false, false, false, false, false, false, false, false] rfl rfl (by kernel_rfl) (fun _ _ _ h => h) (Or.inl ⟨by rfl, ?_⟩) ?_ ?_
              rotate_left
              · intro w'
                go_simp
                with_reducible rfl
              rotate_left
              · simp only [Act.put, List.setIfInBounds_toArray, List.set_cons_zero, List.set_cons_succ, i64_w, i32_w]
                rfl
              refine pure_ (i := 8) (N := some 55) (v := ?_) (a' := ?_) #[true, true, true, true, false, true, true, true, true, false, false, false, false, false, false, false] rfl rfl (by kernel_rfl) (fun _ _ _ h => h) (Or.inl ⟨by rfl, ?_⟩) ?_ ?_
              rotate_left
              · intro w'
                go_simp
                with_reducible rfl
              rotate_left
              · simp only [Act.put, List.setIfInBounds_toArray, List.set_cons_zero, List.set_cons_succ, i64_w, i32_w]
                rfl
              refine pure_ (i := 9) (N := some 56) (v := ?_) (a' := ?_) #[true, true, true, true, false, true, true, true, true, true, false, false, false, false, false, false] rfl rfl (by kernel_rfl) (fun _ _ _ h => h) (Or.inl ⟨by rfl, ?_⟩) ?_ ?_
              rotate_left
              · intro w'
                go_simp
                with_reducible rfl
              rotate_left
              · simp only [Act.put, List.setIfInBounds_toArray, List.set_cons_zero, List.set_cons_succ, i64_w, i32_w]
                rfl
              refine pure_ (i := 10) (N := some 57) (v := ?_) (a' := ?_) #[true, true, true, true, false, true, true, true, true, true, true, false, false, false, false, false] rfl rfl (by kernel_rfl) (fun _ _ _ h => h) (Or.inl ⟨by rfl, ?_⟩) ?_ ?_
              rotate_left
              · intro w'
                go_simp
                with_reducible rfl
              rotate_left
              · simp only [Act.put, List.setIfInBounds_toArray, List.set_cons_zero, List.set_cons_succ, i64_w, i32_w]
                rfl
              refine pure_ (i := 11) (N := some 58) (v := ?_) (a' := ?_) #[true, true, true, true, false, true, true, true, true, true, true, true, false, false, false, false] rfl rfl (by kernel_rfl) (fun _ _ _ h => h) (Or.inl ⟨by rfl, ?_⟩) ?_ ?_
              rotate_left
              · intro w'
                go_simp
                with_reducible rfl
              rotate_left
              · simp only [Act.put, List.setIfInBounds_toArray, List.set_cons_zero, List.set_cons_succ, i64_w, i32_w]
                rfl
              refine pure_ (i := 12) (N := some 59) (v := ?_) (a' := ?_) #[true, true, true, true, false, true, true, true, true, true, true, true, true, false, false, false] rfl rfl (by kernel_rfl) (fun _ _ _ h => h) (Or.inl ⟨by rfl, ?_⟩) ?_ ?_
              rotate_left
              · intro w'
                go_simp
                with_reducible rfl
              rotate_left
              · simp only [Act.put, List.setIfInBounds_toArray, List.set_cons_zero, List.set_cons_succ, i64_w, i32_w]
                rfl
              refine take_ (i := 4) (N := some 51) (v := ?_) (a' := ?_) #[true, true, true, true, true, true, true, true, true, true, true, true, true, false, false, false] rfl rfl (by kernel_rfl) (fun _ _ _ h => h) (Or.inl ⟨by rfl, ?_⟩) hHeld ?_ ?_
              rotate_left
              · rintro w' ⟨s0, s1⟩
                go_simp
                with_reducible rfl
              rotate_left
              · simp only [Act.put, List.setIfInBounds_toArray, List.set_cons_zero, List.set_cons_succ, i64_w, i32_w]
                rfl
              refine pure_ (i := 13) (N := some 60) (v := ?_) (a' := ?_) #[true, true, true, true, true, true, true, true, true, true, true, true, true, true, false, false] rfl rfl (by kernel_rfl) (fun _ _ _ h => h) (Or.inl ⟨by rfl, ?_⟩) ?_ ?_
              rotate_left
              · intro w'
                go_simp
                with_reducible rfl
              rotate_left
              · simp only [Act.put, List.setIfInBounds_toArray, List.set_cons_zero, List.set_cons_succ, i64_w, i32_w]
                rfl
              refine pure_ (i := 14) (N := some 61) (v := ?_) (a' := ?_) #[true, true, true, true, true, true, true, true, true, true, true, true, true, true, true, false] rfl rfl (by kernel_rfl) (fun _ _ _ h => h) (Or.inl ⟨by rfl, ?_⟩) ?_ ?_
              rotate_left
              · intro w'
                go_simp
                with_reducible rfl
              rotate_left
              · simp only [Act.put, List.setIfInBounds_toArray, List.set_cons_zero, List.set_cons_succ, i64_w, i32_w]
                rfl
              refine last_ (i := 15) (N := none) #[true, true, true, true, true, true, true, true, true, true, true, true, true, true, true, true] rfl rfl (by kernel_rfl) (by decide) (fun K hK => ?_)
              refine skip_ (w1 := ?_) (by rfl) rfl ?_ ?_
              rotate_left
              · go_simp
                rfl
              refine hK.out _ _ ?_
              clear hK K
              refine done_ (by kernel_rfl) ?_
              go_wp2_with fail
              go_roundw
              case rel => exact ⟨j + 1, by omega, by go_num, ⟨by rw [show wk + (j + 1) = i + 1 by have := HI.out; omega, HS.out, hsl, hor]; exact Kd.R_drew HP.out⟩, ⟨below_drew (below_set HB.out hg)⟩⟩
              case measure => simp [intOf]; omega
            · have : j = wd := by omega
              subst this
              have HWk2 := Aside0.mk (show j * (k + 1) = wk + j by rw [HWk.out, Nat.mul_succ])
              have HF2 := Aside0.mk (show Fits l j (k + 1) by
                intro q hq
                rcases Nat.lt_succ_iff_lt_or_eq.1 hq with h | rfl
                · exact HF.out q h
                · rw [HNK.out]; have := HP.out; omega)
              go_wp2_with fail
              go_roundw
              case rel => exact ⟨k + 1, by omega, by go_num, HF2, ⟨by rw [HWk2.out]; exact HO.out⟩, HB⟩
              case measure => simp [intOf]; omega
    · have : k = m := by omega
      subst this
      have HPk := Aside0.mk (show packed l wd = outAt (bitAt l wd) ln (wd * k) by unfold packed; rw [HLen.out, HT.out, HLn.out])
      go_wp2_with fail
      go_ret2
      exact ⟨_, _, packed l wd, rfl, by rw [HPk.out]; exact HO.out, HB.out, .inl ⟨HF.out, rfl, rfl⟩⟩
end Go.Proofs.YtcgfheagbaafoaaDoor.PackA
