/- Sets: Parse and the document's. -/
import Derived.Test.YtcgfheagbaafoaaDoorIs
namespace Go.Proofs.YtcgfheagbaafoaaDoor.Sets
set_option linter.unusedVariables false
set_option linter.unusedSimpArgs false
open Go.RowKit Go.Proofs.YtcgfheagbaafoaaDoorW.PrintWords Go.Proofs.YtcgfheagbaafoaaDoorW.PrintLast Go.Proofs.YtcgfheagbaafoaaDoorW.PrintMore Go.Proofs.YtcgfheagbaafoaaDoor.Lib Go.Proofs.YtcgfheagbaafoaaDoor.Pack Go.Proofs.YtcgfheagbaafoaaDoor.PackA

/-- the rows that bytes say -/
def bitF (b : List Int) (j : Nat) : Bool := bit b j == 1
def partF (b : List Int) (i : Nat) (j : Nat) : Bool := decide (j < 8 * i) && bitF b j
theorem bitF_test (b : List Int) (i t : Nat) (ht : t < 8) : bitF b (8 * i + t) = (b.getD i 0).toNat.testBit t := by
  unfold bitF bit
  rw [show (8 * i + t) / 8 = i by omega, show (8 * i + t) % 8 = t by omega, Nat.testBit_eq_decide_div_mod_eq]
  rfl
theorem parse_step (b : List Int) (rows i : Nat) (hb : Bytes b) (hl : b.length = long rows) (ht : Tidy b rows) (hi : i < long rows) :
    (wordsF (partF b i) rows).set (i / 8) ((wordF (partF b i) rows (i / 8) ||| (b.getD i 0).toNat * 2 ^ (i % 8 * 8) : Nat) : Int) = wordsF (partF b (i + 1)) rows := by
  have hq : i / 8 < long64 rows := by unfold long at hi; unfold long64; omega
  have hc : (b.getD i 0).toNat < 256 := by have := hb.getD i; omega
  have hz : ∀ t, t < 8 → rows ≤ 8 * i + t → (b.getD i 0).toNat.testBit t = false := fun t h1 h2 => by
    rw [← bitF_test b i t h1]
    unfold bitF
    rw [ht (8 * i + t) h2 (by rw [hl]; omega)]; rfl
  have hbt : ∀ t, t < 8 → bitF b (8 * i + t) = (b.getD i 0).toNat.testBit t := bitF_test b i
  generalize (b.getD i 0).toNat = c at *
  have hc2 : c * 2 ^ (i % 8 * 8) < 2 ^ 64 := by
    have h1 : 2 ^ (i % 8 * 8) ≤ 2 ^ 56 := Nat.pow_le_pow_right (by decide) (by omega)
    calc c * 2 ^ (i % 8 * 8) ≤ 255 * 2 ^ 56 := Nat.mul_le_mul (by omega) h1
      _ < 2 ^ 64 := by decide
  refine wordsF_eq _ _ _ (by rw [List.length_set, wordsF_length]) (fun k hk => ?_)
  rw [getD_set, wordsF_length]
  by_cases hkq : i / 8 = k
  · rw [if_pos ⟨hkq, hk⟩]
    subst hkq
    refine congrArg Nat.cast (ofb_eq _ 64 _ (Nat.or_lt_two_pow (wordF_lt _ _ _) hc2) (fun j hj => ?_))
    rw [Nat.testBit_or, wordF_bit, Nat.testBit_mul_two_pow]
    unfold partF
    by_cases hlo : 64 * (i / 8) + j < 8 * i
    · have h1 : ¬ i % 8 * 8 ≤ j := by omega
      have h2 : 64 * (i / 8) + j < 8 * (i + 1) := by omega
      simp [hj, hlo, h1, h2]
    · by_cases hhi : 64 * (i / 8) + j < 8 * (i + 1)
      · have h1 : i % 8 * 8 ≤ j := by omega
        have h3 : 64 * (i / 8) + j = 8 * i + (j - i % 8 * 8) := by omega
        have h4 : j - i % 8 * 8 < 8 := by omega
        simp only [hj, hlo, hhi, h1, decide_true, decide_false, Bool.true_and, Bool.false_and, Bool.and_false, Bool.false_or]
        by_cases hr : 64 * (i / 8) + j < rows
        · rw [h3, hbt _ h4]
          rw [h3] at hr
          simp [hr]
        · rw [hz _ h4 (by omega)]
          simp [hr]
      · have h5 : 8 ≤ j - i % 8 * 8 := by omega
        have h6 : c.testBit (j - i % 8 * 8) = false := Nat.testBit_lt_two_pow (Nat.lt_of_lt_of_le hc (Nat.pow_le_pow_right (n := 2) (by decide) h5))
        simp [hj, hlo, hhi, h6]
  · rw [if_neg (fun h => hkq h.1), wordsF_get _ _ _ hk]
    refine congrArg Nat.cast (ofb_congr _ (fun j hj => ?_))
    unfold partF
    have : decide (64 * k + j < 8 * i) = decide (64 * k + j < 8 * (i + 1)) := by rw [Bool.eq_iff_iff]; simp; omega
    rw [this]
theorem part_none (b : List Int) : partF b 0 = fun _ => false := by funext j; simp [partF]
theorem part_all (b : List Int) (rows : Nat) : wordsF (partF b (long rows)) rows = wordsF (bitF b) rows :=
  wordsF_congr (fun j hj => by unfold partF; rw [decide_eq_true (by have := long_le rows; omega)]; rfl)
theorem shl_byte (c e : Nat) (hc : c < 256) (he : e ≤ 56) : IntKind.u64.wrap ((c : Int) * 2 ^ e) = ((c * 2 ^ e : Nat) : Int) ∧ c * 2 ^ e < 18446744073709551616 := by
  have h1 : 2 ^ e ≤ 2 ^ 56 := Nat.pow_le_pow_right (by decide) he
  have h2 : c * 2 ^ e ≤ 255 * 2 ^ 56 := Nat.mul_le_mul (by omega) h1
  have e2 : (c : Int) * 2 ^ e = ((c * 2 ^ e : Nat) : Int) := by simp
  rw [e2]
  generalize c * 2 ^ e = z at *
  exact ⟨wraps_u64 _ (by omega) (by omega), by omega⟩

set_option maxRecDepth 100000 in
set_option maxHeartbeats 400000 in
theorem parse_range (b : List Int) (A : Option Addr) (m c : Nat) (n : Int) (w : World) (h : n < 0 ∨ 1048576 < n) :
    Calls Tryd.prog 15 #[.slice A m c, .int .i64 n] w fun e w' => e = .returned (.tuple #[.pointer none, .int .i64 1]) ∧ Below w.heap.size w w' := by
  have H := Aside0.mk (new_no n w h)
  clear h
  go_enter Tryd.func15, Tryd.ntmps15
  go_wp2_with fail
  refine H.out.mono ?_
  rintro e w1 ⟨rfl, rfl⟩
  go_wp2_with fail
  go_ret2
  exact ⟨rfl, Below.refl _ _⟩

set_option maxRecDepth 100000 in
set_option maxHeartbeats 1600000 in
theorem parse_calls (b : List Int) (A : Option Addr) (m c n : Nat) (w : World) (hC : Kd.C (Kd.int .u8) w A m b) (hb : Bytes b) (hn : n ≤ 1048576) (okd : Bool) (hok : okd = true ↔ (m = long n ∧ Tidy b n)) :
    Calls Tryd.prog 15 #[.slice A m c, .int .i64 n] w fun e w' => ∃ p, e = .returned (.tuple #[.pointer p, .int .i64 (if okd then 0 else 12)]) ∧ (if okd then ∃ g, p = some ⟨g, 0, none⟩ ∧ FSet w' w.heap.size g n (bitF b) else p = none) ∧ Below w.heap.size w w' := by
  have HC := Aside0.mk hC
  have HBy := Aside0.mk hb
  have HOk := Aside0.mk hok
  have hmc : m ≤ 9223372036854775807 := by have := hC.2.1; have := hC.1; omega
  have HLb := Aside0.mk (show b.length = m from hC.1)
  clear hC hb hok
  go_enter Tryd.func15, Tryd.ntmps15
  go_wp2_with fail
  refine (new_calls n w hn).mono ?_
  rintro e w1 ⟨g, rfl, hs, hb⟩
  rw [wordsF_none, ← part_none b] at hs
  have HS1 := Aside0.mk (show FSet w1 w.heap.size g n (partF b 0) from hs)
  obtain ⟨v0, hv0, hv0b⟩ : ∃ v0, w1.cell? ⟨g, 1, none⟩ = some v0 ∧ (∀ k, v0.ownBlock = some k → k < w1.heap.size) := by
    obtain ⟨_, _, _, _, v, h5, h6⟩ := hs
    exact ⟨v, by rw [cell_of_row w1 g 1 _ _ _ h5]; rfl, Kd.R_lt h6⟩
  have HV1 := Aside0.mk hv0
  have HV0b := Aside0.mk hv0b
  clear hv0 hv0b
  have HB1 := Aside0.mk hb
  have HC1 := Aside0.mk (Kd.C_below HC.out hb)
  clear hs hb
  go_wp2_with fail
  refine (long_calls n w1 (by omega)).mono ?_
  rintro e w2 ⟨rfl, rfl⟩
  have hlong : long n ≤ 131073 := by unfold long; omega
  by_cases hml : m = long n
  case neg =>
    have hne : ((m : Int) != ((long n : Nat) : Int)) = true := by rw [bne_iff_ne]; omega
    have hok : okd = false := by cases okd; rfl; exact absurd (HOk.out.1 rfl).1 hml
    subst hok
    clear hml
    generalize long n = ln at *
    go_wp2_with fail
    go_ret2
    exact ⟨_, rfl, rfl, HB1.out⟩
  case pos =>
    have hne : ((m : Int) != ((long n : Nat) : Int)) = false := by rw [bne_eq_false_iff_eq, hml]
    have HML := Aside0.mk hml
    clear hml
    generalize hln : long n = ln at *
    have HLn := Aside0.mk hln
    clear hln
    go_wp2_with fail
    refine (clean_calls b A m c n w1 HC1.out HBy.out (by rw [HML.out, HLn.out]) (by omega) okd (by rw [HOk.out]; exact ⟨fun h => h.2, fun h => ⟨HML.out, h⟩⟩)).mono ?_
    rintro e w2 ⟨rfl, rfl⟩
    cases okd
    case false =>
      go_wp2_with fail
      go_ret2
      exact ⟨_, rfl, rfl, HB1.out⟩
    case true =>
      have HTi := Aside0.mk (HOk.out.1 rfl).2
      clear HOk
      go_wp2_with fail
      refine (clone_calls b m A c w1 HC1.out (by rw [HLb.out, HML.out]; omega)).mono ?_
      rintro e w3 ⟨v3, rfl, ho, hb⟩
      obtain ⟨A3, c3, rfl, -, hC3⟩ := Kd.R_reads ho
      rw [HLb.out] at hC3 ho ⊢
      have HC3 := Aside0.mk ho
      have HV3 := Aside0.mk (pw_cell_below hb HV1.out)
      have HB3 := Aside0.mk (below_then HB1.out HB1.out.size hb)
      replace HS1 := Aside0.mk (FSet.below HS1.out hb)
      clear ho hb hC3 HB1 HC1 HC
      have hm1 : m ≤ 131073 := by rw [HML.out]; exact hlong
      go_wp2_with fail
      go_loopw [32] (fun kv w' => ∃ k : Nat, k ≤ m ∧ kv = .int .i64 k ∧ Aside0 (FSet w' w.heap.size g n (partF b k)) ∧ Aside0 (Below w.heap.size w w') ∧ Aside0 (Kd.R (Kd.int .u8) 5 w' w1.heap.size (fun _ => True) (.slice A3 m c3) b) ∧ Aside0 (w'.cell? ⟨g, 1, none⟩ = some v0)) (fun kv _ => m - (intOf kv).toNat)
      case atStart => exact ⟨0, Nat.zero_le _, rfl, HS1, HB3, HC3, HV3⟩
      case round =>
        clear HS1 HB3 HC3
        obtain ⟨k, hk, rfl, HS, HB, HC, HV⟩ := hrel
        by_cases hlt : k < m
        · obtain ⟨gb, rfl, hgb, -⟩ := R_plain HC.out (by omega)
          obtain ⟨hcell, -⟩ := R_at HC.out k hlt
          have hbb := HBy.out.getD k
          have HSt := Aside0.mk (parse_step b n k HBy.out (by rw [HLb.out, HML.out, HLn.out]) HTi.out (by rw [HLn.out, ← HML.out]; exact hlt))
          have hs := HS.out
          obtain ⟨h1, h2, h3, h4, v, h5, h6⟩ := hs
          have hq : k / 8 < (wordsF (partF b k) n).length := by rw [wordsF_length]; have e1 := HLn.out; have e2 := HML.out; unfold long at e1; unfold long64; omega
          obtain ⟨g2, cw, rfl, hg2, hg3, -⟩ := Kd.R_form h6 (by omega)
          obtain ⟨hc1, hf1⟩ := R_at h6 (k / 8) hq
          have k1 : wr.cell? ⟨g, 1, none⟩ = some (.slice (some ⟨g2, 0, none⟩) (wordsF (partF b k) n).length cw) := by rw [cell_of_row wr g 1 _ _ _ h5]; rfl
          have hne : g2 ≠ g := h6.1 g2 rfl
          have HP := Aside0.mk (R_set_at h6 (k / 8) ((wordF (partF b k) n (k / 8) ||| (b.getD k 0).toNat * 2 ^ (k % 8 * 8) : Nat) : Int))
          rw [HSt.out] at HP
          rw [wordsF_get _ _ _ (by rw [wordsF_length] at hq; exact hq)] at hc1
          have hwl := wordF_lt (partF b k) n (k / 8)
          rw [wordsF_length] at k1 hq h5 h6 HP
          have H5 := Aside0.mk h5
          have H12 := Aside0.mk (And.intro h1 h2)
          have HGw : Aside0 (¬ gb = g2) := ⟨by
            have h := HV.out
            rw [k1] at h
            injection h with h
            have h2 := HV0b.out g2 (by rw [← h]; rfl)
            omega⟩
          have HVe : Aside0 (v0 = .slice (some ⟨g2, 0, none⟩) (long64 n) cw) := ⟨by
            have h := HV.out
            rw [k1] at h
            injection h with h
            exact h.symm⟩
          have hn6 : long64 n ≤ 16385 := by unfold long64; omega
          clear HSt h1 h2 h3 h4 h5 h6
          generalize wordF (partF b k) n (k / 8) = x at *
          generalize b.getD k 0 = z at *
          obtain ⟨cn, rfl⟩ := Int.eq_ofNat_of_zero_le hbb.1
          rw [Int.toNat_natCast] at HP
          have hcn : cn < 256 := by omega
          have hsh := shl_byte cn (k % 8 * 8) hcn (by omega)
          have hor := (bits_nat .u64 64 (by decide) wraps_u64 x (cn * 2 ^ (k % 8 * 8)) hwl (by omega)).2
          have hr8 := tmod8_w k
          have hr9 : k % 8 < 8 := Nat.mod_lt _ (by decide)
          have hq8 : (k : Int) / 8 = ((k / 8 : Nat) : Int) := by omega
          have hqi : ((k / 8 : Nat) : Int) < ((long64 n : Nat) : Int) := by omega
          have hcv : IntKind.u64.wrap (cn : Int) = (cn : Int) := wraps_u64 _ (by omega) (by omega)
          obtain ⟨q, hqq⟩ : ∃ q, k / 8 = q := ⟨_, rfl⟩
          obtain ⟨r, hrr⟩ : ∃ r, k % 8 = r := ⟨_, rfl⟩
          rw [hqq] at hq8 hqi hc1 hf1 HP hq
          rw [hrr] at hr8 hr9 hsh hor HP
          have hr88 : (r : Int) * 8 = ((r * 8 : Nat) : Int) := by omega
          have he9 : r * 8 < 64 := by omega
          have hwq : wrap64 (q : Int) = (q : Int) := IntWalk.wrap64_in _ (by omega)
          have hq0 : (0 : Int) ≤ (q : Int) := Int.natCast_nonneg q
          generalize r * 8 = e8 at *
          have hw8 : wrap64 (e8 : Int) = (e8 : Int) := IntWalk.wrap64_in _ (by omega)
          generalize long64 n = nw at *
          have hsh1 := hsh.1
          clear hbb hqq hrr hsh
          generalize hbs : cn * 2 ^ e8 = bs at *
          clear hbs
          go_wp2_with fail
          refine start_ (n := 17) (S := fun w' => w'.cell? ⟨g, 1, none⟩ = some (.slice (some ⟨g2, 0, none⟩) nw cw) ∧ w'.cell? ⟨g2, q, none⟩ = some (.int .u64 x) ∧ w'.frozen? ⟨g2, q, none⟩ = false) (ds := [16]) #[false, false, false, false, false, false, false, false, false, false, false, false, false, false, false, false, false] (by kernel_rfl) rfl rfl ⟨k1, hc1, hf1⟩ (fun hHeld => ?_)
          refine pure_ (i := 0) (N := some 37) (v := ?_) (a' := ?_) #[true, false, false, false, false, false, false, false, false, false, false, false, false, false, false, false, false] rfl rfl (by kernel_rfl) (fun _ _ _ h => h) (Or.inl ⟨by rfl, ?_⟩) ?_ ?_
          rotate_left
          · intro w'
            go_simp
            with_reducible rfl
          rotate_left
          · simp only [Act.put, List.setIfInBounds_toArray, List.set_cons_zero, List.set_cons_succ, i64_w, i32_w]
            rfl
          refine pure_ (i := 1) (N := some 38) (v := ?_) (a' := ?_) #[true, true, false, false, false, false, false, false, false, false, false, false, false, false, false, false, false] rfl rfl (by kernel_rfl) (fun _ _ _ h => h) (Or.inl ⟨by rfl, ?_⟩) ?_ ?_
          rotate_left
          · intro w'
            go_simp
            with_reducible rfl
          rotate_left
          · simp only [Act.put, List.setIfInBounds_toArray, List.set_cons_zero, List.set_cons_succ, i64_w, i32_w]
            rfl
          refine pure_ (i := 2) (N := some 39) (v := ?_) (a' := ?_) #[true, true, true, false, false, false, false, false, false, false, false, false, false, false, false, false, false] rfl rfl (by kernel_rfl) (fun _ _ _ h => h) (Or.inl ⟨by rfl, ?_⟩) ?_ ?_
          rotate_left
          · intro w'
            go_simp
            with_reducible rfl
          rotate_left
          · simp only [Act.put, List.setIfInBounds_toArray, List.set_cons_zero, List.set_cons_succ, i64_w, i32_w]
            rfl
          refine pure_ (i := 4) (N := some 41) (v := ?_) (a' := ?_) #[true, true, true, false, true, false, false, false, false, false, false, false, false, false, false, false, false] rfl rfl (by kernel_rfl) (fun _ _ _ h => h) (Or.inl ⟨by rfl, ?_⟩) ?_ ?_
          rotate_left
          · intro w'
            go_simp
            with_reducible rfl
          rotate_left
          · simp only [Act.put, List.setIfInBounds_toArray, List.set_cons_zero, List.set_cons_succ, i64_w, i32_w]
            rfl
          refine pure_ (i := 5) (N := some 42) (v := ?_) (a' := ?_) #[true, true, true, false, true, true, false, false, false, false, false, false, false, false, false, false, false] rfl rfl (by kernel_rfl) (fun _ _ _ h => h) (Or.inl ⟨by rfl, ?_⟩) ?_ ?_
          rotate_left
          · intro w'
            go_simp
            with_reducible rfl
          rotate_left
          · simp only [Act.put, List.setIfInBounds_toArray, List.set_cons_zero, List.set_cons_succ, i64_w, i32_w]
            rfl
          refine pure_ (i := 8) (N := some 45) (v := ?_) (a' := ?_) #[true, true, true, false, true, true, false, false, true, false, false, false, false, false, false, false, false] rfl rfl (by kernel_rfl) (fun _ _ _ h => h) (Or.inl ⟨by rfl, ?_⟩) ?_ ?_
          rotate_left
          · intro w'
            go_simp
            with_reducible rfl
          rotate_left
          · simp only [Act.put, List.setIfInBounds_toArray, List.set_cons_zero, List.set_cons_succ, i64_w, i32_w]
            rfl
          refine pure_ (i := 9) (N := some 46) (v := ?_) (a' := ?_) #[true, true, true, false, true, true, false, false, true, true, false, false, false, false, false, false, false] rfl rfl (by kernel_rfl) (fun _ _ _ h => h) (Or.inl ⟨by rfl, ?_⟩) ?_ ?_
          rotate_left
          · intro w'
            go_simp
            with_reducible rfl
          rotate_left
          · simp only [Act.put, List.setIfInBounds_toArray, List.set_cons_zero, List.set_cons_succ, i64_w, i32_w]
            rfl
          refine pure_ (i := 10) (N := some 47) (v := ?_) (a' := ?_) #[true, true, true, false, true, true, false, false, true, true, true, false, false, false, false, false, false] rfl rfl (by kernel_rfl) (fun _ _ _ h => h) (Or.inl ⟨by rfl, ?_⟩) ?_ ?_
          rotate_left
          · intro w'
            go_simp
            with_reducible rfl
          rotate_left
          · simp only [Act.put, List.setIfInBounds_toArray, List.set_cons_zero, List.set_cons_succ, i64_w, i32_w]
            rfl
          refine pure_ (i := 11) (N := some 48) (v := ?_) (a' := ?_) #[true, true, true, false, true, true, false, false, true, true, true, true, false, false, false, false, false] rfl rfl (by kernel_rfl) (fun _ _ _ h => h) (Or.inl ⟨by rfl, ?_⟩) ?_ ?_
          rotate_left
          · intro w'
            go_simp
            with_reducible rfl
          rotate_left
          · simp only [Act.put, List.setIfInBounds_toArray, List.set_cons_zero, List.set_cons_succ, i64_w, i32_w]
            rfl
          refine pure_ (i := 12) (N := some 49) (v := ?_) (a' := ?_) #[true, true, true, false, true, true, false, false, true, true, true, true, true, false, false, false, false] rfl rfl (by kernel_rfl) (fun _ _ _ h => h) (Or.inl ⟨by rfl, ?_⟩) ?_ ?_
          rotate_left
          · intro w'
            go_simp
            with_reducible rfl
          rotate_left
          · simp only [Act.put, List.setIfInBounds_toArray, List.set_cons_zero, List.set_cons_succ, i64_w, i32_w]
            rfl
          refine pure_ (i := 13) (N := some 50) (v := ?_) (a' := ?_) #[true, true, true, false, true, true, false, false, true, true, true, true, true, true, false, false, false] rfl rfl (by kernel_rfl) (fun _ _ _ h => h) (Or.inl ⟨by rfl, ?_⟩) ?_ ?_
          rotate_left
          · intro w'
            go_simp
            with_reducible rfl
          rotate_left
          · simp only [Act.put, List.setIfInBounds_toArray, List.set_cons_zero, List.set_cons_succ, i64_w, i32_w]
            rfl
          refine take_ (i := 3) (N := some 40) (v := ?_) (a' := ?_) #[true, true, true, true, true, true, false, false, true, true, true, true, true, true, false, false, false] rfl rfl (by kernel_rfl) (fun _ _ _ h => h) (Or.inl ⟨by rfl, ?_⟩) hHeld ?_ ?_
          rotate_left
          · rintro w' ⟨s0, s1, s2⟩
            go_simp
            with_reducible rfl
          rotate_left
          · simp only [Act.put, List.setIfInBounds_toArray, List.set_cons_zero, List.set_cons_succ, i64_w, i32_w]
            rfl
          refine pure_ (i := 6) (N := some 43) (v := ?_) (a' := ?_) #[true, true, true, true, true, true, true, false, true, true, true, true, true, true, false, false, false] rfl rfl (by kernel_rfl) (fun _ _ _ h => h) (Or.inl ⟨by rfl, ?_⟩) ?_ ?_
          rotate_left
          · intro w'
            go_simp
            with_reducible rfl
          rotate_left
          · simp only [Act.put, List.setIfInBounds_toArray, List.set_cons_zero, List.set_cons_succ, i64_w, i32_w]
            rfl
          refine take_ (i := 7) (N := some 44) (v := ?_) (a' := ?_) #[true, true, true, true, true, true, true, true, true, true, true, true, true, true, false, false, false] rfl rfl (by kernel_rfl) (fun _ _ _ h => h) (Or.inl ⟨by rfl, ?_⟩) hHeld ?_ ?_
          rotate_left
          · rintro w' ⟨s0, s1, s2⟩
            go_simp
            with_reducible rfl
          rotate_left
          · simp only [Act.put, List.setIfInBounds_toArray, List.set_cons_zero, List.set_cons_succ, i64_w, i32_w]
            rfl
          refine pure_ (i := 14) (N := some 51) (v := ?_) (a' := ?_) #[true, true, true, true, true, true, true, true, true, true, true, true, true, true, true, false, false] rfl rfl (by kernel_rfl) (fun _ _ _ h => h) (Or.inl ⟨by rfl, ?_⟩) ?_ ?_
          rotate_left
          · intro w'
            go_simp
            with_reducible rfl
          rotate_left
          · simp only [Act.put, List.setIfInBounds_toArray, List.set_cons_zero, List.set_cons_succ, i64_w, i32_w]
            rfl
          refine pure_ (i := 15) (N := some 52) (v := ?_) (a' := ?_) #[true, true, true, true, true, true, true, true, true, true, true, true, true, true, true, true, false] rfl rfl (by kernel_rfl) (fun _ _ _ h => h) (Or.inl ⟨by rfl, ?_⟩) ?_ ?_
          rotate_left
          · intro w'
            go_simp
            with_reducible rfl
          rotate_left
          · simp only [Act.put, List.setIfInBounds_toArray, List.set_cons_zero, List.set_cons_succ, i64_w, i32_w]
            rfl
          refine last_ (i := 16) (N := none) #[true, true, true, true, true, true, true, true, true, true, true, true, true, true, true, true, true] rfl rfl (by kernel_rfl) (by decide) (fun K hK => ?_)
          refine skip_ (w1 := ?_) (by rfl) rfl ?_ ?_
          rotate_left
          · go_simp
            rfl
          refine hK.out _ _ ?_
          clear hK K
          refine done_ (by kernel_rfl) ?_
          go_wp2_with fail
          go_roundw
          case rel =>
            have hblk := blk_drew (blk_far H5.out (fun e => hne e.symm) (.int .u64 ((x ||| bs : Nat) : Int)) (p := ⟨g2, q, none⟩))
            refine ⟨k + 1, by omega, by go_num, ⟨?_⟩, ⟨below_drew (below_set HB.out hg2)⟩, ⟨Kd.R_drew (Kd.R_of_own (own_setCell (Kd.own_of_R HC.out) (fun e => HGw.out (by injection e with e; exact e.symm)) _) HC.out.1)⟩, ⟨?_⟩⟩
            · exact ⟨H12.out.1, H12.out.2, wordsF_length _ _, wordsF_words _ _, _, hblk, Kd.R_drew HP.out⟩
            · rw [cell_of_row _ g 1 _ _ _ hblk, HVe.out]; rfl
          case measure => simp [intOf]; omega
        · obtain rfl : k = m := by omega
          have HE := Aside0.mk (part_all b n)
          rw [HLn.out, ← HML.out] at HE
          go_wp2_with fail
          go_ret2
          exact ⟨_, rfl, ⟨g, rfl, by have h := HS.out; unfold FSet at h ⊢; rw [← HE.out]; exact h⟩, HB.out⟩

set_option maxRecDepth 100000 in
set_option maxHeartbeats 1600000 in
theorem refparse_calls (b : List Int) (A : Option Addr) (m c tot : Nat) (w : World) (hC : Kd.C (Kd.int .u8) w A m b) (hb : Bytes b) (hn : tot ≤ 1048576) (okd : Bool) (hok : okd = true ↔ (m = long tot ∧ Tidy b tot)) :
    Calls Tryd.prog 16 #[.slice A m c, .int .i64 tot] w fun e w' => ∃ v, e = .returned (.tuple #[v, .int .i64 (if okd then 0 else 12)]) ∧ Kd.bool.R 4 w' w.heap.size (fun _ => True) v (if okd then boolsF (bitF b) tot else []) ∧ Below w.heap.size w w' := by
  have HC := Aside0.mk hC
  have HBy := Aside0.mk hb
  have HOk := Aside0.mk hok
  have hmc : m ≤ 9223372036854775807 := by have := hC.2.1; have := hC.1; omega
  clear hC hb hok
  go_enter Tryd.func16, Tryd.ntmps16
  go_wp2_with fail
  refine (reflong_calls tot w (by omega)).mono ?_
  rintro e w1 ⟨rfl, rfl⟩
  have hlong : long tot ≤ 131073 := by unfold long; omega
  by_cases hml : m = long tot
  case neg =>
    have hne : ((m : Int) != ((long tot : Nat) : Int)) = true := by rw [bne_iff_ne]; omega
    have hok : okd = false := by cases okd; rfl; exact absurd (HOk.out.1 rfl).1 hml
    subst hok
    clear hml
    generalize long tot = ln at *
    go_wp2_with fail
    go_ret2
    exact ⟨_, rfl, Kd.R_nil _ _ _ _ _, Below.refl _ _⟩
  case pos =>
    have hne : ((m : Int) != ((long tot : Nat) : Int)) = false := by rw [bne_eq_false_iff_eq, hml]
    have HML := Aside0.mk hml
    clear hml
    generalize hln : long tot = ln at *
    have HLn := Aside0.mk hln
    clear hln
    have htm : tot ≤ 8 * m := by rw [HML.out, ← HLn.out]; exact long_le _
    have hm2 : m ≤ 131073 := by rw [HML.out]; exact hlong
    have HLb := Aside0.mk (show b.length = m from HC.out.1)
    go_wp2_with fail
    go_loop [6] (fun iv => ∃ i : Nat, tot ≤ i ∧ i ≤ 8 * m ∧ iv = .int .i64 i ∧ Aside0 (∀ q, tot ≤ q → q < i → bit b q = 0)) (fun iv => 8 * m - (intOf iv).toNat)
    case atStart => exact ⟨tot, Nat.le_refl _, htm, rfl, ⟨fun q h1 h2 => by omega⟩⟩
    case round =>
      obtain ⟨i, hi1, hi2, rfl, HZ⟩ := hrel
      by_cases hlt : i < 8 * m
      · go_wp2_with fail
        refine (refbit_calls b A m c i w HC.out HBy.out hlt (by omega)).mono ?_
        rintro e w1 ⟨rfl, rfl⟩
        by_cases hb0 : bit b i = 0
        · have hne2 : (((bit b i : Nat) : Int) != 0) = false := by rw [hb0]; rfl
          have HZ2 := Aside0.mk (show ∀ q, tot ≤ q → q < i + 1 → bit b q = 0 by
            intro q h1 h2
            rcases Nat.lt_succ_iff_lt_or_eq.1 h2 with h | rfl
            · exact HZ.out q h1 h
            · exact hb0)
          clear hb0 HZ
          generalize bit b i = bv at *
          go_wp2_with fail
          go_round
          case rel => exact ⟨i + 1, by omega, by omega, by go_num, HZ2⟩
          case measure => simp [intOf]; omega
        · have hne2 : (((bit b i : Nat) : Int) != 0) = true := by rw [bne_iff_ne]; omega
          have hok : okd = false := by cases okd; rfl; exact absurd ((HOk.out.1 rfl).2 i hi1 (by rw [HLb.out]; exact hlt)) hb0
          subst hok
          clear hb0
          generalize bit b i = bv at *
          go_wp2_with fail
          go_ret2
          exact ⟨_, rfl, Kd.R_nil _ _ _ _ _, Below.refl _ _⟩
      · have : i = 8 * m := by omega
        subst this
        have hok : okd = true := HOk.out.2 ⟨HML.out, fun q h1 h2 => HZ.out q h1 (by rw [HLb.out] at h2; exact h2)⟩
        subst hok
        clear HZ HOk
        go_wp2_with fail
        go_loopw [7, 8] (fun ov kv w' => ∃ k : Nat, k ≤ tot ∧ kv = .int .i64 k ∧ Aside0 (Kd.bool.R 4 w' w.heap.size (fun _ => True) ov (boolsF (bitF b) k)) ∧ Aside0 (Below w.heap.size w w')) (fun _ kv _ => tot - (intOf kv).toNat)
        case atStart => exact ⟨0, Nat.zero_le _, rfl, ⟨Kd.R_nil _ _ _ _ _⟩, ⟨Below.refl _ _⟩⟩
        case round =>
          obtain ⟨k, hk, rfl, HO, HB⟩ := hrel
          by_cases hkt : k < tot
          · have HS := Aside0.mk (show boolsF (bitF b) (k + 1) = boolsF (bitF b) k ++ [bitF b k] by simp [boolsF, List.range_succ])
            have HCb := Aside0.mk (refbit_calls b A m c k wr (Kd.C_below HC.out HB.out) HBy.out (by omega) (by omega))
            have HBt := Aside0.mk (show (((bit b k : Nat) : Int) == 1) = bitF b k by unfold bitF; rw [Bool.eq_iff_iff, beq_iff_eq, beq_iff_eq]; omega)
            have HLk := Aside0.mk (boolsF_length (bitF b) k)
            generalize bit b k = bv at *
            generalize bitF b k = fb at *
            have hbt := HBt.out
            go_wp2_with fail
            refine HCb.out.mono ?_
            rintro e w2 ⟨rfl, rfl⟩
            go_wp2_with (first
              | ((with_reducible refine gate_builtin (b := .append) (xs := #[.tmp 37, .tmp 42]) rfl ?_); at_builtin; refine Kd.R_append Kd.bool (w0 := w) w.heap.size rfl (.tmp 37) (.tmp 42) 26 4 (.bool false) 1 rfl Tryd.underlying26 infob rfl (by decide) (by omega) (_) (boolsF (bitF b) k) (fb) [.bool (fb)] (fun _ => True) (fun _ => False) rfl rfl rfl (fun _ hk => hk.elim) (fun _ _ => trivial) HO.out HB.out HB.out.size (by have := HLk.out; omega) ?_; intro v2 w2 ho2 hb2 hg2 ha2; have HO2 := Aside0.mk ho2; have HB2 := Aside0.mk hb2; clear ho2 hb2 hg2 ha2)
              | fail)
            go_roundw
            case rel => exact ⟨k + 1, by omega, by go_num, ⟨by rw [HS.out]; exact HO2.out⟩, HB2⟩
            case measure => simp [intOf]; omega
          · obtain rfl : k = tot := by omega
            go_wp2_with fail
            go_ret2
            exact ⟨_, rfl, HO.out, HB.out⟩
set_option maxRecDepth 100000 in
set_option maxHeartbeats 400000 in
theorem refparse_range (A : Option Addr) (m c : Nat) (n : Int) (w : World) (h : n < 0 ∨ 1048576 < n) :
    Calls Tryd.prog 16 #[.slice A m c, .int .i64 n] w fun e w' => e = .returned (.tuple #[.slice none 0 0, .int .i64 1]) ∧ w = w' := by
  by_cases h0 : n < 0
  · clear h
    go_enter Tryd.func16, Tryd.ntmps16
    go_wp2
    go_ret2
    exact ⟨rfl, rfl⟩
  · have h1 : 1048576 < n := by omega
    clear h
    go_enter Tryd.func16, Tryd.ntmps16
    go_wp2
    go_ret2
    exact ⟨rfl, rfl⟩
end Go.Proofs.YtcgfheagbaafoaaDoor.Sets
