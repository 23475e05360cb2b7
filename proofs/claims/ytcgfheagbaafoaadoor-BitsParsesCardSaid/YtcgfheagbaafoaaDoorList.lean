/- A set's rows one by one: TrailingZeros64, List, Has, Rows. -/
import Derived.Test.YtcgfheagbaafoaaDoorNone
import Derived.Test.YtcgfheagbaafoaaDoorTz
namespace Go.Proofs.YtcgfheagbaafoaaDoor.Sets
set_option linter.unusedVariables false
set_option linter.unusedSimpArgs false
open Go.RowKit Go.Proofs.YtcgfheagbaafoaaDoorW.PrintWords Go.Proofs.YtcgfheagbaafoaaDoorW.PrintLast Go.Proofs.YtcgfheagbaafoaaDoorW.PrintMore Go.Proofs.YtcgfheagbaafoaaDoor.Lib Go.Proofs.YtcgfheagbaafoaaDoor.Pack Go.Proofs.YtcgfheagbaafoaaDoor.PackA

/-- The table lies in its variable. -/
def Tab (w : World) : Prop := TabAt 0 Go.Lib.deBruijn64tab w ∧ 0 < w.heap.size
theorem Tab.below {w w' : World} (h : Tab w) (hb : Below w.heap.size w w') : Tab w' := ⟨fun j hj => pw_cell_below hb (h.1 j hj), Nat.lt_of_lt_of_le h.2 hb.size⟩

theorem tz_calls (x : Nat) (w : World) (hx : x < 18446744073709551616) (hT : Tab w) :
    Calls Tryd.prog 32 #[.int .u64 x] w fun e w' => e = .returned (.int .i64 (Go.Lib.ctz 64 x : Nat)) ∧ w = w' :=
  (Any7.bits_TrailingZeros64 Tryd.lays29 x hx w (fun _ => hT.1)).mono fun e w' h => ⟨h.1, h.2.symm⟩

/-! ### the lowest bit -/
theorem ctz_split (x : Nat) (hx0 : x ≠ 0) (hx : x < 18446744073709551616) : ∃ m, x = 2 ^ Go.Lib.ctz 64 x * (2 * m + 1) ∧ Go.Lib.ctz 64 x < 64 := by
  have e : Go.Lib.ctz 64 x = Go.Lib.ctzFrom 64 x := by unfold Go.Lib.ctz; rw [if_neg hx0]
  rw [e]
  exact Go.Lib.ctzFrom_spec 64 x (by omega) (by omega)
theorem low_bits (k m j : Nat) : (2 ^ k * (2 * m + 1)).testBit j = (decide (k ≤ j) && (2 * m + 1).testBit (j - k)) := by
  rw [Nat.mul_comm, Nat.testBit_mul_two_pow]
theorem down_bits (k m j : Nat) : ((2 ^ k * (2 * m + 1)) &&& (2 ^ k * (2 * m + 1) - 1)).testBit j = ((2 ^ k * (2 * m + 1)).testBit j && !decide (j = k)) := by
  have hp : 0 < 2 ^ k := Nat.pow_pos (by decide)
  have e : 2 ^ k * (2 * m + 1) - 1 = 2 ^ k * (2 * m) + (2 ^ k - 1) := by rw [Nat.mul_add, Nat.mul_one]; omega
  rw [Nat.testBit_and, e, low_bits]
  rcases Nat.lt_trichotomy j k with h | rfl | h
  · simp [show ¬ k ≤ j by omega]
  · have h2 : (2 ^ j * (2 * m) + (2 ^ j - 1)).testBit j = false := by
      rw [Nat.testBit_two_pow_mul_add _ (by omega), if_neg (by omega), Nat.sub_self, Nat.testBit_zero]
      simp
    rw [h2]; simp
  · have h2 : (2 ^ k * (2 * m) + (2 ^ k - 1)).testBit j = (2 * m).testBit (j - k) := by
      rw [Nat.testBit_two_pow_mul_add _ (by omega), if_neg (by omega)]
    obtain ⟨d, hd⟩ : ∃ d, j - k = d + 1 := ⟨j - k - 1, by omega⟩
    rw [h2, hd, Nat.testBit_succ, Nat.testBit_succ, show (2 * m + 1) / 2 = m by omega, show 2 * m / 2 = m by omega]
    simp [show k ≤ j by omega, show ¬ j = k by omega]
/-- the rows of a word's bits, from a bit on -/
def ones (i x : Nat) : List Int := ((List.range 64).filter (fun j => x.testBit j)).map fun j => ((64 * i + j : Nat) : Int)
theorem filter_from (f : Nat → Bool) (n k : Nat) (hk : k < n) (h1 : ∀ j, j < k → f j = false) (h2 : f k = true) : (List.range n).filter f = k :: (List.range n).filter (fun j => f j && !decide (j = k)) := by
  induction n with
  | zero => omega
  | succ n ih =>
    rw [List.range_succ, List.filter_append, List.filter_append]
    by_cases hkn : k = n
    · subst hkn
      have e1 : (List.range k).filter f = [] := by
        rw [List.filter_eq_nil_iff]; intro j hj; rw [h1 j (List.mem_range.1 hj)]; simp
      have e2 : (List.range k).filter (fun j => f j && !decide (j = k)) = [] := by
        rw [List.filter_eq_nil_iff]; intro j hj; rw [h1 j (List.mem_range.1 hj)]; simp
      rw [e1, e2]; simp [h2]
    · rw [ih (by omega)]
      have : n ≠ k := fun h => hkn h.symm
      simp [List.filter_cons, this]
theorem ones_step (i x : Nat) (hx0 : x ≠ 0) (hx : x < 18446744073709551616) : ones i x = ((64 * i + Go.Lib.ctz 64 x : Nat) : Int) :: ones i (x &&& (x - 1)) := by
  obtain ⟨m, hm, hk⟩ := ctz_split x hx0 hx
  generalize Go.Lib.ctz 64 x = k at *
  subst hm
  unfold ones
  rw [filter_from _ 64 k hk (fun j hj => by rw [low_bits]; simp [show ¬ k ≤ j by omega]) (by rw [low_bits]; simp)]
  rw [List.map_cons]
  congr 2
  exact List.filter_congr (fun j _ => by rw [down_bits])
theorem ones_zero (i : Nat) : ones i 0 = [] := by
  unfold ones
  have : (List.range 64).filter (fun j => (0 : Nat).testBit j) = [] := by
    rw [List.filter_eq_nil_iff]; intro j _; simp
  rw [this]; rfl
theorem down_lt (x : Nat) (hx0 : x ≠ 0) : x &&& (x - 1) < x := Nat.lt_of_le_of_lt Nat.and_le_right (by omega)
/-- the rows that are in, rising -/
def listF (f : Nat → Bool) (n : Nat) : List Int := ((List.range n).filter f).map fun j => ((j : Nat) : Int)
theorem listF_succ (f : Nat → Bool) (n : Nat) : listF f (n + 1) = listF f n ++ if f n then [((n : Nat) : Int)] else [] := by
  unfold listF
  rw [List.range_succ, List.filter_append, List.map_append]
  cases h : f n <;> simp [h]
theorem listF_congr {f g : Nat → Bool} {n : Nat} (h : ∀ i, i < n → f i = g i) : listF f n = listF g n := by
  unfold listF
  rw [List.filter_congr (fun i hi => h i (List.mem_range.1 hi))]
theorem listF_length (f : Nat → Bool) : ∀ n, (listF f n).length = cnt f n
  | 0 => rfl
  | n + 1 => by rw [listF_succ, List.length_append, listF_length f n, cnt]; cases f n <;> simp
theorem listF_add (f : Nat → Bool) (a : Nat) : ∀ b, listF f (a + b) = listF f a ++ ((List.range b).filter (fun j => f (a + j))).map fun j => ((a + j : Nat) : Int)
  | 0 => by simp
  | b + 1 => by
    rw [← Nat.add_assoc, listF_succ, listF_add f a b, List.range_succ, List.filter_append, List.map_append, List.append_assoc]
    congr 2
    cases h : f (a + b) <;> simp [h]
/-- the rows of the first so many words -/
def rowsOf (f : Nat → Bool) (rows k : Nat) : List Int := listF (fun i => decide (i < rows) && f i) (64 * k)
theorem rowsOf_succ (f : Nat → Bool) (rows k : Nat) : rowsOf f rows (k + 1) = rowsOf f rows k ++ ones k (wordF f rows k) := by
  unfold rowsOf ones
  rw [Nat.mul_succ, listF_add]
  congr 2
  exact List.filter_congr (fun j hj => by rw [wordF_bit]; simp [List.mem_range.1 hj])
theorem rowsOf_all (f : Nat → Bool) (rows : Nat) : rowsOf f rows (long64 rows) = listF f rows := by
  unfold rowsOf
  obtain ⟨d, hd⟩ : ∃ d, 64 * long64 rows = rows + d := ⟨64 * long64 rows - rows, by unfold long64; omega⟩
  rw [hd, listF_add]
  have e : (List.range d).filter (fun j => decide (rows + j < rows) && f (rows + j)) = [] := by
    rw [List.filter_eq_nil_iff]; intro j _
    rw [decide_eq_false (by omega)]; simp
  rw [e, listF_congr (g := f) (fun i hi => by simp [hi])]
  simp
theorem rowsOf_len (f : Nat → Bool) (rows k : Nat) (h : k ≤ long64 rows) : (rowsOf f rows k).length ≤ 64 * k := by
  unfold rowsOf; rw [listF_length]; exact cnt_le _ _
theorem ones_len (i x : Nat) : (ones i x).length ≤ 64 := by
  unfold ones; rw [List.length_map]; exact Nat.le_trans (List.length_filter_le _ _) (by simp)
theorem and_u64 (x : Nat) (hx0 : x ≠ 0) (hx : x < 18446744073709551616) : bits .and .u64 (x : Int) ((x : Int) - 1) = ((x &&& (x - 1) : Nat) : Int) := by
  rw [show (x : Int) - 1 = ((x - 1 : Nat) : Int) by omega, and64 _ _ hx (by omega)]
theorem add64_tz (k t : Nat) (hk : k ≤ 16385) (ht : t < 64) : wrap64 (wrap64 (64 * (k : Int)) + (t : Int)) = ((64 * k + t : Nat) : Int) := by
  have e : wrap64 (64 * (k : Int)) = 64 * (k : Int) := IntWalk.wrap64_in _ (by omega)
  rw [e, IntWalk.wrap64_in _ (by omega)]; omega

set_option maxRecDepth 100000 in
set_option maxHeartbeats 1600000 in
theorem list_calls (w : World) (base g rows : Nat) (f : Nat → Bool) (hs : FSet w base g rows f) (hT : Tab w) :
    Calls Tryd.prog 13 #[.pointer (some ⟨g, 0, none⟩)] w fun e w' => ∃ v, e = .returned v ∧ Kd.R (Kd.int .i64) 3 w' w.heap.size (fun _ => True) v (listF f rows) ∧ Below w.heap.size w w' := by
  have HS := Aside0.mk hs
  have HT := Aside0.mk hT
  have hrow := hs.2.1
  obtain ⟨n, hn⟩ : ∃ n, long64 rows = n := ⟨_, rfl⟩
  have HN := Aside0.mk hn
  have hn6 : n ≤ 16385 := by rw [← hn]; unfold long64; omega
  have hcl := cnt_le f rows
  clear hs hT hn
  obtain ⟨A, c, -, c1, hC, -⟩ := SetAt.cells HS.out
  rw [wordsF_length, HN.out] at c1 hC
  have HC := Aside0.mk hC
  have HK := Aside0.mk (countf_calls w base g rows f _ rfl HS.out)
  generalize cnt f rows = kc at *
  clear hC
  go_enter Tryd.func13, Tryd.ntmps13
  go_wp2_with fail
  refine HK.out.mono ?_
  rintro e w1 ⟨rfl, rfl⟩
  have hmk := make0_run1 (P := Tryd.prog) 22 3 (.int .i64 0) 8 Tryd.underlying22 info3s rfl kc (by omega) (by omega)
  have HO : Aside0 (Kd.R (Kd.int .i64) 3 (w.alloc (.cells (madeCells #[.int .i64 0] kc) 3)) w.heap.size (fun _ => True) (.slice (some ⟨w.heap.size, 0, none⟩) 0 kc) []) := ⟨make0_R1 w w.heap.size 3 (.int .i64 0) rfl kc (Nat.le_refl _) (by omega)⟩
  have HB : Aside0 (Below w.heap.size w (w.alloc (.cells (madeCells #[.int .i64 0] kc) 3))) := ⟨(Below.refl _ _).alloc (Nat.le_refl _) _⟩
  have c16 := pw_cell_below HB.out c1
  go_wp2_with fail
  clear c16 hmk
  go_loopw [3, 16] (fun ov kv w' => ∃ k : Nat, k ≤ n ∧ kv = .int .i64 k ∧ Aside0 (Kd.R (Kd.int .i64) 3 w' w.heap.size (fun _ => True) ov (rowsOf f rows k)) ∧ Aside0 (Below w.heap.size w w')) (fun _ kv _ => n - (intOf kv).toNat)
  case atStart => exact ⟨0, Nat.zero_le _, rfl, HO, HB⟩
  case round =>
    obtain ⟨k, hk, rfl, HO, HB⟩ := hrel
    by_cases hlt : k < n
    · obtain ⟨ad, e, hcell⟩ := Kd.at_int (Kd.C_below HC.out HB.out) k (by omega) (by omega)
      subst e
      rw [Int.toNat_natCast, rd_nat, wordsF_get f rows k (by rw [HN.out]; exact hlt)] at hcell
      have HW := Aside0.mk (rowsOf_succ f rows k)
      have hwl := wordF_lt f rows k
      generalize wordF f rows k = x at *
      obtain ⟨wo, rfl⟩ : ∃ wo : World, wo = wr := ⟨_, rfl⟩
      have hcell2 : wo.cell? (ad.add k) = some (.int .u64 x) := hcell
      clear hcell
      go_wp2_with fail
      go_loopw [3, 5] (fun ov yv w' => ∃ (y : Nat) (out : List Int), y < 18446744073709551616 ∧ yv = .int .u64 y ∧ Aside0 (Kd.R (Kd.int .i64) 3 w' w.heap.size (fun _ => True) ov out) ∧ Aside0 (out ++ ones k y = rowsOf f rows (k + 1)) ∧ Aside0 (Below w.heap.size w w')) (fun _ yv _ => (intOf yv).toNat)
      case atStart => exact ⟨x, _, hwl, rfl, HO, ⟨HW.out.symm⟩, HB⟩
      case round =>
        obtain ⟨y, out, hy, rfl, HO2, HE, HB2⟩ := hrel
        by_cases hy0 : y = 0
        · subst hy0
          have HE2 := Aside0.mk (show out = rowsOf f rows (k + 1) by rw [← HE.out, ones_zero, List.append_nil])
          go_wp2_with fail
          go_roundw
          case rel => exact ⟨k + 1, by omega, by go_num, ⟨by rw [← HE2.out]; exact HO2.out⟩, HB2⟩
          case measure => simp [intOf]; omega
        · have HSt := Aside0.mk (ones_step k y hy0 hy)
          have HTz := Aside0.mk (tz_calls y wr hy (HT.out.below HB2.out))
          obtain ⟨m, HM, hk64⟩ := ctz_split y hy0 hy
          have hdl := down_lt y hy0
          have HAn := Aside0.mk (and_u64 y hy0 hy)
          have hlen : out.length ≤ 1048640 := by
            have h1 := congrArg List.length HE.out
            rw [List.length_append] at h1
            have h2 := rowsOf_len f rows (k + 1) (by rw [HN.out]; omega)
            omega
          have hy1 : ((y : Int) != 0) = true := by rw [bne_iff_ne]; omega
          clear HM
          generalize Go.Lib.ctz 64 y = tz at *
          have hadd := add64_tz k tz (by omega) hk64
          obtain ⟨d, hd⟩ : ∃ d, (y &&& (y - 1)) = d := ⟨_, rfl⟩
          rw [hd] at HSt hdl HAn
          clear hd m hy0
          go_wp2_with fail
          refine HTz.out.mono ?_
          rintro e w3 ⟨rfl, rfl⟩
          clear hadd
          go_wp2_with (first
            | ((with_reducible refine gate_builtin (b := .append) (xs := #[.tmp 27, .tmp 33]) rfl ?_); at_builtin; refine Kd.R_append (Kd.int .i64) (w0 := w) w.heap.size rfl (.tmp 27) (.tmp 33) 22 3 (.int .i64 0) 8 rfl Tryd.underlying22 info3s rfl (by decide) (by omega) (_) (out) ((64 * (k : Int) + (tz : Int))) [.int .i64 ((64 * (k : Int) + (tz : Int)))] (fun _ => True) (fun _ => False) rfl rfl rfl (fun _ hk => hk.elim) (fun _ _ => trivial) HO2.out HB2.out HB2.out.size (by omega) ?_; intro v2 w2 ho2 hb2 hg2 ha2; have HO2 := Aside0.mk ho2; have HB2 := Aside0.mk hb2; clear ho2 hb2 hg2 ha2)
            | fail)
          go_roundw
          case rel => exact ⟨d, _, by omega, by rw [← HAn.out], HO2, ⟨by rw [← HE.out, HSt.out]; simp⟩, HB2⟩
          case measure => have hq := HAn.out; simp [intOf]; omega
    · obtain rfl : k = n := by omega
      have HE := Aside0.mk (show rowsOf f rows k = listF f rows by rw [← HN.out, rowsOf_all])
      go_wp2_with fail
      go_ret
      exact ⟨_, rfl, by rw [← HE.out]; exact HO.out, HB.out⟩

/-! ### Has, Rows -/
theorem word_test (f : Nat → Bool) (rows r : Nat) (hr : r < rows) : ((wordF f rows (r / 64) / 2 ^ (r % 64) % 2 : Nat) == 1) = f r := by
  have h := wordF_bit f rows (r / 64) (r % 64)
  rw [Nat.div_add_mod r 64] at h
  have h64 : r % 64 < 64 := Nat.mod_lt _ (by decide)
  simp only [hr, h64, decide_true, Bool.true_and] at h
  rw [← h, Nat.testBit_eq_decide_div_mod_eq]
  rfl
theorem test64 (x s : Nat) (hx : x < 18446744073709551616) : (bits .and .u64 ((x : Int) / 2 ^ s) 1 == 1) = (x / 2 ^ s % 2 == 1) := by
  have e1 : (x : Int) / 2 ^ s = ((x / 2 ^ s : Nat) : Int) := by simp
  have hz : x / 2 ^ s < 18446744073709551616 := Nat.lt_of_le_of_lt (Nat.div_le_self _ _) hx
  rw [e1]
  generalize x / 2 ^ s = z at *
  have h := and64 z 1 hz (by decide)
  have h2 : ((1 : Nat) : Int) = 1 := rfl
  rw [h2] at h
  rw [h, Nat.and_one_is_mod, Bool.eq_iff_iff, beq_iff_eq, beq_iff_eq]
  omega
set_option maxRecDepth 100000 in
set_option maxHeartbeats 400000 in
theorem has_out (w : World) (base g rows : Nat) (f : Nat → Bool) (row : Int) (hs : FSet w base g rows f) (h : row < 0 ∨ (rows : Int) ≤ row) :
    Calls Tryd.prog 14 #[.pointer (some ⟨g, 0, none⟩), .int .i64 row] w fun e w' => e = .returned (.bool false) ∧ w = w' := by
  obtain ⟨A, c, c0, -, -, -⟩ := SetAt.cells hs
  by_cases h0 : row < 0
  · clear h hs
    go_enter Tryd.func14, Tryd.ntmps14
    go_wp2_with fail
    go_ret
    exact ⟨rfl, rfl⟩
  · have h1 : (rows : Int) ≤ row := by omega
    clear h hs
    go_enter Tryd.func14, Tryd.ntmps14
    go_wp2_with fail
    go_ret
    exact ⟨rfl, rfl⟩
set_option maxRecDepth 100000 in
set_option maxHeartbeats 400000 in
theorem has_calls (w : World) (base g rows : Nat) (f : Nat → Bool) (r : Nat) (hs : FSet w base g rows f) (hr : r < rows) :
    Calls Tryd.prog 14 #[.pointer (some ⟨g, 0, none⟩), .int .i64 r] w fun e w' => e = .returned (.bool (f r)) ∧ w = w' := by
  have hrow := hs.2.1
  have hq : r / 64 < long64 rows := by unfold long64; omega
  obtain ⟨A, c, c0, -, -, -⟩ := SetAt.cells hs
  obtain ⟨ad, c', c1, c2⟩ := FSet.word hs (r / 64) hq
  have HW := Aside0.mk (word_test f rows r hr)
  have hwl := wordF_lt f rows (r / 64)
  have hn6 : long64 rows ≤ 16385 := by unfold long64; omega
  generalize wordF f rows (r / 64) = x at *
  have hr9 : r % 64 < 64 := Nat.mod_lt _ (by decide)
  have hrr : (r : Int) < (rows : Int) := by omega
  have hr4 : r ≤ 4611686018427387904 := by omega
  have hr8 : (r : Int).tmod 64 = ((r % 64 : Nat) : Int) := by rw [Int.tmod_eq_emod_of_nonneg (by omega)]; omega
  have hq8 : (r : Int) / 64 = ((r / 64 : Nat) : Int) := by omega
  have hqi : ((r / 64 : Nat) : Int) < ((long64 rows : Nat) : Int) := by omega
  obtain ⟨q, hqq⟩ : ∃ q, r / 64 = q := ⟨_, rfl⟩
  obtain ⟨s, hsq⟩ : ∃ s, r % 64 = s := ⟨_, rfl⟩
  rw [hqq] at hq8 hqi c2 hq
  rw [hsq] at hr8 hr9 HW
  generalize long64 rows = n at *
  clear hs hqq hsq
  go_enter Tryd.func14, Tryd.ntmps14
  go_wp2_with fail
  go_ret
  refine ⟨?_, rfl⟩
  rw [← HW.out, ← test64 x s hwl]
  rfl
set_option maxRecDepth 100000 in
set_option maxHeartbeats 400000 in
theorem rows_set (w : World) (base g rows : Nat) (f : Nat → Bool) (hs : FSet w base g rows f) :
    Calls Tryd.prog 22 #[.pointer (some ⟨g, 0, none⟩)] w fun e w' => e = .returned (.int .i64 rows) ∧ w = w' := by
  obtain ⟨A, c, c0, -, -, -⟩ := SetAt.cells hs
  clear hs
  go_enter Tryd.func22, Tryd.ntmps22
  go_wp2_with fail
  go_ret
  exact ⟨rfl, rfl⟩
end Go.Proofs.YtcgfheagbaafoaaDoor.Sets
