/- Chapter 02's statements: the document's Bytes; is. -/
import Derived.Test.YtcgfheagbaafoaaDoorParse2
import Derived.Test.YtcgfheagbaafoaaDoorSame
import Derived.Test.YtcgfheagbaafoaaDoorRefLong
namespace Go.Proofs.YtcgfheagbaafoaaDoor.Sets
set_option linter.unusedVariables false
set_option linter.unusedSimpArgs false
open Go.RowKit Go.Proofs.YtcgfheagbaafoaaDoorW.PrintWords Go.Proofs.YtcgfheagbaafoaaDoorW.PrintLast Go.Proofs.YtcgfheagbaafoaaDoorW.PrintMore Go.Proofs.YtcgfheagbaafoaaDoor.Lib Go.Proofs.YtcgfheagbaafoaaDoor.Pack Go.Proofs.YtcgfheagbaafoaaDoor.PackA

theorem ofb_stop (f : Nat → Bool) (n : Nat) : ∀ m, n ≤ m → (∀ j, n ≤ j → j < m → f j = false) → ofb f m = ofb f n
  | 0, h, _ => by rw [show n = 0 by omega]
  | m + 1, h, hz => by
    by_cases hn : n = m + 1
    · rw [hn]
    · rw [ofb, ofb_stop f n m (by omega) (fun j h1 h2 => hz j h1 (by omega)), hz m (by omega) (by omega)]; simp
theorem byteF_lo (f : Nat → Bool) (k : Nat) : byteF f k (k / 8) = ofb (fun t => f (8 * (k / 8) + t)) (k % 8) := by
  unfold byteF
  rw [ofb_stop _ (k % 8) 8 (by omega) (fun j h1 h2 => by rw [decide_eq_false (by omega)]; rfl)]
  exact ofb_congr _ (fun j hj => by rw [decide_eq_true (by omega)]; rfl)
theorem byteF_up (f : Nat → Bool) (k : Nat) : byteF f (k + 1) (k / 8) = byteF f k (k / 8) + if f k then 2 ^ (k % 8) else 0 := by
  rw [byteF_lo]
  unfold byteF
  rw [ofb_stop _ (k % 8 + 1) 8 (by omega) (fun j h1 h2 => by rw [decide_eq_false (by omega)]; rfl), ofb]
  have e : 8 * (k / 8) + k % 8 = k := Nat.div_add_mod k 8
  rw [e, decide_eq_true (by omega), Bool.true_and]
  congr 1
  exact ofb_congr _ (fun j hj => by rw [decide_eq_true (by omega)]; rfl)
theorem byteF_same (f : Nat → Bool) (k j : Nat) (hj : j ≠ k / 8) : byteF f (k + 1) j = byteF f k j := by
  unfold byteF
  refine ofb_congr _ (fun t ht => ?_)
  have : decide (8 * j + t < k + 1) = decide (8 * j + t < k) := by rw [Bool.eq_iff_iff]; simp; omega
  rw [this]
theorem byteF_le (f : Nat → Bool) (k : Nat) : byteF f k (k / 8) < 2 ^ (k % 8) := by rw [byteF_lo]; exact ofb_lt _ _
def bytesP (f : Nat → Bool) (n k : Nat) : List Int := (List.range (long n)).map fun j => ((byteF f k j : Nat) : Int)
theorem bytesP_length (f : Nat → Bool) (n k : Nat) : (bytesP f n k).length = long n := by simp [bytesP]
theorem bytesP_get (f : Nat → Bool) (n k j : Nat) (h : j < long n) : (bytesP f n k).getD j 0 = ((byteF f k j : Nat) : Int) := by
  rw [List.getD_eq_getElem?_getD, List.getElem?_eq_getElem (by rw [bytesP_length]; exact h)]
  simp [bytesP]
theorem bytesP_zero (f : Nat → Bool) (n : Nat) : List.replicate (long n) 0 = bytesP f n 0 := by
  apply List.ext_getElem
  · simp [bytesP]
  · intro j h1 h2
    have : byteF f 0 j = 0 := by
      unfold byteF
      rw [ofb_stop _ 0 8 (by omega) (fun t _ _ => by simp)]; rfl
    simp [bytesP, this]
theorem bytesP_all (f : Nat → Bool) (n : Nat) : bytesP f n n = bytesF f n := rfl
theorem bytesP_no (f : Nat → Bool) (n k : Nat) (h : f k = false) : bytesP f n (k + 1) = bytesP f n k := by
  unfold bytesP
  refine List.map_congr_left (fun j _ => congrArg Nat.cast ?_)
  by_cases hj : j = k / 8
  · subst hj; rw [byteF_up, h]; simp
  · exact byteF_same f k j hj
theorem bytesP_yes (f : Nat → Bool) (n k : Nat) (hk : k < n) (h : f k = true) : bytesP f n (k + 1) = (bytesP f n k).set (k / 8) ((byteF f k (k / 8) + 2 ^ (k % 8) : Nat) : Int) := by
  apply List.ext_getElem
  · simp [bytesP]
  · intro j h1 h2
    rw [List.getElem_set]
    by_cases hj : k / 8 = j
    · subst hj
      rw [if_pos rfl]
      simp [bytesP, byteF_up, h]
    · rw [if_neg hj]
      simp [bytesP, byteF_same f k j (fun e => hj e.symm)]
theorem pow8_wrap (r : Nat) (h : r < 8) : IntKind.u8.wrap (2 ^ r) = ((2 ^ r : Nat) : Int) := by
  have h2 : 2 ^ r < 2 ^ 8 := Nat.pow_lt_pow_right (by decide) h
  have e : (2 : Int) ^ r = ((2 ^ r : Nat) : Int) := by simp
  rw [e]
  generalize 2 ^ r = z at *
  exact wraps_u8 _ (by omega) (by omega)

set_option maxRecDepth 100000 in
set_option maxHeartbeats 1600000 in
theorem refbytes_calls (n : Nat) (f : Nat → Bool) (A : Option Addr) (c : Nat) (w : World) (hn : n ≤ 1048576) (hC : Kd.bool.C w A n (boolsF f n)) :
    Calls Tryd.prog 39 #[.slice A n c] w fun e w' => ∃ v, e = .returned v ∧ Kd.R (Kd.int .u8) 5 w' w.heap.size (fun _ => True) v (bytesF f n) ∧ Below w.heap.size w w' := by
  have HC := Aside0.mk hC
  clear hC
  go_enter Tryd.func39, Tryd.ntmps39
  go_wp2_with fail
  refine (reflong_calls n w (by omega)).mono ?_
  rintro e w1 ⟨rfl, rfl⟩
  have hlg : long n ≤ 131073 := by unfold long; omega
  have hlb : n ≤ 8 * long n := by unfold long; omega
  obtain ⟨ln, hln⟩ : ∃ ln, long n = ln := ⟨_, rfl⟩
  rw [hln] at hlg hlb ⊢
  have HLn := Aside0.mk hln
  clear hln
  go_wp2_with (first
    | ((with_reducible refine gate_dst (N := 8) rfl ?_); refine Kd.R_make (Kd.int .u8) (w0 := w) w.heap.size 5 rfl (N := 8) rfl 36 _ _ rfl (ln : Int) rfl rfl Tryd.underlying36 (.int .u8 0) 1 info5 rfl (by decide) (by decide) (0 : Int) (ok := fun _ => True) (okp := fun _ => True) ?hz (fun _ h => h) trivial (by omega) (by omega) (Below.refl _ _) (Nat.le_refl _) ?_; (case hz => rfl); intro v6 w6 ho6 hb6 hg6 ha6; rw [Int.toNat_natCast] at ho6; obtain ⟨A6, c6, rfl, hc6, hC6⟩ := Kd.R_reads ho6; rw [List.length_replicate] at ho6 hc6 ⊢; have HO6 := Aside0.mk ho6; have HB6 := Aside0.mk hb6; clear ho6 hb6 hg6 ha6 hC6)
    | fail)
  go_loopw [4] (fun kv w' => ∃ k : Nat, k ≤ n ∧ kv = .int .i64 k ∧ Aside0 (Kd.R (Kd.int .u8) 5 w' w.heap.size (fun _ => True) (.slice A6 ln c6) (bytesP f n k)) ∧ Aside0 (Below w.heap.size w w')) (fun kv _ => n - (intOf kv).toNat)
  case atStart => exact ⟨0, Nat.zero_le _, rfl, ⟨by rw [← bytesP_zero, HLn.out]; exact HO6.out⟩, HB6⟩
  case round =>
    obtain ⟨k, hk, rfl, HO, HB⟩ := hrel
    by_cases hlt : k < n
    · obtain ⟨ad, e, hcell⟩ := Kd.at_bool (Kd.C_below HC.out HB.out) k (by omega) (by omega)
      subst e
      have e1 : rdOf false (boolsF f n) (k : Int) = f k := by unfold rdOf; rw [Int.toNat_natCast]; exact boolsF_get f n k hlt
      rw [e1, Int.toNat_natCast] at hcell
      clear e1
      by_cases hf : f k = true
      · have hqm : k / 8 < ln := by omega
        obtain ⟨g2, rfl, hg2, -⟩ := R_plain HO.out (by omega)
        obtain ⟨hc2, hf2⟩ := R_at HO.out (k / 8) hqm
        rw [bytesP_get f n k (k / 8) (by rw [HLn.out]; exact hqm)] at hc2
        have HS := Aside0.mk (bytesP_yes f n k hlt hf)
        have hle := byteF_le f k
        have hp8 : 2 ^ (k % 8) * 2 ≤ 256 := by
          rw [← Nat.pow_succ]
          exact Nat.pow_le_pow_right (n := 2) (by decide) (by omega : k % 8 + 1 ≤ 8)
        have HP := Aside0.mk (R_set_at HO.out (k / 8) ((byteF f k (k / 8) + 2 ^ (k % 8) : Nat) : Int))
        rw [← HS.out] at HP
        have hpw := pow8_wrap (k % 8) (Nat.mod_lt _ (by decide))
        have hr8 := tmod8_w k
        have hr9 : k % 8 < 8 := Nat.mod_lt _ (by decide)
        have hq8 : (k : Int) / 8 = ((k / 8 : Nat) : Int) := by omega
        have hqi : ((k / 8 : Nat) : Int) < (ln : Int) := by omega
        have HB2 := Aside0.mk (below_set (j := k / 8) (v := .int .u8 ((byteF f k (k / 8) + 2 ^ (k % 8) : Nat) : Int)) HB.out hg2)
        clear HS
        rw [hf] at hcell
        clear hf
        generalize byteF f k (k / 8) = y at *
        obtain ⟨q, hq⟩ : ∃ q, k / 8 = q := ⟨_, rfl⟩
        obtain ⟨r, hr⟩ : ∃ r, k % 8 = r := ⟨_, rfl⟩
        rw [hq] at hq8 hqi hc2 hf2 HP HB2 hqm
        rw [hr] at hr8 hr9 hpw hle hp8 HP HB2
        clear hq hr
        generalize 2 ^ r = z at *
        have hsum : IntKind.u8.wrap ((y : Int) + (z : Int)) = ((y + z : Nat) : Int) := by rw [← Int.natCast_add]; exact wraps_u8 _ (by omega) (by omega)
        go_wp2_with fail
        go_roundw
        case rel => exact ⟨k + 1, by omega, by go_num, ⟨by simpa using HP.out⟩, ⟨by simpa using HB2.out⟩⟩
        case measure => simp [intOf]; omega
      · replace hf : f k = false := by simpa using hf
        rw [hf] at hcell
        have HS := Aside0.mk (bytesP_no f n k hf)
        clear hf
        go_wp2_with fail
        go_roundw
        case rel => exact ⟨k + 1, by omega, by go_num, ⟨by rw [HS.out]; exact HO.out⟩, HB⟩
        case measure => simp [intOf]; omega
    · obtain rfl : k = n := by omega
      go_wp2_with fail
      go_ret
      exact ⟨_, rfl, by rw [← bytesP_all]; exact HO.out, HB.out⟩

set_option maxRecDepth 100000 in
set_option maxHeartbeats 1600000 in
theorem is_calls (w : World) (base g n : Nat) (f : Nat → Bool) (A : Option Addr) (c : Nat) (hs : FSet w base g n f) (hC : Kd.bool.C w A n (boolsF f n)) (hT : Tab w) :
    Calls Tryd.prog 17 #[.pointer (some ⟨g, 0, none⟩), .slice A n c] w fun e w' => e = .returned (.bool true) ∧ Below w.heap.size w w' := by
  have HC := Aside0.mk hC
  have HS := Aside0.mk hs
  have HT := Aside0.mk hT
  have hn := hs.2.1
  clear hC hs hT
  go_enter Tryd.func17, Tryd.ntmps17
  go_wp2_with fail
  refine (rows_set w _ g n f HS.out).mono ?_
  rintro e w1 ⟨rfl, rfl⟩
  go_wp2_with fail
  go_loopw [5, 6] (fun ov kv w' => ∃ k : Nat, k ≤ n ∧ kv = .int .i64 k ∧ Aside0 (Kd.R (Kd.int .i64) 3 w' w.heap.size (fun _ => True) ov (listF f k)) ∧ Aside0 (Below w.heap.size w w')) (fun _ kv _ => n - (intOf kv).toNat)
  case atStart => exact ⟨0, Nat.zero_le _, rfl, ⟨Kd.R_nil _ _ _ _ _⟩, ⟨Below.refl _ _⟩⟩
  case round =>
    obtain ⟨k, hk, rfl, HO, HB⟩ := hrel
    by_cases hlt : k < n
    · obtain ⟨ad, e, hcell⟩ := Kd.at_bool (Kd.C_below HC.out HB.out) k (by omega) (by omega)
      subst e
      have e1 : rdOf false (boolsF f n) (k : Int) = f k := by unfold rdOf; rw [Int.toNat_natCast]; exact boolsF_get f n k hlt
      rw [e1, Int.toNat_natCast] at hcell
      have HH := Aside0.mk (has_calls wr.drew _ g n f k (FSet.below HS.out (below_drew HB.out)) hlt)
      have HL := Aside0.mk (listF_succ f k)
      have hlen : Aside0 ((listF f k).length ≤ 1048576) := ⟨by rw [listF_length]; have := cnt_le f k; omega⟩
      clear e1
      obtain ⟨b, hb⟩ : ∃ b, f k = b := ⟨_, rfl⟩
      rw [hb] at hcell HH HL
      clear hb
      cases b
      case true =>
        go_wp2_with fail
        refine start_ (n := 8) (S := fun w' => w'.cell? (ad.add k) = some (.bool true)) (ds := []) #[false, false, false, false, false, false, false, false] (by kernel_rfl) rfl rfl (hcell) (fun hHeld => ?_)
        refine pure_ (i := 0) (N := some 22) (v := ?_) (a' := ?_) #[true, false, false, false, false, false, false, false] rfl rfl (by kernel_rfl) (fun _ _ _ h => h) (Or.inl ⟨by rfl, ?_⟩) ?_ ?_
        rotate_left
        · intro w'
          go_simp
          with_reducible rfl
        rotate_left
        · simp only [Act.put, List.setIfInBounds_toArray, List.set_cons_zero, List.set_cons_succ, i64_w, i32_w]
          rfl
        refine pure_ (i := 1) (N := some 23) (v := ?_) (a' := ?_) #[true, true, false, false, false, false, false, false] rfl rfl (by kernel_rfl) (fun _ _ _ h => h) (Or.inl ⟨by rfl, ?_⟩) ?_ ?_
        rotate_left
        · intro w'
          go_simp
          with_reducible rfl
        rotate_left
        · simp only [Act.put, List.setIfInBounds_toArray, List.set_cons_zero, List.set_cons_succ, i64_w, i32_w]
          rfl
        refine pure_ (i := 3) (N := some 25) (v := ?_) (a' := ?_) #[true, true, false, true, false, false, false, false] rfl rfl (by kernel_rfl) (fun _ _ _ h => h) (Or.inl ⟨by rfl, ?_⟩) ?_ ?_
        rotate_left
        · intro w'
          go_simp
          with_reducible rfl
        rotate_left
        · simp only [Act.put, List.setIfInBounds_toArray, List.set_cons_zero, List.set_cons_succ, i64_w, i32_w]
          rfl
        refine pure_ (i := 4) (N := some 26) (v := ?_) (a' := ?_) #[true, true, false, true, true, false, false, false] rfl rfl (by kernel_rfl) (fun _ _ _ h => h) (Or.inl ⟨by rfl, ?_⟩) ?_ ?_
        rotate_left
        · intro w'
          go_simp
          with_reducible rfl
        rotate_left
        · simp only [Act.put, List.setIfInBounds_toArray, List.set_cons_zero, List.set_cons_succ, i64_w, i32_w]
          rfl
        refine pure_ (i := 5) (N := some 27) (v := ?_) (a' := ?_) #[true, true, false, true, true, true, false, false] rfl rfl (by kernel_rfl) (fun _ _ _ h => h) (Or.inl ⟨by rfl, ?_⟩) ?_ ?_
        rotate_left
        · intro w'
          go_simp
          with_reducible rfl
        rotate_left
        · simp only [Act.put, List.setIfInBounds_toArray, List.set_cons_zero, List.set_cons_succ, i64_w, i32_w]
          rfl
        refine take_ (i := 6) (N := some 28) (v := ?_) (a' := ?_) #[true, true, false, true, true, true, true, false] rfl rfl (by kernel_rfl) (fun _ _ _ h => h) (Or.inl ⟨by rfl, ?_⟩) hHeld ?_ ?_
        rotate_left
        · intro w' s0
          go_simp
          with_reducible rfl
        rotate_left
        · simp only [Act.put, List.setIfInBounds_toArray, List.set_cons_zero, List.set_cons_succ, i64_w, i32_w]
          rfl
        refine one_ (i := 2) (N := some 24) #[true, true, true, true, true, true, true, false] rfl rfl (by kernel_rfl) (by decide) (fun K hK => ?_)
        refine goes_ Tryd.func14 (by kernel_rfl) rfl #[.pointer (some ⟨g, 0, none⟩), .int .i64 k] (by rfl) rfl rfl (by simp only [List.map_toArray, List.map_cons, List.map_nil]; rfl) ?_
        with_reducible refine (HH.out).mono ?_
        rintro e w3 ⟨rfl, rfl⟩
        refine ⟨_, rfl, ?_⟩
        refine hK.out _ _ (hHeld) (fun hHeld => ?_)
        clear hK K
        refine norm_ (a' := ?_) ?_ ?_
        rotate_left
        · show Act.put _ (some 24) _ = _
          simp only [Act.put, List.setIfInBounds_toArray, List.set_cons_zero, List.set_cons_succ, i64_w, i32_w]
          rfl
        refine pure_ (i := 7) (N := some 29) (v := ?_) (a' := ?_) #[true, true, true, true, true, true, true, true] rfl rfl (by kernel_rfl) (fun _ _ _ h => h) (Or.inl ⟨by rfl, ?_⟩) ?_ ?_
        rotate_left
        · intro w'
          go_simp
          with_reducible rfl
        rotate_left
        · simp only [Act.put, List.setIfInBounds_toArray, List.set_cons_zero, List.set_cons_succ, i64_w, i32_w]
          rfl
        refine done_ (by kernel_rfl) ?_
        go_wp2_with (first
          | ((with_reducible refine gate_builtin (b := .append) (xs := #[.tmp 34, .tmp 36]) rfl ?_); at_builtin; refine Kd.R_append (Kd.int .i64) (w0 := w) w.heap.size rfl (.tmp 34) (.tmp 36) 22 3 (.int .i64 0) 8 rfl Tryd.underlying22 info3s rfl (by decide) (by omega) (_) (listF f k) (((k : Nat) : Int)) [.int .i64 (((k : Nat) : Int))] (fun _ => True) (fun _ => False) rfl rfl rfl (fun _ hk => hk.elim) (fun _ _ => trivial) (Kd.R_drew HO.out) (below_drew HB.out) (below_drew HB.out).size (by have := hlen.out; omega) ?_; intro v2 w2 ho2 hb2 hg2 ha2; have HO2 := Aside0.mk ho2; have HB2 := Aside0.mk hb2; clear ho2 hb2 hg2 ha2)
          | fail)
        go_roundw
        case rel => exact ⟨k + 1, by omega, by go_num, ⟨by rw [HL.out]; exact HO2.out⟩, HB2⟩
        case measure => simp [intOf]; omega
      case false =>
        go_wp2_with fail
        refine start_ (n := 8) (S := fun w' => w'.cell? (ad.add k) = some (.bool false)) (ds := []) #[false, false, false, false, false, false, false, false] (by kernel_rfl) rfl rfl (hcell) (fun hHeld => ?_)
        refine pure_ (i := 0) (N := some 22) (v := ?_) (a' := ?_) #[true, false, false, false, false, false, false, false] rfl rfl (by kernel_rfl) (fun _ _ _ h => h) (Or.inl ⟨by rfl, ?_⟩) ?_ ?_
        rotate_left
        · intro w'
          go_simp
          with_reducible rfl
        rotate_left
        · simp only [Act.put, List.setIfInBounds_toArray, List.set_cons_zero, List.set_cons_succ, i64_w, i32_w]
          rfl
        refine pure_ (i := 1) (N := some 23) (v := ?_) (a' := ?_) #[true, true, false, false, false, false, false, false] rfl rfl (by kernel_rfl) (fun _ _ _ h => h) (Or.inl ⟨by rfl, ?_⟩) ?_ ?_
        rotate_left
        · intro w'
          go_simp
          with_reducible rfl
        rotate_left
        · simp only [Act.put, List.setIfInBounds_toArray, List.set_cons_zero, List.set_cons_succ, i64_w, i32_w]
          rfl
        refine pure_ (i := 3) (N := some 25) (v := ?_) (a' := ?_) #[true, true, false, true, false, false, false, false] rfl rfl (by kernel_rfl) (fun _ _ _ h => h) (Or.inl ⟨by rfl, ?_⟩) ?_ ?_
        rotate_left
        · intro w'
          go_simp
          with_reducible rfl
        rotate_left
        · simp only [Act.put, List.setIfInBounds_toArray, List.set_cons_zero, List.set_cons_succ, i64_w, i32_w]
          rfl
        refine pure_ (i := 4) (N := some 26) (v := ?_) (a' := ?_) #[true, true, false, true, true, false, false, false] rfl rfl (by kernel_rfl) (fun _ _ _ h => h) (Or.inl ⟨by rfl, ?_⟩) ?_ ?_
        rotate_left
        · intro w'
          go_simp
          with_reducible rfl
        rotate_left
        · simp only [Act.put, List.setIfInBounds_toArray, List.set_cons_zero, List.set_cons_succ, i64_w, i32_w]
          rfl
        refine pure_ (i := 5) (N := some 27) (v := ?_) (a' := ?_) #[true, true, false, true, true, true, false, false] rfl rfl (by kernel_rfl) (fun _ _ _ h => h) (Or.inl ⟨by rfl, ?_⟩) ?_ ?_
        rotate_left
        · intro w'
          go_simp
          with_reducible rfl
        rotate_left
        · simp only [Act.put, List.setIfInBounds_toArray, List.set_cons_zero, List.set_cons_succ, i64_w, i32_w]
          rfl
        refine take_ (i := 6) (N := some 28) (v := ?_) (a' := ?_) #[true, true, false, true, true, true, true, false] rfl rfl (by kernel_rfl) (fun _ _ _ h => h) (Or.inl ⟨by rfl, ?_⟩) hHeld ?_ ?_
        rotate_left
        · intro w' s0
          go_simp
          with_reducible rfl
        rotate_left
        · simp only [Act.put, List.setIfInBounds_toArray, List.set_cons_zero, List.set_cons_succ, i64_w, i32_w]
          rfl
        refine one_ (i := 2) (N := some 24) #[true, true, true, true, true, true, true, false] rfl rfl (by kernel_rfl) (by decide) (fun K hK => ?_)
        refine goes_ Tryd.func14 (by kernel_rfl) rfl #[.pointer (some ⟨g, 0, none⟩), .int .i64 k] (by rfl) rfl rfl (by simp only [List.map_toArray, List.map_cons, List.map_nil]; rfl) ?_
        with_reducible refine (HH.out).mono ?_
        rintro e w3 ⟨rfl, rfl⟩
        refine ⟨_, rfl, ?_⟩
        refine hK.out _ _ (hHeld) (fun hHeld => ?_)
        clear hK K
        refine norm_ (a' := ?_) ?_ ?_
        rotate_left
        · show Act.put _ (some 24) _ = _
          simp only [Act.put, List.setIfInBounds_toArray, List.set_cons_zero, List.set_cons_succ, i64_w, i32_w]
          rfl
        refine pure_ (i := 7) (N := some 29) (v := ?_) (a' := ?_) #[true, true, true, true, true, true, true, true] rfl rfl (by kernel_rfl) (fun _ _ _ h => h) (Or.inl ⟨by rfl, ?_⟩) ?_ ?_
        rotate_left
        · intro w'
          go_simp
          with_reducible rfl
        rotate_left
        · simp only [Act.put, List.setIfInBounds_toArray, List.set_cons_zero, List.set_cons_succ, i64_w, i32_w]
          rfl
        refine done_ (by kernel_rfl) ?_
        go_wp2_with fail
        go_roundw
        case rel => exact ⟨k + 1, by omega, by go_num, ⟨by rw [HL.out]; simpa using Kd.R_drew HO.out⟩, ⟨below_drew HB.out⟩⟩
        case measure => simp [intOf]; omega
    · obtain rfl : k = n := by omega
      have HK := Aside0.mk (countf_calls wr.drew _ g k f _ rfl (FSet.below HS.out (below_drew HB.out)))
      have hkl := listF_length f k
      have HBd := Aside0.mk (below_drew HB.out)
      have HOd := Aside0.mk (Kd.R_drew HO.out)
      obtain ⟨A5, c5, rfl, -, hC5⟩ := Kd.R_reads HOd.out
      rw [hkl] at hC5 ⊢
      have HC5 := Aside0.mk hC5
      clear HO HOd hC5 hkl HB
      obtain ⟨kc, hkc⟩ : ∃ kc, cnt f k = kc := ⟨_, rfl⟩
      rw [hkc] at HK HC5 ⊢
      have HKc := Aside0.mk hkc
      clear hkc
      obtain ⟨bl, HBl⟩ : ∃ bl, Aside0 (bytesF f k = bl) := ⟨_, ⟨rfl⟩⟩
      obtain ⟨sb, HSb⟩ : ∃ sb, Aside0 (strOfNums bl = sb) := ⟨_, ⟨rfl⟩⟩
      go_wp2_with fail
      refine start_ (n := 33) (S := fun w' => True) (ds := []) #[false, false, false, false, false, false, false, false, false, false, false, false, false, false, false, false, false, false, false, false, false, false, false, false, false, false, false, false, false, false, false, false, false] (by kernel_rfl) rfl rfl trivial (fun hHeld => ?_)
      refine pure_ (i := 0) (N := some 38) (v := ?_) (a' := ?_) #[true, false, false, false, false, false, false, false, false, false, false, false, false, false, false, false, false, false, false, false, false, false, false, false, false, false, false, false, false, false, false, false, false] rfl rfl (by kernel_rfl) (fun _ _ _ h => h) (Or.inl ⟨by rfl, ?_⟩) ?_ ?_
      rotate_left
      · intro w'
        go_simp
        with_reducible rfl
      rotate_left
      · simp only [Act.put, List.setIfInBounds_toArray, List.set_cons_zero, List.set_cons_succ, i64_w, i32_w]
        rfl
      refine pure_ (i := 2) (N := some 40) (v := ?_) (a' := ?_) #[true, false, true, false, false, false, false, false, false, false, false, false, false, false, false, false, false, false, false, false, false, false, false, false, false, false, false, false, false, false, false, false, false] rfl rfl (by kernel_rfl) (fun _ _ _ h => h) (Or.inl ⟨by rfl, ?_⟩) ?_ ?_
      rotate_left
      · intro w'
        go_simp
        with_reducible rfl
      rotate_left
      · simp only [Act.put, List.setIfInBounds_toArray, List.set_cons_zero, List.set_cons_succ, i64_w, i32_w]
        rfl
      refine pure_ (i := 3) (N := some 41) (v := ?_) (a' := ?_) #[true, false, true, true, false, false, false, false, false, false, false, false, false, false, false, false, false, false, false, false, false, false, false, false, false, false, false, false, false, false, false, false, false] rfl rfl (by kernel_rfl) (fun _ _ _ h => h) (Or.inl ⟨by rfl, ?_⟩) ?_ ?_
      rotate_left
      · intro w'
        go_simp
        with_reducible rfl
      rotate_left
      · simp only [Act.put, List.setIfInBounds_toArray, List.set_cons_zero, List.set_cons_succ, i64_w, i32_w]
        rfl
      refine one_ (i := 1) (N := some 39) #[true, true, true, true, false, false, false, false, false, false, false, false, false, false, false, false, false, false, false, false, false, false, false, false, false, false, false, false, false, false, false, false, false] rfl rfl (by kernel_rfl) (by decide) (fun K hK => ?_)
      refine goes_ Tryd.func12 (by kernel_rfl) rfl #[.pointer (some ⟨g, 0, none⟩)] (by rfl) rfl rfl (by simp only [List.map_toArray, List.map_cons, List.map_nil]; rfl) ?_
      with_reducible refine (HK.out).mono ?_
      rintro e w3 ⟨rfl, rfl⟩
      refine ⟨_, rfl, ?_⟩
      refine hK.out _ _ trivial (fun hHeld => ?_)
      clear hK K
      refine norm_ (a' := ?_) ?_ ?_
      rotate_left
      · show Act.put _ (some 39) _ = _
        simp only [Act.put, List.setIfInBounds_toArray, List.set_cons_zero, List.set_cons_succ, i64_w, i32_w]
        rfl
      refine pure_ (i := 4) (N := some 42) (v := ?_) (a' := ?_) #[true, true, true, true, true, false, false, false, false, false, false, false, false, false, false, false, false, false, false, false, false, false, false, false, false, false, false, false, false, false, false, false, false] rfl rfl (by kernel_rfl) (fun _ _ _ h => h) (Or.inl ⟨by rfl, ?_⟩) ?_ ?_
      rotate_left
      · intro w'
        go_simp
        with_reducible rfl
      rotate_left
      · simp only [Act.put, List.setIfInBounds_toArray, List.set_cons_zero, List.set_cons_succ, i64_w, i32_w]
        rfl
      refine pure_ (i := 5) (N := some 43) (v := ?_) (a' := ?_) #[true, true, true, true, true, true, false, false, false, false, false, false, false, false, false, false, false, false, false, false, false, false, false, false, false, false, false, false, false, false, false, false, false] rfl rfl (by kernel_rfl) (fun _ _ _ h => h) (Or.inl ⟨by rfl, ?_⟩) ?_ ?_
      rotate_left
      · intro w'
        go_simp
        with_reducible rfl
      rotate_left
      · simp only [Act.put, List.setIfInBounds_toArray, List.set_cons_zero, List.set_cons_succ, i64_w, i32_w]
        rfl
      refine pure_ (i := 6) (N := some 44) (v := ?_) (a' := ?_) #[true, true, true, true, true, true, true, false, false, false, false, false, false, false, false, false, false, false, false, false, false, false, false, false, false, false, false, false, false, false, false, false, false] rfl rfl (by kernel_rfl) (fun _ _ _ h => h) (Or.inl ⟨by rfl, ?_⟩) ?_ ?_
      rotate_left
      · intro w'
        go_simp
        with_reducible rfl
      rotate_left
      · simp only [Act.put, List.setIfInBounds_toArray, List.set_cons_zero, List.set_cons_succ, i64_w, i32_w]
        rfl
      refine pure_ (i := 8) (N := some 46) (v := ?_) (a' := ?_) #[true, true, true, true, true, true, true, false, true, false, false, false, false, false, false, false, false, false, false, false, false, false, false, false, false, false, false, false, false, false, false, false, false] rfl rfl (by kernel_rfl) (fun _ _ _ h => h) (Or.inl ⟨by rfl, ?_⟩) ?_ ?_
      rotate_left
      · intro w'
        go_simp
        with_reducible rfl
      rotate_left
      · simp only [Act.put, List.setIfInBounds_toArray, List.set_cons_zero, List.set_cons_succ, i64_w, i32_w]
        rfl
      refine one_ (i := 7) (N := some 45) #[true, true, true, true, true, true, true, true, true, false, false, false, false, false, false, false, false, false, false, false, false, false, false, false, false, false, false, false, false, false, false, false, false] rfl rfl (by kernel_rfl) (by decide) (fun K hK => ?_)
      refine goes_ Tryd.func13 (by kernel_rfl) rfl #[.pointer (some ⟨g, 0, none⟩)] (by rfl) rfl rfl (by simp only [List.map_toArray, List.map_cons, List.map_nil]; rfl) ?_
      with_reducible refine (list_calls wr.drew _ g k f (FSet.below HS.out HBd.out) (HT.out.below HBd.out)).mono ?_
      rintro e w4 ⟨v4, rfl, ho, hb⟩
      refine ⟨_, rfl, ?_⟩
      obtain ⟨A4, c4, rfl, -, hC4⟩ := Kd.R_reads ho
      rw [listF_length, HKc.out] at hC4 ⊢
      have HC4 := Aside0.mk hC4
      have HB4 := Aside0.mk (below_then HBd.out HBd.out.size hb)
      replace HC5 := Aside0.mk (Kd.C_below HC5.out hb)
      clear ho hb hC4 HK
      refine hK.out _ _ trivial (fun hHeld => ?_)
      clear hK K
      refine norm_ (a' := ?_) ?_ ?_
      rotate_left
      · show Act.put _ (some 45) _ = _
        simp only [Act.put, List.setIfInBounds_toArray, List.set_cons_zero, List.set_cons_succ, i64_w, i32_w]
        rfl
      refine one_ (i := 9) (N := some 47) #[true, true, true, true, true, true, true, true, true, true, false, false, false, false, false, false, false, false, false, false, false, false, false, false, false, false, false, false, false, false, false, false, false] rfl rfl (by kernel_rfl) (by decide) (fun K hK => ?_)
      refine goes_ Tryd.func38 (by kernel_rfl) rfl #[.slice A4 kc c4, .slice A5 kc c5] (by rfl) rfl rfl (by simp only [List.map_toArray, List.map_cons, List.map_nil]; rfl) ?_
      with_reducible refine (same_calls _ A4 A5 kc kc c4 c5 w4 HC4.out HC5.out).mono ?_
      rintro e w5 ⟨rfl, hd⟩
      refine ⟨_, rfl, ?_⟩
      have HB5 := Aside0.mk (below_then HB4.out HB4.out.size hd.below)
      clear hd HB4 HC4 HC5
      refine hK.out _ _ trivial (fun hHeld => ?_)
      clear hK K
      refine norm_ (a' := ?_) ?_ ?_
      rotate_left
      · show Act.put _ (some 47) _ = _
        simp only [Act.put, List.setIfInBounds_toArray, List.set_cons_zero, List.set_cons_succ, i64_w, i32_w]
        rfl
      refine pure_ (i := 10) (N := some 48) (v := ?_) (a' := ?_) #[true, true, true, true, true, true, true, true, true, true, true, false, false, false, false, false, false, false, false, false, false, false, false, false, false, false, false, false, false, false, false, false, false] rfl rfl (by kernel_rfl) (fun _ _ _ h => h) (Or.inl ⟨by rfl, ?_⟩) ?_ ?_
      rotate_left
      · intro w'
        go_simp
        with_reducible rfl
      rotate_left
      · simp only [Act.put, List.setIfInBounds_toArray, List.set_cons_zero, List.set_cons_succ, i64_w, i32_w]
        rfl
      refine pure_ (i := 11) (N := some 49) (v := ?_) (a' := ?_) #[true, true, true, true, true, true, true, true, true, true, true, true, false, false, false, false, false, false, false, false, false, false, false, false, false, false, false, false, false, false, false, false, false] rfl rfl (by kernel_rfl) (fun _ _ _ h => h) (Or.inl ⟨by rfl, ?_⟩) ?_ ?_
      rotate_left
      · intro w'
        go_simp
        with_reducible rfl
      rotate_left
      · simp only [Act.put, List.setIfInBounds_toArray, List.set_cons_zero, List.set_cons_succ, i64_w, i32_w]
        rfl
      refine pure_ (i := 12) (N := some 50) (v := ?_) (a' := ?_) #[true, true, true, true, true, true, true, true, true, true, true, true, true, false, false, false, false, false, false, false, false, false, false, false, false, false, false, false, false, false, false, false, false] rfl rfl (by kernel_rfl) (fun _ _ _ h => h) (Or.inl ⟨by rfl, ?_⟩) ?_ ?_
      rotate_left
      · intro w'
        go_simp
        with_reducible rfl
      rotate_left
      · simp only [Act.put, List.setIfInBounds_toArray, List.set_cons_zero, List.set_cons_succ, i64_w, i32_w]
        rfl
      refine one_ (i := 13) (N := some 51) #[true, true, true, true, true, true, true, true, true, true, true, true, true, true, false, false, false, false, false, false, false, false, false, false, false, false, false, false, false, false, false, false, false] rfl rfl (by kernel_rfl) (by decide) (fun K hK => ?_)
      refine goes_ Tryd.func14 (by kernel_rfl) rfl #[.pointer (some ⟨g, 0, none⟩), .int .i64 (-1)] (by rfl) rfl rfl (by simp only [List.map_toArray, List.map_cons, List.map_nil]; rfl) ?_
      with_reducible refine (has_out w5 _ g k f (-1) (FSet.below HS.out HB5.out) (.inl (by decide))).mono ?_
      rintro e w6 ⟨rfl, rfl⟩
      refine ⟨_, rfl, ?_⟩
      refine hK.out _ _ trivial (fun hHeld => ?_)
      clear hK K
      refine norm_ (a' := ?_) ?_ ?_
      rotate_left
      · show Act.put _ (some 51) _ = _
        simp only [Act.put, List.setIfInBounds_toArray, List.set_cons_zero, List.set_cons_succ, i64_w, i32_w]
        rfl
      refine pure_ (i := 14) (N := some 52) (v := ?_) (a' := ?_) #[true, true, true, true, true, true, true, true, true, true, true, true, true, true, true, false, false, false, false, false, false, false, false, false, false, false, false, false, false, false, false, false, false] rfl rfl (by kernel_rfl) (fun _ _ _ h => h) (Or.inl ⟨by rfl, ?_⟩) ?_ ?_
      rotate_left
      · intro w'
        go_simp
        with_reducible rfl
      rotate_left
      · simp only [Act.put, List.setIfInBounds_toArray, List.set_cons_zero, List.set_cons_succ, i64_w, i32_w]
        rfl
      refine pure_ (i := 15) (N := some 53) (v := ?_) (a' := ?_) #[true, true, true, true, true, true, true, true, true, true, true, true, true, true, true, true, false, false, false, false, false, false, false, false, false, false, false, false, false, false, false, false, false] rfl rfl (by kernel_rfl) (fun _ _ _ h => h) (Or.inl ⟨by rfl, ?_⟩) ?_ ?_
      rotate_left
      · intro w'
        go_simp
        with_reducible rfl
      rotate_left
      · simp only [Act.put, List.setIfInBounds_toArray, List.set_cons_zero, List.set_cons_succ, i64_w, i32_w]
        rfl
      refine pure_ (i := 16) (N := some 54) (v := ?_) (a' := ?_) #[true, true, true, true, true, true, true, true, true, true, true, true, true, true, true, true, true, false, false, false, false, false, false, false, false, false, false, false, false, false, false, false, false] rfl rfl (by kernel_rfl) (fun _ _ _ h => h) (Or.inl ⟨by rfl, ?_⟩) ?_ ?_
      rotate_left
      · intro w'
        go_simp
        with_reducible rfl
      rotate_left
      · simp only [Act.put, List.setIfInBounds_toArray, List.set_cons_zero, List.set_cons_succ, i64_w, i32_w]
        rfl
      refine pure_ (i := 17) (N := some 55) (v := ?_) (a' := ?_) #[true, true, true, true, true, true, true, true, true, true, true, true, true, true, true, true, true, true, false, false, false, false, false, false, false, false, false, false, false, false, false, false, false] rfl rfl (by kernel_rfl) (fun _ _ _ h => h) (Or.inl ⟨by rfl, ?_⟩) ?_ ?_
      rotate_left
      · intro w'
        go_simp
        with_reducible rfl
      rotate_left
      · simp only [Act.put, List.setIfInBounds_toArray, List.set_cons_zero, List.set_cons_succ, i64_w, i32_w]
        rfl
      refine pure_ (i := 18) (N := some 56) (v := ?_) (a' := ?_) #[true, true, true, true, true, true, true, true, true, true, true, true, true, true, true, true, true, true, true, false, false, false, false, false, false, false, false, false, false, false, false, false, false] rfl rfl (by kernel_rfl) (fun _ _ _ h => h) (Or.inl ⟨by rfl, ?_⟩) ?_ ?_
      rotate_left
      · intro w'
        go_simp
        with_reducible rfl
      rotate_left
      · simp only [Act.put, List.setIfInBounds_toArray, List.set_cons_zero, List.set_cons_succ, i64_w, i32_w]
        rfl
      refine pure_ (i := 19) (N := some 57) (v := ?_) (a' := ?_) #[true, true, true, true, true, true, true, true, true, true, true, true, true, true, true, true, true, true, true, true, false, false, false, false, false, false, false, false, false, false, false, false, false] rfl rfl (by kernel_rfl) (fun _ _ _ h => h) (Or.inl ⟨by rfl, ?_⟩) ?_ ?_
      rotate_left
      · intro w'
        go_simp
        with_reducible rfl
      rotate_left
      · simp only [Act.put, List.setIfInBounds_toArray, List.set_cons_zero, List.set_cons_succ, i64_w, i32_w]
        rfl
      refine one_ (i := 20) (N := some 58) #[true, true, true, true, true, true, true, true, true, true, true, true, true, true, true, true, true, true, true, true, true, false, false, false, false, false, false, false, false, false, false, false, false] rfl rfl (by kernel_rfl) (by decide) (fun K hK => ?_)
      refine goes_ Tryd.func14 (by kernel_rfl) rfl #[.pointer (some ⟨g, 0, none⟩), .int .i64 k] (by rfl) rfl rfl (by simp only [List.map_toArray, List.map_cons, List.map_nil]; rfl) ?_
      with_reducible refine (has_out w5 _ g k f k (FSet.below HS.out HB5.out) (.inr (Int.le_refl _))).mono ?_
      rintro e w6 ⟨rfl, rfl⟩
      refine ⟨_, rfl, ?_⟩
      refine hK.out _ _ trivial (fun hHeld => ?_)
      clear hK K
      refine norm_ (a' := ?_) ?_ ?_
      rotate_left
      · show Act.put _ (some 58) _ = _
        simp only [Act.put, List.setIfInBounds_toArray, List.set_cons_zero, List.set_cons_succ, i64_w, i32_w]
        rfl
      refine pure_ (i := 21) (N := some 59) (v := ?_) (a' := ?_) #[true, true, true, true, true, true, true, true, true, true, true, true, true, true, true, true, true, true, true, true, true, true, false, false, false, false, false, false, false, false, false, false, false] rfl rfl (by kernel_rfl) (fun _ _ _ h => h) (Or.inl ⟨by rfl, ?_⟩) ?_ ?_
      rotate_left
      · intro w'
        go_simp
        with_reducible rfl
      rotate_left
      · simp only [Act.put, List.setIfInBounds_toArray, List.set_cons_zero, List.set_cons_succ, i64_w, i32_w]
        rfl
      refine pure_ (i := 22) (N := some 60) (v := ?_) (a' := ?_) #[true, true, true, true, true, true, true, true, true, true, true, true, true, true, true, true, true, true, true, true, true, true, true, false, false, false, false, false, false, false, false, false, false] rfl rfl (by kernel_rfl) (fun _ _ _ h => h) (Or.inl ⟨by rfl, ?_⟩) ?_ ?_
      rotate_left
      · intro w'
        go_simp
        with_reducible rfl
      rotate_left
      · simp only [Act.put, List.setIfInBounds_toArray, List.set_cons_zero, List.set_cons_succ, i64_w, i32_w]
        rfl
      refine pure_ (i := 23) (N := some 61) (v := ?_) (a' := ?_) #[true, true, true, true, true, true, true, true, true, true, true, true, true, true, true, true, true, true, true, true, true, true, true, true, false, false, false, false, false, false, false, false, false] rfl rfl (by kernel_rfl) (fun _ _ _ h => h) (Or.inl ⟨by rfl, ?_⟩) ?_ ?_
      rotate_left
      · intro w'
        go_simp
        with_reducible rfl
      rotate_left
      · simp only [Act.put, List.setIfInBounds_toArray, List.set_cons_zero, List.set_cons_succ, i64_w, i32_w]
        rfl
      refine pure_ (i := 24) (N := some 62) (v := ?_) (a' := ?_) #[true, true, true, true, true, true, true, true, true, true, true, true, true, true, true, true, true, true, true, true, true, true, true, true, true, false, false, false, false, false, false, false, false] rfl rfl (by kernel_rfl) (fun _ _ _ h => h) (Or.inl ⟨by rfl, ?_⟩) ?_ ?_
      rotate_left
      · intro w'
        go_simp
        with_reducible rfl
      rotate_left
      · simp only [Act.put, List.setIfInBounds_toArray, List.set_cons_zero, List.set_cons_succ, i64_w, i32_w]
        rfl
      refine pure_ (i := 27) (N := some 65) (v := ?_) (a' := ?_) #[true, true, true, true, true, true, true, true, true, true, true, true, true, true, true, true, true, true, true, true, true, true, true, true, true, false, false, true, false, false, false, false, false] rfl rfl (by kernel_rfl) (fun _ _ _ h => h) (Or.inl ⟨by rfl, ?_⟩) ?_ ?_
      rotate_left
      · intro w'
        go_simp
        with_reducible rfl
      rotate_left
      · simp only [Act.put, List.setIfInBounds_toArray, List.set_cons_zero, List.set_cons_succ, i64_w, i32_w]
        rfl
      refine one_ (i := 25) (N := some 63) #[true, true, true, true, true, true, true, true, true, true, true, true, true, true, true, true, true, true, true, true, true, true, true, true, true, true, false, true, false, false, false, false, false] rfl rfl (by kernel_rfl) (by decide) (fun K hK => ?_)
      refine goes_ Tryd.func23 (by kernel_rfl) rfl #[.pointer (some ⟨g, 0, none⟩)] (by rfl) rfl rfl (by simp only [List.map_toArray, List.map_cons, List.map_nil]; rfl) ?_
      with_reducible refine (bytesf_calls w5 _ g k f (FSet.below HS.out HB5.out)).mono ?_
      rintro e w6 ⟨v6, rfl, ho, hb⟩
      refine ⟨_, rfl, ?_⟩
      rw [HBl.out] at ho
      obtain ⟨A6, c6, rfl, -, hC6⟩ := Kd.R_reads ho
      have HV6 : Aside0 (∀ w', Below w6.heap.size w6 w' → (convert 36 9 (.slice A6 bl.length c6)).run Tryd.prog w' = .ok (.string sb) w') := ⟨fun w' hb' => by rw [← HSb.out]; exact Kd.C_string Tryd.underlying36 Tryd.underlying5 Tryd.underlying9 (Kd.C_below hC6 hb')⟩
      have HB6 := Aside0.mk (below_then HB5.out HB5.out.size hb)
      clear ho hb hC6 HB5
      refine hK.out _ _ trivial (fun hHeld => ?_)
      clear hK K
      refine norm_ (a' := ?_) ?_ ?_
      rotate_left
      · show Act.put _ (some 63) _ = _
        simp only [Act.put, List.setIfInBounds_toArray, List.set_cons_zero, List.set_cons_succ, i64_w, i32_w]
        rfl
      refine more_ (S' := fun w' => (convert 36 9 (.slice A6 bl.length c6)).run Tryd.prog w' = .ok (.string sb) w') (fun _ h => trivial) ((HV6.out _ (Below.refl _ _))) (fun hHeld => ?_)
      refine take_ (i := 26) (N := some 64) (v := ?_) (a' := ?_) #[true, true, true, true, true, true, true, true, true, true, true, true, true, true, true, true, true, true, true, true, true, true, true, true, true, true, true, true, false, false, false, false, false] rfl rfl (by kernel_rfl) (fun _ _ _ h => h) (Or.inl ⟨by rfl, ?_⟩) hHeld ?_ ?_
      rotate_left
      · intro w' s0
        go_simp
        with_reducible rfl
      rotate_left
      · simp only [Act.put, List.setIfInBounds_toArray, List.set_cons_zero, List.set_cons_succ, i64_w, i32_w]
        rfl
      refine one_ (i := 28) (N := some 66) #[true, true, true, true, true, true, true, true, true, true, true, true, true, true, true, true, true, true, true, true, true, true, true, true, true, true, true, true, true, false, false, false, false] rfl rfl (by kernel_rfl) (by decide) (fun K hK => ?_)
      refine goes_ Tryd.func39 (by kernel_rfl) rfl #[.slice A k c] (by rfl) rfl rfl (by simp only [List.map_toArray, List.map_cons, List.map_nil]; rfl) ?_
      with_reducible refine (refbytes_calls k f _ c w6 hn (Kd.C_below HC.out HB6.out)).mono ?_
      rintro e w7 ⟨v7, rfl, ho, hb⟩
      refine ⟨_, rfl, ?_⟩
      rw [HBl.out] at ho
      obtain ⟨A7, c7, rfl, -, hC7⟩ := Kd.R_reads ho
      have HV7 : Aside0 (∀ w', Below w7.heap.size w7 w' → (convert 36 9 (.slice A7 bl.length c7)).run Tryd.prog w' = .ok (.string sb) w') := ⟨fun w' hb' => by rw [← HSb.out]; exact Kd.C_string Tryd.underlying36 Tryd.underlying5 Tryd.underlying9 (Kd.C_below hC7 hb')⟩
      have HB7 := Aside0.mk (below_then HB6.out HB6.out.size hb)
      have k6 := HV6.out _ hb
      clear ho hb hC7 HB6
      refine hK.out _ _ (k6) (fun hHeld => ?_)
      clear hK K
      refine norm_ (a' := ?_) ?_ ?_
      rotate_left
      · show Act.put _ (some 66) _ = _
        simp only [Act.put, List.setIfInBounds_toArray, List.set_cons_zero, List.set_cons_succ, i64_w, i32_w]
        rfl
      refine more_ (S' := fun w' => (convert 36 9 (.slice A6 bl.length c6)).run Tryd.prog w' = .ok (.string sb) w' ∧ (convert 36 9 (.slice A7 bl.length c7)).run Tryd.prog w' = .ok (.string sb) w') (fun _ h => (h.1)) ⟨hHeld, (HV7.out _ (Below.refl _ _))⟩ (fun hHeld => ?_)
      refine take_ (i := 29) (N := some 67) (v := ?_) (a' := ?_) #[true, true, true, true, true, true, true, true, true, true, true, true, true, true, true, true, true, true, true, true, true, true, true, true, true, true, true, true, true, true, false, false, false] rfl rfl (by kernel_rfl) (fun _ _ _ h => h) (Or.inl ⟨by rfl, ?_⟩) hHeld ?_ ?_
      rotate_left
      · rintro w' ⟨s0, s1⟩
        go_simp
        with_reducible rfl
      rotate_left
      · simp only [Act.put, List.setIfInBounds_toArray, List.set_cons_zero, List.set_cons_succ, i64_w, i32_w]
        rfl
      refine pure_ (i := 30) (N := some 68) (v := ?_) (a' := ?_) #[true, true, true, true, true, true, true, true, true, true, true, true, true, true, true, true, true, true, true, true, true, true, true, true, true, true, true, true, true, true, true, false, false] rfl rfl (by kernel_rfl) (fun _ _ _ h => h) (Or.inl ⟨by rfl, ?_⟩) ?_ ?_
      rotate_left
      · intro w'
        go_simp
        with_reducible rfl
      rotate_left
      · simp only [Act.put, List.setIfInBounds_toArray, List.set_cons_zero, List.set_cons_succ, i64_w, i32_w]
        rfl
      refine pure_ (i := 31) (N := some 69) (v := ?_) (a' := ?_) #[true, true, true, true, true, true, true, true, true, true, true, true, true, true, true, true, true, true, true, true, true, true, true, true, true, true, true, true, true, true, true, true, false] rfl rfl (by kernel_rfl) (fun _ _ _ h => h) (Or.inl ⟨by rfl, ?_⟩) ?_ ?_
      rotate_left
      · intro w'
        go_simp
        with_reducible rfl
      rotate_left
      · simp only [Act.put, List.setIfInBounds_toArray, List.set_cons_zero, List.set_cons_succ, i64_w, i32_w]
        rfl
      refine pure_ (i := 32) (N := some 4) (v := ?_) (a' := ?_) #[true, true, true, true, true, true, true, true, true, true, true, true, true, true, true, true, true, true, true, true, true, true, true, true, true, true, true, true, true, true, true, true, true] rfl rfl (by kernel_rfl) (fun _ _ _ h => h) (Or.inl ⟨by rfl, ?_⟩) ?_ ?_
      rotate_left
      · intro w'
        go_simp
        with_reducible rfl
      rotate_left
      · simp only [Act.put, List.setIfInBounds_toArray, List.set_cons_zero, List.set_cons_succ, i64_w, i32_w]
        rfl
      refine done_ (by kernel_rfl) ?_
      go_wp2_with fail
      go_ret
      exact ⟨rfl, HB7.out⟩
end Go.Proofs.YtcgfheagbaafoaaDoor.Sets
