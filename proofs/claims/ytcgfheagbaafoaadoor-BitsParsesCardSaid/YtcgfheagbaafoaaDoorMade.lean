/- Sets: made word by word, And, Or, Not. -/
import Derived.Test.YtcgfheagbaafoaaDoorBoolSet
import Derived.Test.YtcgfheagbaafoaaDoorReg
namespace Go.Proofs.YtcgfheagbaafoaaDoor.Sets
set_option linter.unusedVariables false
set_option linter.unusedSimpArgs false
open Go.RowKit Go.Proofs.YtcgfheagbaafoaaDoorW.PrintWords Go.Proofs.YtcgfheagbaafoaaDoorW.PrintLast Go.Proofs.YtcgfheagbaafoaaDoorW.PrintMore Go.Proofs.YtcgfheagbaafoaaDoor.Lib Go.Proofs.YtcgfheagbaafoaaDoor.Pack Go.Proofs.YtcgfheagbaafoaaDoor.PackA

def made (wd : Nat → Nat) (k : Nat) : List Int := (List.range k).map fun i => ((wd i : Nat) : Int)
theorem made_length (wd : Nat → Nat) (k : Nat) : (made wd k).length = k := by simp [made]
theorem made_succ (wd : Nat → Nat) (k : Nat) : made wd (k + 1) = made wd k ++ [((wd k : Nat) : Int)] := by simp [made, List.range_succ]
theorem made_get (wd : Nat → Nat) (n k : Nat) (h : k < n) : (made wd n).getD k 0 = ((wd k : Nat) : Int) := by
  rw [List.getD_eq_getElem?_getD, List.getElem?_eq_getElem (by rw [made_length]; exact h)]
  simp [made]
theorem made_even (wd : Nat → Nat) (h : Nat → Bool) (rows : Nat) (hb : ∀ k, k < long64 rows → wd k < 18446744073709551616) (hw : ∀ k j, j < 64 → 64 * k + j < rows → (wd k).testBit j = h (64 * k + j)) (hr : rows % 64 = 0) : made wd (long64 rows) = wordsF h rows := by
  refine wordsF_eq _ _ _ (made_length _ _) (fun k hk => ?_)
  rw [made_get _ _ _ hk]
  refine congrArg Nat.cast (ofb_eq _ 64 _ (hb k hk) (fun j hj => ?_))
  have : 64 * k + j < rows := by unfold long64 at hk; omega
  rw [hw k j hj this]; simp [this]
theorem made_odd (wd : Nat → Nat) (h : Nat → Bool) (rows : Nat) (hb : ∀ k, k < long64 rows → wd k < 18446744073709551616) (hw : ∀ k j, j < 64 → 64 * k + j < rows → (wd k).testBit j = h (64 * k + j)) (hr : 0 < rows % 64) :
    (made wd (long64 rows)).set (long64 rows - 1) ((wd (long64 rows - 1) &&& (2 ^ (rows % 64) - 1) : Nat) : Int) = wordsF h rows := by
  have hn : 0 < long64 rows := by unfold long64; omega
  refine wordsF_eq _ _ _ (by rw [List.length_set, made_length]) (fun k hk => ?_)
  rw [getD_set, made_length]
  by_cases hkl : long64 rows - 1 = k
  · rw [if_pos ⟨hkl, by omega⟩]
    subst hkl
    refine congrArg Nat.cast (ofb_eq _ 64 _ (Nat.lt_of_le_of_lt Nat.and_le_left (hb _ hk)) (fun j hj => ?_))
    rw [Nat.testBit_and, Nat.testBit_two_pow_sub_one]
    have e : 64 * (long64 rows - 1) + rows % 64 = rows := by unfold long64; omega
    by_cases hjr : j < rows % 64
    · have : 64 * (long64 rows - 1) + j < rows := by omega
      rw [hw _ j hj this]; simp [this, hjr]
    · have : ¬ 64 * (long64 rows - 1) + j < rows := by omega
      simp [this, hjr]
  · rw [if_neg (fun h => hkl h.1), made_get _ _ _ hk]
    refine congrArg Nat.cast (ofb_eq _ 64 _ (hb k hk) (fun j hj => ?_))
    have : 64 * k + j < rows := by unfold long64 at hk hkl; omega
    rw [hw k j hj this]; simp [this]

set_option maxRecDepth 100000 in
set_option maxHeartbeats 1600000 in
theorem made_calls (w : World) (base g rows : Nat) (ws : List Int) (hs : SetAt w base g rows ws) (fn : Nat) (fd : Func) (cap : Array Value) (hf : Tryd.prog.funcs[fn]? = some fd) (hname : (fd.name == "runtime.NumGoroutine") = false) (hbody : fd.body.isSome = true)
    (wd : Nat → Nat) (h : Nat → Bool) (hwb : ∀ k, k < long64 rows → wd k < 18446744073709551616) (hwh : ∀ k j, j < 64 → 64 * k + j < rows → (wd k).testBit j = h (64 * k + j))
    (hword : ∀ (k : Nat) (w' : World), k < long64 rows → Below w.heap.size w w' → Calls Tryd.prog fn (#[] ++ #[.int .i64 k] ++ cap) w' fun e w'' => e = .returned (.int .u64 (wd k : Nat)) ∧ Drawn0 w' w'') :
    Calls Tryd.prog 28 #[.pointer (some ⟨g, 0, none⟩), .func (.func fn) #[] cap] w fun e w' => ∃ g2, e = .returned (.pointer (some ⟨g2, 0, none⟩)) ∧ SetAt w' w.heap.size g2 rows (wordsF h rows) ∧ Below w.heap.size w w' := by
  obtain ⟨A, c, c0, c1, -, -⟩ := hs.cells
  have HS := Aside0.mk hs
  have HWB := Aside0.mk hwb
  have HWH := Aside0.mk hwh
  have HWD := Aside0.mk hword
  have hrow := hs.2.1
  have hlen : ws.length = long64 rows := hs.2.2.1
  rw [hlen] at c1
  obtain ⟨n, hn⟩ : ∃ n, long64 rows = n := ⟨_, rfl⟩
  rw [hn] at c1
  have hn6 : n ≤ 16385 := by rw [← hn]; unfold long64; omega
  have HN := Aside0.mk hn
  have HF := Aside0.mk hf
  have HNm := Aside0.mk hname
  have HBd := Aside0.mk hbody
  clear hs hwb hwh hword hlen hn hf hname hbody
  go_enter Tryd.func28, Tryd.ntmps28
  go_wp2_with fail
  refine start_ (n := 13) (S := fun w' => w'.cell? ⟨g, 0, none⟩ = some (.int .i64 rows) ∧ w'.cell? ⟨g, 1, none⟩ = some (.slice A n c)) (ds := []) #[false, false, false, false, false, false, false, false, false, false, false, false, false] (by kernel_rfl) rfl rfl ⟨c0, c1⟩ (fun hHeld => ?_)
  refine pure_ (i := 0) (N := some 8) (v := ?_) (a' := ?_) #[true, false, false, false, false, false, false, false, false, false, false, false, false] rfl rfl (by kernel_rfl) (fun _ _ _ h => h) (Or.inl ⟨by rfl, ?_⟩) ?_ ?_
  rotate_left
  · intro w'
    go_simp
    with_reducible rfl
  rotate_left
  · simp only [Act.put, List.setIfInBounds_toArray, List.set_cons_zero, List.set_cons_succ, i64_w, i32_w]
    rfl
  refine pure_ (i := 1) (N := some 9) (v := ?_) (a' := ?_) #[true, true, false, false, false, false, false, false, false, false, false, false, false] rfl rfl (by kernel_rfl) (fun _ _ _ h => h) (Or.inl ⟨by rfl, ?_⟩) ?_ ?_
  rotate_left
  · intro w'
    go_simp
    with_reducible rfl
  rotate_left
  · simp only [Act.put, List.setIfInBounds_toArray, List.set_cons_zero, List.set_cons_succ, i64_w, i32_w]
    rfl
  refine pure_ (i := 2) (N := some 10) (v := ?_) (a' := ?_) #[true, true, true, false, false, false, false, false, false, false, false, false, false] rfl rfl (by kernel_rfl) (fun _ _ _ h => h) (Or.inl ⟨by rfl, ?_⟩) ?_ ?_
  rotate_left
  · intro w'
    go_simp
    with_reducible rfl
  rotate_left
  · simp only [Act.put, List.setIfInBounds_toArray, List.set_cons_zero, List.set_cons_succ, i64_w, i32_w]
    rfl
  refine pure_ (i := 4) (N := some 12) (v := ?_) (a' := ?_) #[true, true, true, false, true, false, false, false, false, false, false, false, false] rfl rfl (by kernel_rfl) (fun _ _ _ h => h) (Or.inl ⟨by rfl, ?_⟩) ?_ ?_
  rotate_left
  · intro w'
    go_simp
    with_reducible rfl
  rotate_left
  · simp only [Act.put, List.setIfInBounds_toArray, List.set_cons_zero, List.set_cons_succ, i64_w, i32_w]
    rfl
  refine pure_ (i := 5) (N := some 13) (v := ?_) (a' := ?_) #[true, true, true, false, true, true, false, false, false, false, false, false, false] rfl rfl (by kernel_rfl) (fun _ _ _ h => h) (Or.inl ⟨by rfl, ?_⟩) ?_ ?_
  rotate_left
  · intro w'
    go_simp
    with_reducible rfl
  rotate_left
  · simp only [Act.put, List.setIfInBounds_toArray, List.set_cons_zero, List.set_cons_succ, i64_w, i32_w]
    rfl
  refine pure_ (i := 6) (N := some 14) (v := ?_) (a' := ?_) #[true, true, true, false, true, true, true, false, false, false, false, false, false] rfl rfl (by kernel_rfl) (fun _ _ _ h => h) (Or.inl ⟨by rfl, ?_⟩) ?_ ?_
  rotate_left
  · intro w'
    go_simp
    with_reducible rfl
  rotate_left
  · simp only [Act.put, List.setIfInBounds_toArray, List.set_cons_zero, List.set_cons_succ, i64_w, i32_w]
    rfl
  refine take_ (i := 3) (N := some 11) (v := ?_) (a' := ?_) #[true, true, true, true, true, true, true, false, false, false, false, false, false] rfl rfl (by kernel_rfl) (fun _ _ _ h => h) (Or.inl ⟨by rfl, ?_⟩) hHeld ?_ ?_
  rotate_left
  · rintro w' ⟨s0, s1⟩
    go_simp
    with_reducible rfl
  rotate_left
  · simp only [Act.put, List.setIfInBounds_toArray, List.set_cons_zero, List.set_cons_succ, i64_w, i32_w]
    rfl
  refine take_ (i := 7) (N := some 15) (v := ?_) (a' := ?_) #[true, true, true, true, true, true, true, true, false, false, false, false, false] rfl rfl (by kernel_rfl) (fun _ _ _ h => h) (Or.inl ⟨by rfl, ?_⟩) hHeld ?_ ?_
  rotate_left
  · rintro w' ⟨s0, s1⟩
    go_simp
    with_reducible rfl
  rotate_left
  · simp only [Act.put, List.setIfInBounds_toArray, List.set_cons_zero, List.set_cons_succ, i64_w, i32_w]
    rfl
  refine pure_ (i := 8) (N := some 16) (v := ?_) (a' := ?_) #[true, true, true, true, true, true, true, true, true, false, false, false, false] rfl rfl (by kernel_rfl) (fun _ _ _ h => h) (Or.inl ⟨by rfl, ?_⟩) ?_ ?_
  rotate_left
  · intro w'
    go_simp
    with_reducible rfl
  rotate_left
  · simp only [Act.put, List.setIfInBounds_toArray, List.set_cons_zero, List.set_cons_succ, i64_w, i32_w]
    rfl
  refine one_ (i := 9) (N := some 17) #[true, true, true, true, true, true, true, true, true, true, false, false, false] rfl rfl (by kernel_rfl) (by decide) (fun K hK => ?_)
  refine Kd.R_make_step (Kd.int .u64) (w0 := w) w.heap.size 51 (by rfl) (N := 17) rfl 52 _ _ rfl (n : Int) rfl rfl Tryd.underlying52 (.int .u64 0) 8 info64 rfl (by decide) (by decide) (0 : Int) (ok := fun _ => True) (okp := fun _ => True) rfl (fun _ h => h) trivial (by omega) (by omega) (below_drew (Below.refl _ _)) (Nat.le_refl _) ?_
  intro v6 w6 ho6 hb6 hg6 ha6
  rw [Int.toNat_natCast] at ho6
  obtain ⟨A6, c6, rfl, hc6, hC6⟩ := Kd.R_reads ho6
  rw [List.length_replicate] at ho6 hc6 ⊢
  have HO6 := Aside0.mk ho6
  have HB6 := Aside0.mk hb6
  have k0 := pw_cell_below (below_then (Below.refl w.heap.size w) (Nat.le_refl _) hb6) c0
  have k1 := pw_cell_below (below_then (Below.refl w.heap.size w) (Nat.le_refl _) hb6) c1
  clear ho6 hb6 hg6 ha6 hC6
  refine hK.out _ _ ⟨k0, k1⟩ (fun hHeld => ?_)
  clear hK K
  refine norm_ (a' := ?_) ?_ ?_
  rotate_left
  · show Act.put _ (some 17) _ = _
    simp only [Act.put, List.setIfInBounds_toArray, List.set_cons_zero, List.set_cons_succ, i64_w, i32_w]
    rfl
  refine pure_ (i := 10) (N := some 18) (v := ?_) (a' := ?_) #[true, true, true, true, true, true, true, true, true, true, true, false, false] rfl rfl (by kernel_rfl) (fun _ _ _ h => h) (Or.inl ⟨by rfl, ?_⟩) ?_ ?_
  rotate_left
  · intro w'
    go_simp
    with_reducible rfl
  rotate_left
  · simp only [Act.put, List.setIfInBounds_toArray, List.set_cons_zero, List.set_cons_succ, i64_w, i32_w]
    rfl
  refine one_ (i := 11) (N := some 19) #[true, true, true, true, true, true, true, true, true, true, true, true, false] rfl rfl (by kernel_rfl) (by decide) (fun K hK => ?_)
  refine box_step (by rfl) (N := 19) rfl (cs := #[.int .i64 rows, .slice A6 n c6]) (t := 54) (by first | (go_simp; done) | (go_simp; rfl)) ?_
  intro g2 hg2 w7 hblk hb7
  have HG2 := Aside0.mk (show w.heap.size ≤ g2 by rw [hg2]; exact HB6.out.size)
  have HR7 := Aside0.mk (show Kd.R (Kd.int .u64) 51 w7 w.heap.size (fun k => k ≠ g2) (.slice A6 n c6) (List.replicate n 0) from Kd.R_below (Kd.R_mono (Kd.R_bound HO6.out) (fun k hk => by have := hk.2.2.1; omega)) hb7)
  have HB7 := Aside0.mk (below_then HB6.out HB6.out.size hb7)
  have HK7 := Aside0.mk hblk
  have k0' := pw_cell_below hb7 k0
  have k1' := pw_cell_below hb7 k1
  clear hblk hb7 hg2 HO6 HB6
  refine hK.out _ _ ⟨k0', k1'⟩ (fun hHeld => ?_)
  clear hK K
  refine norm_ (a' := ?_) ?_ ?_
  rotate_left
  · show Act.put _ (some 19) _ = _
    simp only [Act.put, List.setIfInBounds_toArray, List.set_cons_zero, List.set_cons_succ, i64_w, i32_w]
    rfl
  refine pure_ (i := 12) (N := some 5) (v := ?_) (a' := ?_) #[true, true, true, true, true, true, true, true, true, true, true, true, true] rfl rfl (by kernel_rfl) (fun _ _ _ h => h) (Or.inl ⟨by rfl, ?_⟩) ?_ ?_
  rotate_left
  · intro w'
    go_simp
    with_reducible rfl
  rotate_left
  · simp only [Act.put, List.setIfInBounds_toArray, List.set_cons_zero, List.set_cons_succ, i64_w, i32_w]
    rfl
  refine done_ (by kernel_rfl) ?_
  clear c0 c1 k0 k1 k0' k1'
  obtain ⟨A', c', d0, d1, -, -⟩ := (HS.out.below HB7.out).cells
  rw [show ws.length = n by rw [HS.out.2.2.1, HN.out]] at d1
  go_wp2_with fail
  clear d0 d1
  go_loopw [25] (fun kv w' => ∃ k : Nat, k ≤ n ∧ kv = .int .i64 k ∧ Aside0 (w'.heap[g2]? = some (.cells #[.int .i64 rows, .slice A6 n c6] 54 (0, 0))) ∧ Aside0 (Kd.R (Kd.int .u64) 51 w' w.heap.size (fun k => k ≠ g2) (.slice A6 n c6) (made wd k ++ List.replicate (n - k) 0)) ∧ Aside0 (Below w.heap.size w w')) (fun kv _ => n - (intOf kv).toNat)
  case atStart => exact ⟨0, Nat.zero_le _, rfl, HK7, ⟨by simpa [made] using HR7.out⟩, HB7⟩
  case round =>
    clear HK7 HR7 HB7
    obtain ⟨k, hk, rfl, HK, HO, HB⟩ := hrel
    by_cases hlt : k < n
    · obtain ⟨g6, rfl, hg6, -⟩ := R_plain HO.out (by omega)
      have hne : g6 ≠ g2 := HO.out.1 g6 rfl
      obtain ⟨hc2, hf2⟩ := R_at HO.out k hlt
      have e1 : wr.cell? ⟨g2, 1, none⟩ = some (.slice (some ⟨g6, 0, none⟩) n c6) := by rw [cell_of_row wr g2 1 _ _ _ HK.out]; rfl
      obtain ⟨old, hold⟩ : ∃ old, (made wd k ++ List.replicate (n - k) 0).getD k 0 = old := ⟨_, rfl⟩
      rw [hold] at hc2
      have HOld := Aside0.mk hold
      have HS2 := Aside0.mk (show made wd (k + 1) ++ List.replicate (n - (k + 1)) 0 = (made wd k ++ List.replicate (n - k) 0).set k ((wd k : Nat) : Int) by
        obtain ⟨d, hd⟩ : ∃ d, n - k = d + 1 := ⟨n - k - 1, by omega⟩
        rw [hd, List.replicate_succ, List.set_append_right _ _ (by rw [made_length]; exact Nat.le_refl _), made_length, Nat.sub_self, made_succ, show n - (k + 1) = d by omega]
        simp)
      clear hold
      go_wp2_with fail
      refine start_ (n := 10) (S := fun w' => w'.cell? ⟨g2, 1, none⟩ = some (.slice (some ⟨g6, 0, none⟩) n c6) ∧ w'.cell? ⟨g6, k, none⟩ = some (.int .u64 old) ∧ w'.frozen? ⟨g6, k, none⟩ = false) (ds := [9]) #[false, false, false, false, false, false, false, false, false, false] (by kernel_rfl) rfl rfl ⟨e1, hc2, hf2⟩ (fun hHeld => ?_)
      refine pure_ (i := 0) (N := some 28) (v := ?_) (a' := ?_) #[true, false, false, false, false, false, false, false, false, false] rfl rfl (by kernel_rfl) (fun _ _ _ h => h) (Or.inl ⟨by rfl, ?_⟩) ?_ ?_
      rotate_left
      · intro w'
        go_simp
        with_reducible rfl
      rotate_left
      · simp only [Act.put, List.setIfInBounds_toArray, List.set_cons_zero, List.set_cons_succ, i64_w, i32_w]
        rfl
      refine pure_ (i := 1) (N := some 29) (v := ?_) (a' := ?_) #[true, true, false, false, false, false, false, false, false, false] rfl rfl (by kernel_rfl) (fun _ _ _ h => h) (Or.inl ⟨by rfl, ?_⟩) ?_ ?_
      rotate_left
      · intro w'
        go_simp
        with_reducible rfl
      rotate_left
      · simp only [Act.put, List.setIfInBounds_toArray, List.set_cons_zero, List.set_cons_succ, i64_w, i32_w]
        rfl
      refine pure_ (i := 2) (N := some 30) (v := ?_) (a' := ?_) #[true, true, true, false, false, false, false, false, false, false] rfl rfl (by kernel_rfl) (fun _ _ _ h => h) (Or.inl ⟨by rfl, ?_⟩) ?_ ?_
      rotate_left
      · intro w'
        go_simp
        with_reducible rfl
      rotate_left
      · simp only [Act.put, List.setIfInBounds_toArray, List.set_cons_zero, List.set_cons_succ, i64_w, i32_w]
        rfl
      refine pure_ (i := 4) (N := some 32) (v := ?_) (a' := ?_) #[true, true, true, false, true, false, false, false, false, false] rfl rfl (by kernel_rfl) (fun _ _ _ h => h) (Or.inl ⟨by rfl, ?_⟩) ?_ ?_
      rotate_left
      · intro w'
        go_simp
        with_reducible rfl
      rotate_left
      · simp only [Act.put, List.setIfInBounds_toArray, List.set_cons_zero, List.set_cons_succ, i64_w, i32_w]
        rfl
      refine pure_ (i := 5) (N := some 33) (v := ?_) (a' := ?_) #[true, true, true, false, true, true, false, false, false, false] rfl rfl (by kernel_rfl) (fun _ _ _ h => h) (Or.inl ⟨by rfl, ?_⟩) ?_ ?_
      rotate_left
      · intro w'
        go_simp
        with_reducible rfl
      rotate_left
      · simp only [Act.put, List.setIfInBounds_toArray, List.set_cons_zero, List.set_cons_succ, i64_w, i32_w]
        rfl
      refine pure_ (i := 6) (N := some 34) (v := ?_) (a' := ?_) #[true, true, true, false, true, true, true, false, false, false] rfl rfl (by kernel_rfl) (fun _ _ _ h => h) (Or.inl ⟨by rfl, ?_⟩) ?_ ?_
      rotate_left
      · intro w'
        go_simp
        with_reducible rfl
      rotate_left
      · simp only [Act.put, List.setIfInBounds_toArray, List.set_cons_zero, List.set_cons_succ, i64_w, i32_w]
        rfl
      refine take_ (i := 3) (N := some 31) (v := ?_) (a' := ?_) #[true, true, true, true, true, true, true, false, false, false] rfl rfl (by kernel_rfl) (fun _ _ _ h => h) (Or.inl ⟨by rfl, ?_⟩) hHeld ?_ ?_
      rotate_left
      · rintro w' ⟨s0, s1, s2⟩
        go_simp
        with_reducible rfl
      rotate_left
      · simp only [Act.put, List.setIfInBounds_toArray, List.set_cons_zero, List.set_cons_succ, i64_w, i32_w]
        rfl
      refine one_ (i := 7) (N := some 35) #[true, true, true, true, true, true, true, true, false, false] rfl rfl (by kernel_rfl) (by decide) (fun K hK => ?_)
      refine goesv_ HF.out HNm.out HBd.out (#[.int .i64 k]) (by rfl) rfl rfl rfl (by simp only [List.map_toArray, List.map_cons, List.map_nil]; rfl) ?_
      with_reducible refine (HWD.out k _ (by rw [HN.out]; exact hlt) (below_drew HB.out)).mono ?_
      rintro e w3 ⟨rfl, hd⟩
      refine ⟨_, rfl, ?_⟩
      have hbd : Below wr.heap.size wr w3 := below_then (below_drew (Below.refl _ _)) (Nat.le_refl _) hd.below
      have HB3 := Aside0.mk (below_then HB.out HB.out.size hbd)
      have HO3 := Aside0.mk (Kd.R_below HO.out hbd)
      have HK3 := Aside0.mk (blk_below HK.out hbd)
      have e3 := pw_cell_below hbd e1
      obtain ⟨hc3, hf3⟩ := R_at HO3.out k hlt
      clear hd hbd HO HK HB
      refine hK.out _ _ ⟨e3, (by rw [← HOld.out]; exact hc3), hf3⟩ (fun hHeld => ?_)
      clear hK K
      refine norm_ (a' := ?_) ?_ ?_
      rotate_left
      · show Act.put _ (some 35) _ = _
        simp only [Act.put, List.setIfInBounds_toArray, List.set_cons_zero, List.set_cons_succ, i64_w, i32_w]
        rfl
      refine pure_ (i := 8) (N := some 36) (v := ?_) (a' := ?_) #[true, true, true, true, true, true, true, true, true, false] rfl rfl (by kernel_rfl) (fun _ _ _ h => h) (Or.inl ⟨by rfl, ?_⟩) ?_ ?_
      rotate_left
      · intro w'
        go_simp
        with_reducible rfl
      rotate_left
      · simp only [Act.put, List.setIfInBounds_toArray, List.set_cons_zero, List.set_cons_succ, i64_w, i32_w]
        rfl
      refine last_ (i := 9) (N := none) #[true, true, true, true, true, true, true, true, true, true] rfl rfl (by kernel_rfl) (by decide) (fun K hK => ?_)
      refine skip_ (w1 := ?_) (by rfl) rfl ?_ ?_
      rotate_left
      · go_simp
        rfl
      refine hK.out _ _ ?_
      clear hK K
      refine done_ (by kernel_rfl) ?_
      go_wp2_with fail
      go_roundw
      case rel => exact ⟨k + 1, by omega, by go_num, ⟨blk_far HK3.out (fun e => hne e.symm) _⟩, ⟨by rw [HS2.out]; exact R_set_at HO3.out k _⟩, ⟨below_set HB3.out hg6⟩⟩
      case measure => simp [intOf]; omega
    · obtain rfl : k = n := by omega
      have HO2 := Aside0.mk (show Kd.R (Kd.int .u64) 51 wr w.heap.size (fun k => k ≠ g2) (.slice A6 k c6) (made wd k) by simpa using HO.out)
      obtain ⟨A', c', d0, d1, -, -⟩ := (HS.out.below HB.out).cells
      have hmod : (rows : Int).tmod 64 = ((rows % 64 : Nat) : Int) := by rw [Int.tmod_eq_emod_of_nonneg (by omega)]; omega
      by_cases hr : rows % 64 = 0
      · have HE := Aside0.mk (made_even wd h rows HWB.out HWH.out hr)
        rw [HN.out] at HE
        clear d1
        have hm0 : (rows : Int).tmod 64 = 0 := by rw [hmod, hr]; rfl
        clear hr hmod
        go_wp2_with fail
        go_ret
        exact ⟨g2, rfl, ⟨HG2.out, hrow, by rw [wordsF_length], wordsF_words _ _, _, HK.out, by rw [← HE.out]; exact HO2.out⟩, HB.out⟩
      · have HE := Aside0.mk (made_odd wd h rows HWB.out HWH.out (by omega))
        rw [HN.out] at HE
        have hk0 : 0 < k := by rw [← HN.out]; unfold long64; omega
        obtain ⟨g6, rfl, hg6, -⟩ := R_plain HO2.out (by omega)
        have hne : g6 ≠ g2 := HO2.out.1 g6 rfl
        obtain ⟨q, hq⟩ : ∃ q, q = k - 1 := ⟨_, rfl⟩
        have hqk : q < k := by omega
        obtain ⟨hc2, hf2⟩ := R_at HO2.out q hqk
        rw [made_get _ _ _ hqk] at hc2
        rw [← hq] at HE
        have hwl := HWB.out q (by rw [HN.out]; exact hqk)
        have e1 : wr.cell? ⟨g2, 1, none⟩ = some (.slice (some ⟨g6, 0, none⟩) k c6) := by rw [cell_of_row wr g2 1 _ _ _ HK.out]; rfl
        have hr9 : rows % 64 < 64 := Nat.mod_lt _ (by decide)
        have hr1 : (0 : Int) < ((rows % 64 : Nat) : Int) := by omega
        have hr0 : decide ((0 : Int) < ((rows % 64 : Nat) : Int)) = true := decide_eq_true hr1
        have hqi : (k : Int) - 1 = (q : Int) := by omega
        have hwq : wrap64 (q : Int) = (q : Int) := IntWalk.wrap64_in _ (by omega)
        clear hr hk0 hq HO
        generalize rows % 64 = r at *
        generalize wd q = x at *
        have HM : Aside0 (((x &&& (2 ^ r - 1) : Nat) : Int) = bits .and .u64 (x : Int) (IntKind.u64.wrap (IntKind.u64.wrap (2 ^ r) - 1))) := ⟨by
          have hp : 2 ^ r < 2 ^ 64 := Nat.pow_lt_pow_right (by decide) hr9
          have hp1 : 0 < 2 ^ r := Nat.pow_pos (by decide)
          have e2 : (2 : Int) ^ r = ((2 ^ r : Nat) : Int) := by simp
          rw [e2, wrapu _ hp, show ((2 ^ r : Nat) : Int) - 1 = ((2 ^ r - 1 : Nat) : Int) by omega, wrapu _ (by omega), and64 _ _ hwl (by omega)]⟩
        go_wp2_with fail
        refine start_ (n := 18) (S := fun w' => w'.cell? ⟨g2, 1, none⟩ = some (.slice (some ⟨g6, 0, none⟩) k c6) ∧ w'.cell? ⟨g6, q, none⟩ = some (.int .u64 x) ∧ w'.frozen? ⟨g6, q, none⟩ = false) (ds := [17]) #[false, false, false, false, false, false, false, false, false, false, false, false, false, false, false, false, false, false] (by kernel_rfl) rfl rfl ⟨e1, hc2, hf2⟩ (fun hHeld => ?_)
        refine pure_ (i := 0) (N := some 45) (v := ?_) (a' := ?_) #[true, false, false, false, false, false, false, false, false, false, false, false, false, false, false, false, false, false] rfl rfl (by kernel_rfl) (fun _ _ _ h => h) (Or.inl ⟨by rfl, ?_⟩) ?_ ?_
        rotate_left
        · intro w'
          go_simp
          with_reducible rfl
        rotate_left
        · simp only [Act.put, List.setIfInBounds_toArray, List.set_cons_zero, List.set_cons_succ, i64_w, i32_w]
          rfl
        refine pure_ (i := 1) (N := some 46) (v := ?_) (a' := ?_) #[true, true, false, false, false, false, false, false, false, false, false, false, false, false, false, false, false, false] rfl rfl (by kernel_rfl) (fun _ _ _ h => h) (Or.inl ⟨by rfl, ?_⟩) ?_ ?_
        rotate_left
        · intro w'
          go_simp
          with_reducible rfl
        rotate_left
        · simp only [Act.put, List.setIfInBounds_toArray, List.set_cons_zero, List.set_cons_succ, i64_w, i32_w]
          rfl
        refine pure_ (i := 2) (N := some 47) (v := ?_) (a' := ?_) #[true, true, true, false, false, false, false, false, false, false, false, false, false, false, false, false, false, false] rfl rfl (by kernel_rfl) (fun _ _ _ h => h) (Or.inl ⟨by rfl, ?_⟩) ?_ ?_
        rotate_left
        · intro w'
          go_simp
          with_reducible rfl
        rotate_left
        · simp only [Act.put, List.setIfInBounds_toArray, List.set_cons_zero, List.set_cons_succ, i64_w, i32_w]
          rfl
        refine pure_ (i := 4) (N := some 49) (v := ?_) (a' := ?_) #[true, true, true, false, true, false, false, false, false, false, false, false, false, false, false, false, false, false] rfl rfl (by kernel_rfl) (fun _ _ _ h => h) (Or.inl ⟨by rfl, ?_⟩) ?_ ?_
        rotate_left
        · intro w'
          go_simp
          with_reducible rfl
        rotate_left
        · simp only [Act.put, List.setIfInBounds_toArray, List.set_cons_zero, List.set_cons_succ, i64_w, i32_w]
          rfl
        refine pure_ (i := 5) (N := some 50) (v := ?_) (a' := ?_) #[true, true, true, false, true, true, false, false, false, false, false, false, false, false, false, false, false, false] rfl rfl (by kernel_rfl) (fun _ _ _ h => h) (Or.inl ⟨by rfl, ?_⟩) ?_ ?_
        rotate_left
        · intro w'
          go_simp
          with_reducible rfl
        rotate_left
        · simp only [Act.put, List.setIfInBounds_toArray, List.set_cons_zero, List.set_cons_succ, i64_w, i32_w]
          rfl
        refine pure_ (i := 6) (N := some 51) (v := ?_) (a' := ?_) #[true, true, true, false, true, true, true, false, false, false, false, false, false, false, false, false, false, false] rfl rfl (by kernel_rfl) (fun _ _ _ h => h) (Or.inl ⟨by rfl, ?_⟩) ?_ ?_
        rotate_left
        · intro w'
          go_simp
          with_reducible rfl
        rotate_left
        · simp only [Act.put, List.setIfInBounds_toArray, List.set_cons_zero, List.set_cons_succ, i64_w, i32_w]
          rfl
        refine pure_ (i := 12) (N := some 57) (v := ?_) (a' := ?_) #[true, true, true, false, true, true, true, false, false, false, false, false, true, false, false, false, false, false] rfl rfl (by kernel_rfl) (fun _ _ _ h => h) (Or.inl ⟨by rfl, ?_⟩) ?_ ?_
        rotate_left
        · intro w'
          go_simp
          with_reducible rfl
        rotate_left
        · simp only [Act.put, List.setIfInBounds_toArray, List.set_cons_zero, List.set_cons_succ, i64_w, i32_w]
          rfl
        refine pure_ (i := 13) (N := some 58) (v := ?_) (a' := ?_) #[true, true, true, false, true, true, true, false, false, false, false, false, true, true, false, false, false, false] rfl rfl (by kernel_rfl) (fun _ _ _ h => h) (Or.inl ⟨by rfl, ?_⟩) ?_ ?_
        rotate_left
        · intro w'
          go_simp
          with_reducible rfl
        rotate_left
        · simp only [Act.put, List.setIfInBounds_toArray, List.set_cons_zero, List.set_cons_succ, i64_w, i32_w]
          rfl
        refine pure_ (i := 14) (N := some 59) (v := ?_) (a' := ?_) #[true, true, true, false, true, true, true, false, false, false, false, false, true, true, true, false, false, false] rfl rfl (by kernel_rfl) (fun _ _ _ h => h) (Or.inl ⟨by rfl, ?_⟩) ?_ ?_
        rotate_left
        · intro w'
          go_simp
          with_reducible rfl
        rotate_left
        · simp only [Act.put, List.setIfInBounds_toArray, List.set_cons_zero, List.set_cons_succ, i64_w, i32_w]
          rfl
        refine take_ (i := 3) (N := some 48) (v := ?_) (a' := ?_) #[true, true, true, true, true, true, true, false, false, false, false, false, true, true, true, false, false, false] rfl rfl (by kernel_rfl) (fun _ _ _ h => h) (Or.inl ⟨by rfl, ?_⟩) hHeld ?_ ?_
        rotate_left
        · rintro w' ⟨s0, s1, s2⟩
          go_simp
          with_reducible rfl
        rotate_left
        · simp only [Act.put, List.setIfInBounds_toArray, List.set_cons_zero, List.set_cons_succ, i64_w, i32_w]
          rfl
        refine take_ (i := 7) (N := some 52) (v := ?_) (a' := ?_) #[true, true, true, true, true, true, true, true, false, false, false, false, true, true, true, false, false, false] rfl rfl (by kernel_rfl) (fun _ _ _ h => h) (Or.inl ⟨by rfl, ?_⟩) hHeld ?_ ?_
        rotate_left
        · rintro w' ⟨s0, s1, s2⟩
          go_simp
          with_reducible rfl
        rotate_left
        · simp only [Act.put, List.setIfInBounds_toArray, List.set_cons_zero, List.set_cons_succ, i64_w, i32_w]
          rfl
        refine pure_ (i := 8) (N := some 53) (v := ?_) (a' := ?_) #[true, true, true, true, true, true, true, true, true, false, false, false, true, true, true, false, false, false] rfl rfl (by kernel_rfl) (fun _ _ _ h => h) (Or.inl ⟨by rfl, ?_⟩) ?_ ?_
        rotate_left
        · intro w'
          go_simp
          with_reducible rfl
        rotate_left
        · simp only [Act.put, List.setIfInBounds_toArray, List.set_cons_zero, List.set_cons_succ, i64_w, i32_w]
          rfl
        refine pure_ (i := 9) (N := some 54) (v := ?_) (a' := ?_) #[true, true, true, true, true, true, true, true, true, true, false, false, true, true, true, false, false, false] rfl rfl (by kernel_rfl) (fun _ _ _ h => h) (Or.inl ⟨by rfl, ?_⟩) ?_ ?_
        rotate_left
        · intro w'
          go_simp
          with_reducible rfl
        rotate_left
        · simp only [Act.put, List.setIfInBounds_toArray, List.set_cons_zero, List.set_cons_succ, i64_w, i32_w]
          rfl
        refine pure_ (i := 10) (N := some 55) (v := ?_) (a' := ?_) #[true, true, true, true, true, true, true, true, true, true, true, false, true, true, true, false, false, false] rfl rfl (by kernel_rfl) (fun _ _ _ h => h) (Or.inl ⟨by rfl, ?_⟩) ?_ ?_
        rotate_left
        · intro w'
          go_simp
          with_reducible rfl
        rotate_left
        · simp only [Act.put, List.setIfInBounds_toArray, List.set_cons_zero, List.set_cons_succ, i64_w, i32_w]
          rfl
        refine take_ (i := 11) (N := some 56) (v := ?_) (a' := ?_) #[true, true, true, true, true, true, true, true, true, true, true, true, true, true, true, false, false, false] rfl rfl (by kernel_rfl) (fun _ _ _ h => h) (Or.inl ⟨by rfl, ?_⟩) hHeld ?_ ?_
        rotate_left
        · rintro w' ⟨s0, s1, s2⟩
          go_simp
          with_reducible rfl
        rotate_left
        · simp only [Act.put, List.setIfInBounds_toArray, List.set_cons_zero, List.set_cons_succ, i64_w, i32_w]
          rfl
        refine pure_ (i := 15) (N := some 60) (v := ?_) (a' := ?_) #[true, true, true, true, true, true, true, true, true, true, true, true, true, true, true, true, false, false] rfl rfl (by kernel_rfl) (fun _ _ _ h => h) (Or.inl ⟨by rfl, ?_⟩) ?_ ?_
        rotate_left
        · intro w'
          go_simp
          with_reducible rfl
        rotate_left
        · simp only [Act.put, List.setIfInBounds_toArray, List.set_cons_zero, List.set_cons_succ, i64_w, i32_w]
          rfl
        refine pure_ (i := 16) (N := some 61) (v := ?_) (a' := ?_) #[true, true, true, true, true, true, true, true, true, true, true, true, true, true, true, true, true, false] rfl rfl (by kernel_rfl) (fun _ _ _ h => h) (Or.inl ⟨by rfl, ?_⟩) ?_ ?_
        rotate_left
        · intro w'
          go_simp
          with_reducible rfl
        rotate_left
        · simp only [Act.put, List.setIfInBounds_toArray, List.set_cons_zero, List.set_cons_succ, i64_w, i32_w]
          rfl
        refine last_ (i := 17) (N := none) #[true, true, true, true, true, true, true, true, true, true, true, true, true, true, true, true, true, true] rfl rfl (by kernel_rfl) (by decide) (fun K hK => ?_)
        refine skip_ (w1 := ?_) (by rfl) rfl ?_ ?_
        rotate_left
        · go_simp
          rfl
        refine hK.out _ _ ?_
        clear hK K
        refine done_ (by kernel_rfl) ?_
        go_wp2_with fail
        go_ret
        refine ⟨g2, rfl, ⟨HG2.out, hrow, by rw [wordsF_length, HN.out], wordsF_words _ _, _, blk_drew (blk_far HK.out (fun e => hne e.symm) _), ?_⟩, below_drew (below_set HB.out hg6)⟩
        rw [← HE.out, HM.out]
        exact Kd.R_drew (R_set_at HO2.out q _)
end Go.Proofs.YtcgfheagbaafoaaDoor.Sets
