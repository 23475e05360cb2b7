/- A set of rows: where it lies. -/
import Derived.Test.YtcgfheagbaafoaaDoorWidth
import Derived.Test.YtcgfheagbaafoaaDoorClean
namespace Go.Proofs.YtcgfheagbaafoaaDoor.Sets
set_option linter.unusedVariables false
set_option linter.unusedSimpArgs false
open Go.RowKit Go.Proofs.YtcgfheagbaafoaaDoorW.PrintWords Go.Proofs.YtcgfheagbaafoaaDoorW.PrintLast Go.Proofs.YtcgfheagbaafoaaDoorW.PrintMore Go.Proofs.YtcgfheagbaafoaaDoor.Lib Go.Proofs.YtcgfheagbaafoaaDoor.Pack Go.Proofs.YtcgfheagbaafoaaDoor.PackA

def Words (ws : List Int) : Prop := ∀ x ∈ ws, 0 ≤ x ∧ x < 18446744073709551616
theorem Words.getD {ws : List Int} (h : Words ws) (k : Nat) : 0 ≤ ws.getD k 0 ∧ ws.getD k 0 < 18446744073709551616 := by
  rw [List.getD_eq_getElem?_getD]
  by_cases hk : k < ws.length
  · rw [List.getElem?_eq_getElem hk]; exact h _ (List.getElem_mem hk)
  · rw [List.getElem?_eq_none (by omega)]; simp
theorem Words.set {ws : List Int} (h : Words ws) (k : Nat) (v : Int) (hv : 0 ≤ v ∧ v < 18446744073709551616) : Words (ws.set k v) := by
  intro x hx
  rcases List.mem_or_eq_of_mem_set hx with h1 | rfl
  · exact h x h1
  · exact hv
theorem Words.zeros (n : Nat) : Words (List.replicate n 0) := by
  intro x hx
  rw [List.mem_replicate] at hx
  omega
def long64 (n : Nat) : Nat := (n + 63) / 64
/-- A set lies in block g. -/
def SetAt (w : World) (base g rows : Nat) (ws : List Int) : Prop :=
  base ≤ g ∧ rows ≤ 1048576 ∧ ws.length = long64 rows ∧ Words ws ∧ ∃ v, w.heap[g]? = some (.cells #[.int .i64 rows, v] 54 (0, 0)) ∧ Kd.R (Kd.int .u64) 51 w base (fun k => k ≠ g) v ws
section
variable {w w' : World} {base g rows : Nat} {ws : List Int}
theorem SetAt.below (h : SetAt w base g rows ws) (hb : Below w.heap.size w w') : SetAt w' base g rows ws := by
  obtain ⟨h1, h2, h3, h4, v, h5, h6⟩ := h
  exact ⟨h1, h2, h3, h4, v, blk_below h5 hb, Kd.R_below h6 hb⟩
theorem SetAt.drew (h : SetAt w base g rows ws) : SetAt w.drew base g rows ws := h.below (below_drew (Below.refl _ _))
theorem SetAt.lower (h : SetAt w base g rows ws) {b : Nat} (hb : b ≤ base) : SetAt w b g rows ws := by
  obtain ⟨h1, h2, h3, h4, v, h5, h6⟩ := h
  exact ⟨Nat.le_trans hb h1, h2, h3, h4, v, h5, Kd.R_lower h6 hb⟩
theorem SetAt.cells (h : SetAt w base g rows ws) : ∃ A c, w.cell? ⟨g, 0, none⟩ = some (.int .i64 rows) ∧ w.cell? ⟨g, 1, none⟩ = some (.slice A ws.length c) ∧ Kd.C (Kd.int .u64) w A ws.length ws ∧ ws.length ≤ c := by
  obtain ⟨h1, h2, h3, h4, v, h5, h6⟩ := h
  obtain ⟨A, c, rfl, hc, hC⟩ := Kd.R_reads h6
  refine ⟨A, c, ?_, ?_, hC, hc⟩
  · rw [cell_of_row w g 0 _ _ _ h5]; rfl
  · rw [cell_of_row w g 1 _ _ _ h5]; rfl
end

theorem or_row (wn r : Nat) (h : wn < 18446744073709551616) (hr : r < 64) : bits .or .u64 (wn : Int) (IntKind.u64.wrap (2 ^ r)) = ((wn ||| 2 ^ r : Nat) : Int) := by
  have h2 : 2 ^ r < 2 ^ 64 := Nat.pow_lt_pow_right (by decide) hr
  have e : (2 : Int) ^ r = ((2 ^ r : Nat) : Int) := by simp
  rw [e]
  generalize 2 ^ r = z at *
  have e2 : IntKind.u64.wrap ((z : Nat) : Int) = (z : Int) := by rw [IntKind.wrap_u64]; omega
  rw [e2]
  exact (bits_nat .u64 64 (by decide) wraps_u64 wn z (by omega) (by omega)).2

set_option maxRecDepth 100000 in
set_option maxHeartbeats 400000 in
theorem new_no (n : Int) (w : World) (h : n < 0 ∨ 1048576 < n) :
    Calls Tryd.prog 18 #[.int .i64 n] w fun e w' => e = .returned (.tuple #[.pointer none, .int .i64 1]) ∧ w = w' := by
  by_cases h0 : n < 0
  · go_enter Tryd.func18, Tryd.ntmps18
    go_wp2
    go_ret2
    exact ⟨rfl, rfl⟩
  · have h1 : 1048576 < n := by omega
    clear h
    go_enter Tryd.func18, Tryd.ntmps18
    go_wp2
    go_ret2
    exact ⟨rfl, rfl⟩

theorem info64 : (Tryd.prog.info? 51).map (fun i => (i.zero, i.size, i.bytes)) = some (some (.int .u64 0), 1, 8) := by kernel_rfl

set_option maxRecDepth 100000 in
set_option maxHeartbeats 400000 in
theorem new_calls (n : Nat) (w : World) (h : n ≤ 1048576) :
    Calls Tryd.prog 18 #[.int .i64 n] w fun e w' => ∃ g, e = .returned (.tuple #[.pointer (some ⟨g, 0, none⟩), .int .i64 0]) ∧ SetAt w' w.heap.size g n (List.replicate (long64 n) 0) ∧ Below w.heap.size w w' := by
  have HL := Aside0.mk (show (((n : Int) + 63) / 64).toNat = long64 n by unfold long64; omega)
  go_enter Tryd.func18, Tryd.ntmps18
  go_wp2_with (first
    | ((with_reducible refine gate_dst (N := 14) rfl ?_); refine Kd.R_make (Kd.int .u64) (w0 := w) w.heap.size 51 rfl (N := 14) rfl 52 _ _ rfl (((n : Int) + 63) / 64) rfl rfl Tryd.underlying52 (.int .u64 0) 8 info64 rfl (by decide) (by decide) (0 : Int) (ok := fun _ => True) (okp := fun _ => True) ?hz (fun _ h => h) trivial (by omega) (by omega) (Below.refl _ _) (Nat.le_refl _) ?_; (case hz => rfl); intro v6 w6 ho6 hb6 hg6 ha6; rw [HL.out] at ho6; obtain ⟨A6, c6, rfl, hc6, hC6⟩ := Kd.R_reads ho6; rw [List.length_replicate] at ho6 hc6 ⊢; clear hc6 hC6; have HO6 := Aside0.mk ho6; have HB6 := Aside0.mk hb6; clear ho6 hb6 hg6 ha6)
    | fail)
  go_ret2
  have h1 : Kd.R (Kd.int .u64) 51 w6 w.heap.size (fun k => k ≠ w6.heap.size) (.slice A6 (long64 n) c6) (List.replicate (long64 n) 0) := Kd.R_mono (Kd.R_bound HO6.out) (fun k hk => by have := hk.2.2.1; omega)
  refine ⟨w6.heap.size, rfl, ⟨HB6.out.size, h, by simp, Words.zeros _, _, heap_alloc_new _ _, Kd.R_below h1 (below_alloc (Below.refl _ _) _)⟩, HB6.out.alloc HB6.out.size _⟩

def putrow (ws : List Int) (row : Nat) : List Int := ws.set (row / 64) (((ws.getD (row / 64) 0).toNat ||| 2 ^ (row % 64) : Nat) : Int)

set_option maxRecDepth 100000 in
set_option maxHeartbeats 400000 in
theorem put_none (row : Int) (w : World) :
    Calls Tryd.prog 20 #[.pointer none, .int .i64 row] w fun e w' => e = .returned (.int .i64 1) ∧ w = w' := by
  go_enter Tryd.func20, Tryd.ntmps20
  go_wp2
  go_ret
  exact ⟨rfl, rfl⟩

set_option maxRecDepth 100000 in
set_option maxHeartbeats 400000 in
theorem put_no (w : World) (base g rows : Nat) (ws : List Int) (row : Int) (hs : SetAt w base g rows ws) (h : row < 0 ∨ (rows : Int) ≤ row) :
    Calls Tryd.prog 20 #[.pointer (some ⟨g, 0, none⟩), .int .i64 row] w fun e w' => e = .returned (.int .i64 1) ∧ w = w' := by
  obtain ⟨A, c, c0, c1, -, -⟩ := hs.cells
  by_cases h0 : row < 0
  · clear h hs
    go_enter Tryd.func20, Tryd.ntmps20
    go_wp2
    go_ret
    exact ⟨rfl, rfl⟩
  · have h1 : (rows : Int) ≤ row := by omega
    clear h hs
    go_enter Tryd.func20, Tryd.ntmps20
    go_wp2
    go_ret
    exact ⟨rfl, rfl⟩

set_option maxRecDepth 100000 in
set_option maxHeartbeats 400000 in
theorem put_far (w : World) (base g rows : Nat) (ws : List Int) (row : Nat) (hs : SetAt w base g rows ws) (h : row < rows) :
    Calls Tryd.prog 20 #[.pointer (some ⟨g, 0, none⟩), .int .i64 row] w fun e w' => e = .returned (.int .i64 0) ∧ SetAt w' base g rows (putrow ws row) ∧ Below base w w' ∧ ∃ g2 q x c, w.cell? ⟨g, 1, none⟩ = some (.slice (some ⟨g2, 0, none⟩) ws.length c) ∧ w' = (w.setCell ⟨g2, q, none⟩ x).drew := by
  obtain ⟨h1, h2, h3, h4, v, h5, h6⟩ := hs
  have hq : row / 64 < ws.length := by rw [h3]; unfold long64; omega
  obtain ⟨g2, c, rfl, hg2, hg3, -⟩ := Kd.R_form h6 (by omega)
  obtain ⟨hc1, hf1⟩ := R_at h6 (row / 64) hq
  have k0 : w.cell? ⟨g, 0, none⟩ = some (.int .i64 rows) := by rw [cell_of_row w g 0 _ _ _ h5]; rfl
  have k1 : w.cell? ⟨g, 1, none⟩ = some (.slice (some ⟨g2, 0, none⟩) ws.length c) := by rw [cell_of_row w g 1 _ _ _ h5]; rfl
  have hne : g2 ≠ g := h6.1 g2 rfl
  have HW := Aside0.mk h4
  have hwv := h4.getD (row / 64)
  obtain ⟨wn, hwn⟩ := Int.eq_ofNat_of_zero_le hwv.1
  have HP := Aside0.mk (R_set_at h6 (row / 64) (((ws.getD (row / 64) 0).toNat ||| 2 ^ (row % 64) : Nat) : Int))
  rw [hwn] at hc1 hwv HP
  have hwn2 : wn < 18446744073709551616 := by omega
  have hr9 : row % 64 < 64 := Nat.mod_lt _ (by decide)
  have hqi : ((row / 64 : Nat) : Int) < (ws.length : Int) := by omega
  have hrr : (row : Int) < (rows : Int) := by omega
  have hr4 : row ≤ 4611686018427387904 := by omega
  have hr8 : (row : Int).tmod 64 = ((row % 64 : Nat) : Int) := by rw [Int.tmod_eq_emod_of_nonneg (by omega)]; omega
  have hq8 : wrap64 ((row : Int) / 64) = ((row / 64 : Nat) : Int) := by
    rw [show (row : Int) / 64 = ((row / 64 : Nat) : Int) by omega]
    exact IntWalk.wrap64_in _ (by omega)
  have HQ := Aside0.mk (show putrow ws row = ws.set (row / 64) ((wn ||| 2 ^ (row % 64) : Nat) : Int) by unfold putrow; rw [hwn, Int.toNat_natCast])
  have H5 := Aside0.mk h5
  have H3 := Aside0.mk h3
  have H1 := Aside0.mk h1
  obtain ⟨q, hqq⟩ : ∃ q, row / 64 = q := ⟨_, rfl⟩
  obtain ⟨r, hrq⟩ : ∃ r, row % 64 = r := ⟨_, rfl⟩
  rw [hqq] at hq8 hqi hc1 hf1 HP HQ hq
  rw [hrq] at hr8 hr9 HP HQ
  rw [Int.toNat_natCast] at HP
  have HV := Aside0.mk (or_row wn r hwn2 hr9)
  have HOr : Aside0 (((wn ||| 2 ^ r : Nat) : Int) < 18446744073709551616) := ⟨by
    have := Nat.or_lt_two_pow (n := 64) (x := wn) (y := 2 ^ r) (by omega) (Nat.pow_lt_pow_right (by decide) hr9)
    omega⟩
  have HH := Aside0.mk (Below.refl base w)
  clear hqq hrq h6 h5 h3 h1 hwn hwv h4
  go_enter Tryd.func20, Tryd.ntmps20
  go_wp2_with fail
  refine start_ (n := 14) (S := fun w' => w'.cell? ⟨g, 1, none⟩ = some (.slice (some ⟨g2, 0, none⟩) ws.length c) ∧ w'.cell? ⟨g2, q, none⟩ = some (.int .u64 wn) ∧ w'.frozen? ⟨g2, q, none⟩ = false) (ds := [13]) #[false, false, false, false, false, false, false, false, false, false, false, false, false, false] (by kernel_rfl) rfl rfl ⟨k1, hc1, hf1⟩ (fun hHeld => ?_)
  refine pure_ (i := 0) (N := some 19) (v := ?_) (a' := ?_) #[true, false, false, false, false, false, false, false, false, false, false, false, false, false] rfl rfl (by kernel_rfl) (fun _ _ _ h => h) (Or.inl ⟨by rfl, ?_⟩) ?_ ?_
  rotate_left
  · intro w'
    go_simp
    with_reducible rfl
  rotate_left
  · simp only [Act.put, List.setIfInBounds_toArray, List.set_cons_zero, List.set_cons_succ, i64_w, i32_w]
    rfl
  refine pure_ (i := 1) (N := some 20) (v := ?_) (a' := ?_) #[true, true, false, false, false, false, false, false, false, false, false, false, false, false] rfl rfl (by kernel_rfl) (fun _ _ _ h => h) (Or.inl ⟨by rfl, ?_⟩) ?_ ?_
  rotate_left
  · intro w'
    go_simp
    with_reducible rfl
  rotate_left
  · simp only [Act.put, List.setIfInBounds_toArray, List.set_cons_zero, List.set_cons_succ, i64_w, i32_w]
    rfl
  refine pure_ (i := 2) (N := some 21) (v := ?_) (a' := ?_) #[true, true, true, false, false, false, false, false, false, false, false, false, false, false] rfl rfl (by kernel_rfl) (fun _ _ _ h => h) (Or.inl ⟨by rfl, ?_⟩) ?_ ?_
  rotate_left
  · intro w'
    go_simp
    with_reducible rfl
  rotate_left
  · simp only [Act.put, List.setIfInBounds_toArray, List.set_cons_zero, List.set_cons_succ, i64_w, i32_w]
    rfl
  refine pure_ (i := 4) (N := some 23) (v := ?_) (a' := ?_) #[true, true, true, false, true, false, false, false, false, false, false, false, false, false] rfl rfl (by kernel_rfl) (fun _ _ _ h => h) (Or.inl ⟨by rfl, ?_⟩) ?_ ?_
  rotate_left
  · intro w'
    go_simp
    with_reducible rfl
  rotate_left
  · simp only [Act.put, List.setIfInBounds_toArray, List.set_cons_zero, List.set_cons_succ, i64_w, i32_w]
    rfl
  refine pure_ (i := 5) (N := some 24) (v := ?_) (a' := ?_) #[true, true, true, false, true, true, false, false, false, false, false, false, false, false] rfl rfl (by kernel_rfl) (fun _ _ _ h => h) (Or.inl ⟨by rfl, ?_⟩) ?_ ?_
  rotate_left
  · intro w'
    go_simp
    with_reducible rfl
  rotate_left
  · simp only [Act.put, List.setIfInBounds_toArray, List.set_cons_zero, List.set_cons_succ, i64_w, i32_w]
    rfl
  refine pure_ (i := 8) (N := some 27) (v := ?_) (a' := ?_) #[true, true, true, false, true, true, false, false, true, false, false, false, false, false] rfl rfl (by kernel_rfl) (fun _ _ _ h => h) (Or.inl ⟨by rfl, ?_⟩) ?_ ?_
  rotate_left
  · intro w'
    go_simp
    with_reducible rfl
  rotate_left
  · simp only [Act.put, List.setIfInBounds_toArray, List.set_cons_zero, List.set_cons_succ, i64_w, i32_w]
    rfl
  refine pure_ (i := 9) (N := some 28) (v := ?_) (a' := ?_) #[true, true, true, false, true, true, false, false, true, true, false, false, false, false] rfl rfl (by kernel_rfl) (fun _ _ _ h => h) (Or.inl ⟨by rfl, ?_⟩) ?_ ?_
  rotate_left
  · intro w'
    go_simp
    with_reducible rfl
  rotate_left
  · simp only [Act.put, List.setIfInBounds_toArray, List.set_cons_zero, List.set_cons_succ, i64_w, i32_w]
    rfl
  refine pure_ (i := 10) (N := some 29) (v := ?_) (a' := ?_) #[true, true, true, false, true, true, false, false, true, true, true, false, false, false] rfl rfl (by kernel_rfl) (fun _ _ _ h => h) (Or.inl ⟨by rfl, ?_⟩) ?_ ?_
  rotate_left
  · intro w'
    go_simp
    with_reducible rfl
  rotate_left
  · simp only [Act.put, List.setIfInBounds_toArray, List.set_cons_zero, List.set_cons_succ, i64_w, i32_w]
    rfl
  refine take_ (i := 3) (N := some 22) (v := ?_) (a' := ?_) #[true, true, true, true, true, true, false, false, true, true, true, false, false, false] rfl rfl (by kernel_rfl) (fun _ _ _ h => h) (Or.inl ⟨by rfl, ?_⟩) hHeld ?_ ?_
  rotate_left
  · rintro w' ⟨s0, s1, s2⟩
    go_simp
    with_reducible rfl
  rotate_left
  · simp only [Act.put, List.setIfInBounds_toArray, List.set_cons_zero, List.set_cons_succ, i64_w, i32_w]
    rfl
  refine pure_ (i := 6) (N := some 25) (v := ?_) (a' := ?_) #[true, true, true, true, true, true, true, false, true, true, true, false, false, false] rfl rfl (by kernel_rfl) (fun _ _ _ h => h) (Or.inl ⟨by rfl, ?_⟩) ?_ ?_
  rotate_left
  · intro w'
    go_simp
    with_reducible rfl
  rotate_left
  · simp only [Act.put, List.setIfInBounds_toArray, List.set_cons_zero, List.set_cons_succ, i64_w, i32_w]
    rfl
  refine take_ (i := 7) (N := some 26) (v := ?_) (a' := ?_) #[true, true, true, true, true, true, true, true, true, true, true, false, false, false] rfl rfl (by kernel_rfl) (fun _ _ _ h => h) (Or.inl ⟨by rfl, ?_⟩) hHeld ?_ ?_
  rotate_left
  · rintro w' ⟨s0, s1, s2⟩
    go_simp
    with_reducible rfl
  rotate_left
  · simp only [Act.put, List.setIfInBounds_toArray, List.set_cons_zero, List.set_cons_succ, i64_w, i32_w]
    rfl
  refine pure_ (i := 11) (N := some 30) (v := ?_) (a' := ?_) #[true, true, true, true, true, true, true, true, true, true, true, true, false, false] rfl rfl (by kernel_rfl) (fun _ _ _ h => h) (Or.inl ⟨by rfl, ?_⟩) ?_ ?_
  rotate_left
  · intro w'
    go_simp
    with_reducible rfl
  rotate_left
  · simp only [Act.put, List.setIfInBounds_toArray, List.set_cons_zero, List.set_cons_succ, i64_w, i32_w]
    rfl
  refine pure_ (i := 12) (N := some 31) (v := ?_) (a' := ?_) #[true, true, true, true, true, true, true, true, true, true, true, true, true, false] rfl rfl (by kernel_rfl) (fun _ _ _ h => h) (Or.inl ⟨by rfl, ?_⟩) ?_ ?_
  rotate_left
  · intro w'
    go_simp
    with_reducible rfl
  rotate_left
  · simp only [Act.put, List.setIfInBounds_toArray, List.set_cons_zero, List.set_cons_succ, i64_w, i32_w]
    rfl
  refine last_ (i := 13) (N := none) #[true, true, true, true, true, true, true, true, true, true, true, true, true, true] rfl rfl (by kernel_rfl) (by decide) (fun K hK => ?_)
  refine skip_ (w1 := ?_) (by rfl) rfl ?_ ?_
  rotate_left
  · go_simp
    rfl
  refine hK.out _ _ ?_
  clear hK K
  refine done_ (by kernel_rfl) ?_
  go_wp2_with fail
  go_ret
  refine ⟨rfl, ?_, below_drew (HH.out.setCell hg2 _), g2, q, _, c, k1, rfl⟩
  rw [HV.out, HQ.out]
  refine SetAt.drew ⟨H1.out, h2, by rw [List.length_set]; exact H3.out, HW.out.set _ _ ⟨by omega, HOr.out⟩, _, blk_far H5.out (fun e => hne e.symm) _, ?_⟩
  exact HP.out
theorem put_calls (w : World) (base g rows : Nat) (ws : List Int) (row : Nat) (hs : SetAt w base g rows ws) (h : row < rows) :
    Calls Tryd.prog 20 #[.pointer (some ⟨g, 0, none⟩), .int .i64 row] w fun e w' => e = .returned (.int .i64 0) ∧ SetAt w' base g rows (putrow ws row) ∧ Below base w w' :=
  (put_far w base g rows ws row hs h).mono fun _ _ h => ⟨h.1, h.2.1, h.2.2.1⟩
end Go.Proofs.YtcgfheagbaafoaaDoor.Sets
