import Derived.Test.YtobddbkffefbkaaFrame
import Derived.Deep.RegionWith
namespace Go.Proofs.Ytobddbkffefbkaa.Bas
set_option linter.unusedVariables false
set_option linter.unusedSimpArgs false
open Go.RowKit Go.Proofs.YtobddbkffefbkaaW.PrintWords Go.Proofs.YtobddbkffefbkaaW.PrintLast Go.Proofs.YtobddbkffefbkaaW.PrintMore Go.Proofs.Ytobddbkffefbkaa.Lib

def unframe (xs : List Int) : List Int × Int :=
  if xs.length < 8 then ([], 10)
  else if 1048576 < xs.length - 8 ∨ (xs.take 8).drop 4 ≠ le4 (xs.length - 8) then ([], 12)
  else if xs.take 4 ≠ le4 (Crc.sum (xs.drop 4)) then ([], 11)
  else (xs.drop 8, 0)

set_option maxRecDepth 100000 in
set_option maxHeartbeats 400000 in
theorem unframe_short (xs : List Int) (A : Option Addr) (c : Nat) (w : World) (h : xs.length < 8) :
    Calls Try.prog 15 #[.slice A xs.length c] w fun e w' => e = .returned (.tuple #[.slice none 0 0, .int .i64 10]) ∧ w = w' := by
  go_enter Try.func15, Try.ntmps15
  go_wp2
  go_ret2
  exact ⟨rfl, rfl⟩

set_option maxRecDepth 100000 in
set_option maxHeartbeats 400000 in
theorem unframe_long (xs : List Int) (A : Option Addr) (c : Nat) (w : World) (h : 8 ≤ xs.length) (h2 : 1048576 < xs.length - 8) (hm : xs.length ≤ 9223372036854775807) :
    Calls Try.prog 15 #[.slice A xs.length c] w fun e w' => e = .returned (.tuple #[.slice none 0 0, .int .i64 12]) ∧ ∃ n, w' = w.drewN n := by
  have hg : decide ((1048576 : Int) < (xs.length : Int) - 8) = true := decide_eq_true (by omega)
  have hs : IntKind.i64.wrap ((xs.length : Int) - 8) = (xs.length : Int) - 8 := IntWalk.i64_in _ (by omega)
  go_enter Try.func15, Try.ntmps15
  go_wp2
  go_quiet (fail)
  go_wp2
  go_ret2
  exact ⟨rfl, _, rfl⟩

set_option maxRecDepth 100000 in
set_option maxHeartbeats 1000000 in
theorem unframe_rest (xs : List Int) (A : Option Addr) (c : Nat) (w : World) (hr : Kd.C (Kd.int .u8) w A xs.length xs) (hb : Bytes xs) (h : 8 ≤ xs.length) (h2 : xs.length - 8 ≤ 1048576) (hc : xs.length ≤ c) :
    Calls Try.prog 15 #[.slice A xs.length c] w fun e w' => ∃ v, e = .returned (.tuple #[v, .int .i64 (unframe xs).2]) ∧ Kd.R (Kd.int .u8) 5 w' w.heap.size (fun _ => True) v (unframe xs).1 ∧ Below w.heap.size w w' := by
  obtain ⟨b, o, rfl⟩ := C_plain hr (by omega)
  have HX := Aside0.mk hb
  have hc8 : (8 : Int) ≤ (c : Int) := by omega
  have hc4 : ¬ c = 4 := by omega
  have hc4' : (4 : Int) ≤ (c : Int) := by omega
  have hl4 : (4 : Int) ≤ (xs.length : Int) := by omega
  have hl8 : (8 : Int) ≤ (xs.length : Int) := by omega
  have HC8 := Aside0.mk (show Kd.C (Kd.int .u8) w (if c = 8 then some ⟨b, o, none⟩ else some ⟨b, o + 8, none⟩) (xs.length - 8) (xs.drop 8) by
    have h1 := Kd.C_drop hr (show 8 ≤ xs.length by omega) hc
    rw [List.length_drop] at h1
    simp only [Option.map_some, add_at] at h1
    exact h1)
  obtain ⟨m4, HM⟩ : ∃ m4, Aside0 (m4 = (xs.take 8).drop 4 ∧ m4.length = 4 ∧ Kd.C (Kd.int .u8) w (some ⟨b, o + 4, none⟩) 4 m4) := by
    refine ⟨_, ⟨rfl, by simp; omega, ?_⟩⟩
    have h1 := C_mid_at hr (lo := 4) (hi := 8) (by omega) (by omega) hc hc4
    rw [show ((xs.take 8).drop 4).length = 4 by simp; omega] at h1
    exact h1
  obtain ⟨l4, HL⟩ : ∃ l4, Aside0 (l4 = xs.take 4 ∧ Kd.C (Kd.int .u8) w (some ⟨b, o, none⟩) 4 l4) := by
    refine ⟨_, ⟨rfl, ?_⟩⟩
    have h1 := Kd.C_take hr (show 4 ≤ xs.length by omega)
    rw [show (xs.take 4).length = 4 by simp; omega] at h1
    exact h1
  obtain ⟨d4, HD⟩ : ∃ d4, Aside0 (d4 = xs.drop 4 ∧ Bytes d4 ∧ Kd.C (Kd.int .u8) w (some ⟨b, o + 4, none⟩) (xs.length - 4) d4) := by
    refine ⟨_, ⟨rfl, hb.drop 4, ?_⟩⟩
    have h1 := C_drop_at hr (lo := 4) (by omega) hc hc4
    rw [List.length_drop] at h1
    exact h1
  have HR := Aside0.mk hr
  clear hr hb
  obtain ⟨n8, HN⟩ : ∃ n8, Aside0 (n8 = xs.length - 8) := ⟨_, ⟨rfl⟩⟩
  have hn8 : n8 < 4294967296 := by have := HN.out; omega
  have hu : IntKind.u32.wrap ((xs.length : Int) - 8) = (n8 : Int) := by have := HN.out; rw [IntKind.wrap_u32]; omega
  have hg : decide ((1048576 : Int) < (xs.length : Int) - 8) = false := decide_eq_false (by omega)
  have hg8 : decide ((xs.length : Int) < 8) = false := decide_eq_false (by omega)
  have hs : IntKind.i64.wrap ((xs.length : Int) - 8) = (xs.length : Int) - 8 := IntWalk.i64_in _ (by omega)
  go_enter Try.func15, Try.ntmps15
  go_wp2_with fail
  refine start_ (n := 16) (S := fun w' => True) (ds := []) #[false, false, false, false, false, false, false, false, false, false, false, false, false, false, false, false] (by kernel_rfl) rfl rfl trivial (fun hHeld => ?_)
  refine pure_ (i := 0) (N := some 10) (v := ?_) (a' := ?_) #[true, false, false, false, false, false, false, false, false, false, false, false, false, false, false, false] rfl rfl (by kernel_rfl) (fun _ _ _ h => h) (Or.inl ⟨by rfl, ?_⟩) ?_ ?_
  rotate_left
  · intro w'
    go_simp
    with_reducible rfl
  rotate_left
  · simp only [Act.put, List.setIfInBounds_toArray, List.set_cons_zero, List.set_cons_succ, i64_w, i32_w]
    rfl
  refine pure_ (i := 1) (N := some 11) (v := ?_) (a' := ?_) #[true, true, false, false, false, false, false, false, false, false, false, false, false, false, false, false] rfl rfl (by kernel_rfl) (fun _ _ _ h => h) (Or.inl ⟨by rfl, ?_⟩) ?_ ?_
  rotate_left
  · intro w'
    go_simp
    with_reducible rfl
  rotate_left
  · simp only [Act.put, List.setIfInBounds_toArray, List.set_cons_zero, List.set_cons_succ, i64_w, i32_w]
    rfl
  refine pure_ (i := 2) (N := some 12) (v := ?_) (a' := ?_) #[true, true, true, false, false, false, false, false, false, false, false, false, false, false, false, false] rfl rfl (by kernel_rfl) (fun _ _ _ h => h) (Or.inl ⟨by rfl, ?_⟩) ?_ ?_
  rotate_left
  · intro w'
    go_simp
    with_reducible rfl
  rotate_left
  · simp only [Act.put, List.setIfInBounds_toArray, List.set_cons_zero, List.set_cons_succ, i64_w, i32_w]
    rfl
  refine pure_ (i := 3) (N := some 13) (v := ?_) (a' := ?_) #[true, true, true, true, false, false, false, false, false, false, false, false, false, false, false, false] rfl rfl (by kernel_rfl) (fun _ _ _ h => h) (Or.inl ⟨by rfl, ?_⟩) ?_ ?_
  rotate_left
  · intro w'
    go_simp
    with_reducible rfl
  rotate_left
  · simp only [Act.put, List.setIfInBounds_toArray, List.set_cons_zero, List.set_cons_succ, i64_w, i32_w]
    rfl
  refine pure_ (i := 4) (N := some 14) (v := ?_) (a' := ?_) #[true, true, true, true, true, false, false, false, false, false, false, false, false, false, false, false] rfl rfl (by kernel_rfl) (fun _ _ _ h => h) (Or.inl ⟨by rfl, ?_⟩) ?_ ?_
  rotate_left
  · intro w'
    go_simp
    with_reducible rfl
  rotate_left
  · simp only [Act.put, List.setIfInBounds_toArray, List.set_cons_zero, List.set_cons_succ, i64_w, i32_w]
    rfl
  refine pure_ (i := 5) (N := some 15) (v := ?_) (a' := ?_) #[true, true, true, true, true, true, false, false, false, false, false, false, false, false, false, false] rfl rfl (by kernel_rfl) (fun _ _ _ h => h) (Or.inl ⟨by rfl, ?_⟩) ?_ ?_
  rotate_left
  · intro w'
    go_simp
    with_reducible rfl
  rotate_left
  · simp only [Act.put, List.setIfInBounds_toArray, List.set_cons_zero, List.set_cons_succ, i64_w, i32_w]
    rfl
  refine pure_ (i := 6) (N := some 16) (v := ?_) (a' := ?_) #[true, true, true, true, true, true, true, false, false, false, false, false, false, false, false, false] rfl rfl (by kernel_rfl) (fun _ _ _ h => h) (Or.inl ⟨by rfl, ?_⟩) ?_ ?_
  rotate_left
  · intro w'
    go_simp
    with_reducible rfl
  rotate_left
  · simp only [Act.put, List.setIfInBounds_toArray, List.set_cons_zero, List.set_cons_succ, i64_w, i32_w]
    rfl
  refine pure_ (i := 7) (N := some 17) (v := ?_) (a' := ?_) #[true, true, true, true, true, true, true, true, false, false, false, false, false, false, false, false] rfl rfl (by kernel_rfl) (fun _ _ _ h => h) (Or.inl ⟨by rfl, ?_⟩) ?_ ?_
  rotate_left
  · intro w'
    go_simp
    with_reducible rfl
  rotate_left
  · simp only [Act.put, List.setIfInBounds_toArray, List.set_cons_zero, List.set_cons_succ, i64_w, i32_w]
    rfl
  refine pure_ (i := 8) (N := some 18) (v := ?_) (a' := ?_) #[true, true, true, true, true, true, true, true, true, false, false, false, false, false, false, false] rfl rfl (by kernel_rfl) (fun _ _ _ h => h) (Or.inl ⟨by rfl, ?_⟩) ?_ ?_
  rotate_left
  · intro w'
    go_simp
    with_reducible rfl
  rotate_left
  · simp only [Act.put, List.setIfInBounds_toArray, List.set_cons_zero, List.set_cons_succ, i64_w, i32_w]
    rfl
  refine pure_ (i := 9) (N := some 19) (v := ?_) (a' := ?_) #[true, true, true, true, true, true, true, true, true, true, false, false, false, false, false, false] rfl rfl (by kernel_rfl) (fun _ _ _ h => h) (Or.inl ⟨by rfl, ?_⟩) ?_ ?_
  rotate_left
  · intro w'
    go_simp
    with_reducible rfl
  rotate_left
  · simp only [Act.put, List.setIfInBounds_toArray, List.set_cons_zero, List.set_cons_succ, i64_w, i32_w]
    rfl
  refine pure_ (i := 10) (N := some 20) (v := ?_) (a' := ?_) #[true, true, true, true, true, true, true, true, true, true, true, false, false, false, false, false] rfl rfl (by kernel_rfl) (fun _ _ _ h => h) (Or.inl ⟨by rfl, ?_⟩) ?_ ?_
  rotate_left
  · intro w'
    go_simp
    with_reducible rfl
  rotate_left
  · simp only [Act.put, List.setIfInBounds_toArray, List.set_cons_zero, List.set_cons_succ, i64_w, i32_w]
    rfl
  refine one_ (i := 11) (N := some 21) #[true, true, true, true, true, true, true, true, true, true, true, true, false, false, false, false] rfl rfl (by kernel_rfl) (by decide) (fun K hK => ?_)
  refine goes_ Try.func41 (by kernel_rfl) rfl #[.int .u32 n8] (by rfl) rfl rfl (by simp only [List.map_toArray, List.map_cons, List.map_nil]; rfl) ?_
  with_reducible refine (four_calls n8 _ hn8).mono ?_
  rintro e w1 ⟨v1, rfl, ho, hb⟩
  refine ⟨_, rfl, ?_⟩
  obtain ⟨A1, c1, rfl, hc1, hC1⟩ := Kd.R_reads ho
  rw [le4_length] at hC1 hc1 ⊢
  have HB1 := Aside0.mk (below_then (below_drew (Below.refl w.heap.size w)) (Nat.le_refl _) hb)
  have HC1 := Aside0.mk hC1
  clear ho hb hC1
  refine hK.out _ _ trivial (fun hHeld => ?_)
  clear hK K
  refine norm_ (a' := ?_) ?_ ?_
  rotate_left
  · show Act.put _ (some 21) _ = _
    simp only [Act.put, List.setIfInBounds_toArray, List.set_cons_zero, List.set_cons_succ, i64_w, i32_w]
    rfl
  refine one_ (i := 12) (N := some 22) #[true, true, true, true, true, true, true, true, true, true, true, true, true, false, false, false] rfl rfl (by kernel_rfl) (by decide) (fun K hK => ?_)
  refine goes_ Try.func42 (by kernel_rfl) rfl #[.slice (some ⟨b, o + 4, none⟩) 4 (c - 4), .slice A1 4 c1] (by rfl) rfl rfl (by simp only [List.map_toArray, List.map_cons, List.map_nil]; rfl) ?_
  with_reducible refine (equal_calls' m4 (le4 n8) 4 4 _ _ _ _ _ (Kd.C_below HM.out.2.2 HB1.out) HC1.out).mono ?_
  rintro e w2 ⟨rfl, hd⟩
  refine ⟨_, rfl, ?_⟩
  have HB2 := Aside0.mk (below_then HB1.out HB1.out.size hd.below)
  clear hd
  refine hK.out _ _ trivial (fun hHeld => ?_)
  clear hK K
  refine norm_ (a' := ?_) ?_ ?_
  rotate_left
  · show Act.put _ (some 22) _ = _
    simp only [Act.put, List.setIfInBounds_toArray, List.set_cons_zero, List.set_cons_succ, i64_w, i32_w]
    rfl
  refine pure_ (i := 13) (N := some 23) (v := ?_) (a' := ?_) #[true, true, true, true, true, true, true, true, true, true, true, true, true, true, false, false] rfl rfl (by kernel_rfl) (fun _ _ _ h => h) (Or.inl ⟨by rfl, ?_⟩) ?_ ?_
  rotate_left
  · intro w'
    go_simp
    with_reducible rfl
  rotate_left
  · simp only [Act.put, List.setIfInBounds_toArray, List.set_cons_zero, List.set_cons_succ, i64_w, i32_w]
    rfl
  refine pure_ (i := 14) (N := some 24) (v := ?_) (a' := ?_) #[true, true, true, true, true, true, true, true, true, true, true, true, true, true, true, false] rfl rfl (by kernel_rfl) (fun _ _ _ h => h) (Or.inl ⟨by rfl, ?_⟩) ?_ ?_
  rotate_left
  · intro w'
    go_simp
    with_reducible rfl
  rotate_left
  · simp only [Act.put, List.setIfInBounds_toArray, List.set_cons_zero, List.set_cons_succ, i64_w, i32_w]
    rfl
  refine pure_ (i := 15) (N := some 9) (v := ?_) (a' := ?_) #[true, true, true, true, true, true, true, true, true, true, true, true, true, true, true, true] rfl rfl (by kernel_rfl) (fun _ _ _ h => h) (Or.inl ⟨by rfl, ?_⟩) ?_ ?_
  rotate_left
  · intro w'
    go_simp
    with_reducible rfl
  rotate_left
  · simp only [Act.put, List.setIfInBounds_toArray, List.set_cons_zero, List.set_cons_succ, i64_w, i32_w]
    rfl
  refine done_ (by kernel_rfl) ?_
  clear HC1
  generalize hq : decide (m4 = le4 n8) = q
  cases q
  case true =>
    have HE := Aside0.mk (of_decide_eq_true hq)
    clear hq
    go_wp2_with fail
    refine start_ (n := 9) (S := fun w' => True) (ds := []) #[false, false, false, false, false, false, false, false, false] (by kernel_rfl) rfl rfl trivial (fun hHeld => ?_)
    refine pure_ (i := 0) (N := some 26) (v := ?_) (a' := ?_) #[true, false, false, false, false, false, false, false, false] rfl rfl (by kernel_rfl) (fun _ _ _ h => h) (Or.inl ⟨by rfl, ?_⟩) ?_ ?_
    rotate_left
    · intro w'
      go_simp
      with_reducible rfl
    rotate_left
    · simp only [Act.put, List.setIfInBounds_toArray, List.set_cons_zero, List.set_cons_succ, i64_w, i32_w]
      rfl
    refine pure_ (i := 1) (N := some 27) (v := ?_) (a' := ?_) #[true, true, false, false, false, false, false, false, false] rfl rfl (by kernel_rfl) (fun _ _ _ h => h) (Or.inl ⟨by rfl, ?_⟩) ?_ ?_
    rotate_left
    · intro w'
      go_simp
      with_reducible rfl
    rotate_left
    · simp only [Act.put, List.setIfInBounds_toArray, List.set_cons_zero, List.set_cons_succ, i64_w, i32_w]
      rfl
    refine pure_ (i := 2) (N := some 28) (v := ?_) (a' := ?_) #[true, true, true, false, false, false, false, false, false] rfl rfl (by kernel_rfl) (fun _ _ _ h => h) (Or.inl ⟨by rfl, ?_⟩) ?_ ?_
    rotate_left
    · intro w'
      go_simp
      with_reducible rfl
    rotate_left
    · simp only [Act.put, List.setIfInBounds_toArray, List.set_cons_zero, List.set_cons_succ, i64_w, i32_w]
      rfl
    refine pure_ (i := 3) (N := some 29) (v := ?_) (a' := ?_) #[true, true, true, true, false, false, false, false, false] rfl rfl (by kernel_rfl) (fun _ _ _ h => h) (Or.inl ⟨by rfl, ?_⟩) ?_ ?_
    rotate_left
    · intro w'
      go_simp
      with_reducible rfl
    rotate_left
    · simp only [Act.put, List.setIfInBounds_toArray, List.set_cons_zero, List.set_cons_succ, i64_w, i32_w]
      rfl
    refine one_ (i := 4) (N := some 30) #[true, true, true, true, true, false, false, false, false] rfl rfl (by kernel_rfl) (by decide) (fun K hK => ?_)
    refine goes_ Try.func12 (by kernel_rfl) rfl #[.slice (some ⟨b, o + 4, none⟩) (xs.length - 4) (c - 4)] (by rfl) rfl rfl (by simp only [List.map_toArray, List.map_cons, List.map_nil]; rfl) ?_
    with_reducible refine (Sum.sum_calls d4 _ _ _ _ (Kd.C_drew (Kd.C_below HD.out.2.2 HB2.out)) HD.out.2.1).mono ?_
    rintro e w3 ⟨rfl, hb⟩
    refine ⟨_, rfl, ?_⟩
    have HB3 := Aside0.mk (below_then (below_drew HB2.out) HB2.out.size hb)
    clear hb
    refine hK.out _ _ trivial (fun hHeld => ?_)
    clear hK K
    refine norm_ (a' := ?_) ?_ ?_
    rotate_left
    · show Act.put _ (some 30) _ = _
      simp only [Act.put, List.setIfInBounds_toArray, List.set_cons_zero, List.set_cons_succ, i64_w, i32_w]
      rfl
    refine one_ (i := 5) (N := some 31) #[true, true, true, true, true, true, false, false, false] rfl rfl (by kernel_rfl) (by decide) (fun K hK => ?_)
    refine goes_ Try.func41 (by kernel_rfl) rfl #[.int .u32 (Crc.sum d4 : Nat)] (by rfl) rfl rfl (by simp only [List.map_toArray, List.map_cons, List.map_nil]; rfl) ?_
    with_reducible refine (four_calls (Crc.sum d4) _ (Crc.sum_lt _ HD.out.2.1)).mono ?_
    rintro e w4 ⟨v1, rfl, ho, hb⟩
    refine ⟨_, rfl, ?_⟩
    obtain ⟨A1, c1, rfl, hc1, hC1⟩ := Kd.R_reads ho
    rw [le4_length] at hC1 hc1 ⊢
    have HB4 := Aside0.mk (below_then HB3.out HB3.out.size hb)
    have HC4 := Aside0.mk hC1
    clear ho hb hC1
    refine hK.out _ _ trivial (fun hHeld => ?_)
    clear hK K
    refine norm_ (a' := ?_) ?_ ?_
    rotate_left
    · show Act.put _ (some 31) _ = _
      simp only [Act.put, List.setIfInBounds_toArray, List.set_cons_zero, List.set_cons_succ, i64_w, i32_w]
      rfl
    refine one_ (i := 6) (N := some 32) #[true, true, true, true, true, true, true, false, false] rfl rfl (by kernel_rfl) (by decide) (fun K hK => ?_)
    refine goes_ Try.func42 (by kernel_rfl) rfl #[.slice (some ⟨b, o, none⟩) 4 c, .slice A1 4 c1] (by rfl) rfl rfl (by simp only [List.map_toArray, List.map_cons, List.map_nil]; rfl) ?_
    with_reducible refine (equal_calls' l4 (le4 (Crc.sum d4)) 4 4 _ _ _ _ _ (Kd.C_below HL.out.2 HB4.out) HC4.out).mono ?_
    rintro e w5 ⟨rfl, hd⟩
    refine ⟨_, rfl, ?_⟩
    have HB5 := Aside0.mk (below_then HB4.out HB4.out.size hd.below)
    clear hd
    refine hK.out _ _ trivial (fun hHeld => ?_)
    clear hK K
    refine norm_ (a' := ?_) ?_ ?_
    rotate_left
    · show Act.put _ (some 32) _ = _
      simp only [Act.put, List.setIfInBounds_toArray, List.set_cons_zero, List.set_cons_succ, i64_w, i32_w]
      rfl
    refine pure_ (i := 7) (N := some 33) (v := ?_) (a' := ?_) #[true, true, true, true, true, true, true, true, false] rfl rfl (by kernel_rfl) (fun _ _ _ h => h) (Or.inl ⟨by rfl, ?_⟩) ?_ ?_
    rotate_left
    · intro w'
      go_simp
      with_reducible rfl
    rotate_left
    · simp only [Act.put, List.setIfInBounds_toArray, List.set_cons_zero, List.set_cons_succ, i64_w, i32_w]
      rfl
    refine pure_ (i := 8) (N := some 25) (v := ?_) (a' := ?_) #[true, true, true, true, true, true, true, true, true] rfl rfl (by kernel_rfl) (fun _ _ _ h => h) (Or.inl ⟨by rfl, ?_⟩) ?_ ?_
    rotate_left
    · intro w'
      go_simp
      with_reducible rfl
    rotate_left
    · simp only [Act.put, List.setIfInBounds_toArray, List.set_cons_zero, List.set_cons_succ, i64_w, i32_w]
      rfl
    refine done_ (by kernel_rfl) ?_
    clear HC4
    generalize hq : decide (l4 = le4 (Crc.sum d4)) = q
    cases q
    case true =>
      have he2 := of_decide_eq_true hq
      clear hq
      have HF := Aside0.mk (show unframe xs = (xs.drop 8, 0) by
        unfold unframe
        rw [if_neg (by omega), if_neg, if_neg]
        · rw [← HD.out.1, ← HL.out.1]; simpa using he2
        · rw [← HM.out.1, HE.out, HN.out]; simp; omega)
      clear he2
      go_wp2_with (first
        | ((with_reducible refine gate_dst (N := 37) rfl ?_); refine Kd.R_make (Kd.int .u8) (w0 := w) w.heap.size 5 rfl (N := 37) rfl 22 _ _ rfl ((xs.length : Int) - 8) rfl rfl Try.underlying22 (.int .u8 0) 1 info5 rfl (by decide) (by decide) (0 : Int) (ok := fun _ => True) (okp := fun _ => True) ?hz (fun _ h => h) trivial (by omega) (by omega) HB5.out HB5.out.size ?_; (case hz => rfl); intro v6 w6 ho6 hb6 hg6 ha6; have HO6 := Aside0.mk ho6; have HB6 := Aside0.mk hb6; clear ho6 hb6 hg6 ha6)
        | ((with_reducible refine gate_builtin (b := .copy) (xs := #[.tmp 38, .tmp 40]) rfl ?_); refine Kd.R_copy (enc := Value.int .u8) (h1 := fun _ => rfl) (0 : Int) (w0 := w) w.heap.size rfl (.tmp 38) (.tmp 40) 22 22 5 rfl Try.underlying22 info5s v6 _ (xs.drop 8) (if c = 8 then some ⟨b, o, none⟩ else some ⟨b, o + 8, none⟩) (xs.length - 8) (c - 8) (fun _ => True) rfl rfl HO6.out (Kd.C_below HC8.out HB6.out) HB6.out HB6.out.size ?_; intro w7 ho7 hb7 hg7; have HO7 := Aside0.mk ho7; have HB7 := Aside0.mk hb7; clear ho7 hb7 hg7)
        | fail)
      all_goals go_ret2
      all_goals refine ⟨_, ret_two rfl (by rw [HF.out]; rfl), ?_, HB7.out⟩
      all_goals rw [HF.out]
      all_goals
        have h1 := HO7.out
        have e1 : ((xs.length : Int) - 8).toNat = xs.length - 8 := by omega
        have e2 : List.drop (xs.length - 8) (List.replicate (xs.length - 8) (0 : Int)) = [] := List.drop_eq_nil_of_le (by simp)
        have e3 : List.take (xs.length - 8) (List.drop 8 xs) = List.drop 8 xs := List.take_of_length_le (by simp)
        rw [e1, List.length_replicate, Nat.min_self, e2, e3, List.append_nil] at h1
        exact h1
    case false =>
      have he2 := of_decide_eq_false hq
      clear hq
      have HF := Aside0.mk (show unframe xs = ([], 11) by
        unfold unframe
        rw [if_neg (by omega), if_neg, if_pos]
        · rw [← HD.out.1, ← HL.out.1]; exact he2
        · rw [← HM.out.1, HE.out, HN.out]; simp; omega)
      clear he2
      go_wp2_with fail
      go_ret2
      exact ⟨_, ret_two rfl (by rw [HF.out]; rfl), by rw [HF.out]; exact Kd.R_nil _ _ _ _ _, HB5.out⟩
  case false =>
    have he := of_decide_eq_false hq
    clear hq
    have HF := Aside0.mk (show unframe xs = ([], 12) by
      unfold unframe
      rw [if_neg (by omega), if_pos]
      right
      rw [← HM.out.1, ← HN.out]; exact he)
    clear he
    go_wp2_with fail
    go_ret2
    exact ⟨_, ret_two rfl (by rw [HF.out]; rfl), by rw [HF.out]; exact Kd.R_nil _ _ _ _ _, HB2.out⟩

/-- Whatever the bytes: their body, or why not. -/
theorem unframe_calls (xs : List Int) (len : Nat) (A : Option Addr) (c : Nat) (w : World) (hr : Kd.C (Kd.int .u8) w A len xs) (hb : Bytes xs) (hc : xs.length ≤ c) :
    Calls Try.prog 15 #[.slice A len c] w fun e w' => ∃ v, e = .returned (.tuple #[v, .int .i64 (unframe xs).2]) ∧ Kd.R (Kd.int .u8) 5 w' w.heap.size (fun _ => True) v (unframe xs).1 ∧ Below w.heap.size w w' := by
  obtain rfl := hr.1
  by_cases h : xs.length < 8
  · have e : unframe xs = ([], 10) := by unfold unframe; rw [if_pos h]
    rw [e]
    exact (unframe_short xs A c w h).mono fun e w' ⟨h1, h2⟩ => ⟨_, h1, Kd.R_nil _ _ _ _ _, h2 ▸ Below.refl _ _⟩
  · by_cases h2 : 1048576 < xs.length - 8
    · have e : unframe xs = ([], 12) := by unfold unframe; rw [if_neg h, if_pos (Or.inl h2)]
      rw [e]
      exact (unframe_long xs A c w (by omega) h2 hr.2.1).mono fun e w' ⟨h1, n, h2⟩ => ⟨_, h1, Kd.R_nil _ _ _ _ _, h2 ▸ pw_below_drewN (Below.refl _ _) n⟩
    · exact unframe_rest xs A c w hr hb (by omega) (by omega) hc
end Go.Proofs.Ytobddbkffefbkaa.Bas
