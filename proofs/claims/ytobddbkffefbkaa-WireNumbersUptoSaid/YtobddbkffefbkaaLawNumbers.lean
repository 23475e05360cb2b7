/-
  Proved: numbers and texts are the bytes that the reference says, behind any others, in new memory (the law WireNumbers), where the arguments' bulk is at most 1048576.
-/
import Derived.Test.YtobddbkffefbkaaRows
import Derived.Test.YtobddbkffefbkaaAwake
import Derived.Test.YtobddbkffefbkaaRefNum
import Derived.Test.YtobddbkffefbkaaBulk
import Derived.ShutString
import Derived.ChangeOld
namespace Go.Proofs.Ytobddbkffefbkaa.wireNumbers
set_option linter.unusedVariables false
set_option linter.unusedSimpArgs false
open Go.RowKit Go.Proofs.YtobddbkffefbkaaW.PrintWords Go.Proofs.Ytobddbkffefbkaa.Lib
open Go.ChangeShapes Go.WideShapes Go.ChangeAt
open Go.ChangeMaps (open_string shut_string)
theorem own : ownKnob Try.prog.godebug = none := by kernel_rfl
theorem laidOut : laidOutB Try.prog = true := by kernel_rfl
open Go.Proofs.Ytobddbkffefbkaa.Bas Go.Proofs.YtobddbkffefbkaaW.PrintLast Go.Proofs.YtobddbkffefbkaaW.PrintMore

set_option maxRecDepth 100000 in
set_option maxHeartbeats 400000 in
theorem walk (xs : List Int) (n c : Nat) (A : Option Addr) (num k : Int) (s : ByteArray) (w : World) (hr : Kd.C (Kd.int .u8) w A n xs) (hb : Bytes xs)
    (hn : (Lit.int .u64 num).wf = true) (hk : (Lit.int .i64 k).wf = true) (hl : n + 10 + s.size ≤ 140737488355328) :
    Calls Try.prog 5 #[.slice A n c, .int .u64 num, .int .i64 k, .string s] w fun e w' => e = .returned (.bool true) ∧ Below w.heap.size w w' := by
  obtain rfl := hr.1
  have hn1 := bounds_u64 hn
  have hk1 := bounds_i64 hk
  have HR := Aside0.mk hr
  have HX := Aside0.mk hb
  clear hr hb hn hk
  go_enter Try.func5, Try.ntmps5
  go_wp2_with fail
  refine (awake_calls w).mono ?_
  rintro e w1 ⟨rfl, hb1⟩
  have HB1 := Aside0.mk hb1
  have HR1 := Aside0.mk (Kd.C_below HR.out hb1)
  clear hb1
  go_wp2_with fail
  refine (uint_calls xs _ A c num w1 HR1.out hn1.1 (by omega) (by omega)).mono ?_
  rintro e w2 ⟨vx, rfl, ho, hb⟩
  have HB2 := Aside0.mk (below_then HB1.out HB1.out.size hb)
  have HR2 := Aside0.mk (Kd.C_below HR1.out hb)
  have HX2 := Aside0.mk (Kd.R_lower ho HB1.out.size)
  clear ho hb HB1 HR1
  go_wp2_with fail
  refine (int_calls xs _ A c k w2 HR2.out hk1.1 (by omega) (by omega)).mono ?_
  rintro e w3 ⟨vy, rfl, ho, hb⟩
  have HB3 := Aside0.mk (below_then HB2.out HB2.out.size hb)
  have HR3 := Aside0.mk (Kd.C_below HR2.out hb)
  have HX3 := Aside0.mk (Kd.R_below HX2.out hb)
  have HY3 := Aside0.mk (Kd.R_lower ho HB2.out.size)
  clear ho hb HB2 HR2 HX2
  go_wp2_with fail
  refine (text_calls xs _ A c s w3 HR3.out hl).mono ?_
  rintro e w4 ⟨vz, rfl, ho, hb⟩
  have HB4 := Aside0.mk (below_then HB3.out HB3.out.size hb)
  have HR4 := Aside0.mk (Kd.C_below HR3.out hb)
  have HX4 := Aside0.mk (Kd.R_below HX3.out hb)
  have HY4 := Aside0.mk (Kd.R_below HY3.out hb)
  have HZ4 := Aside0.mk (Kd.R_lower ho HB3.out.size)
  clear ho hb HB3 HR3 HX3 HY3
  obtain ⟨sx, SX⟩ : ∃ sx, Aside0 (strOfNums xs = sx) := ⟨_, ⟨rfl⟩⟩
  obtain ⟨sn, SN⟩ : ∃ sn, Aside0 (strOfNums (varint num.toNat) = sn) := ⟨_, ⟨rfl⟩⟩
  obtain ⟨sk, SK⟩ : ∃ sk, Aside0 (strOfNums (varint (zigzag k)) = sk) := ⟨_, ⟨rfl⟩⟩
  obtain ⟨st, ST⟩ : ∃ st, Aside0 (strOfNums (varint s.size ++ bytesOf s) = st) := ⟨_, ⟨rfl⟩⟩
  have z0 : sx.size = xs.length := by rw [← SX.out, strOfNums_size]
  have z1 : sn.size ≤ 10 := by rw [← SN.out, strOfNums_size]; exact varint_le10 (by omega)
  have z2 : sk.size ≤ 10 := by rw [← SK.out, strOfNums_size]; exact varint_le10 (zigzag_lt k hk1.1 (by omega))
  have z3 : st.size ≤ 10 + s.size := by
    rw [← ST.out, strOfNums_size, List.length_append, bytesOf_length]
    have := varint_le10 (show s.size < 18446744073709551616 by omega)
    omega
  have y1 : ¬ 9223372036854775807 < sx.size + sn.size := by omega
  have y2 : ¬ 9223372036854775807 < sx.size + sk.size := by omega
  have y3 : ¬ 9223372036854775807 < sx.size + st.size := by omega
  clear z0 z1 z2 z3
  have SN1 := Aside0.mk (show strOfNums (xs ++ varint num.toNat) = sx ++ sn by rw [str_append, SX.out, SN.out])
  have SK1 := Aside0.mk (show strOfNums (xs ++ varint (zigzag k)) = sx ++ sk by rw [str_append, SX.out, SK.out])
  have ST1 := Aside0.mk (show strOfNums (xs ++ varint s.size ++ bytesOf s) = sx ++ st by rw [List.append_assoc, str_append, SX.out, ST.out])
  go_wp2_with fail
  refine start_ (n := 10) (S := fun w' => (convert 22 9 vx).run Try.prog w' = .ok (.string (sx ++ sn)) w' ∧ (convert 22 9 (.slice A xs.length c)).run Try.prog w' = .ok (.string sx) w') (ds := []) #[false, false, false, false, false, false, false, false, false, false] (by kernel_rfl) rfl rfl ⟨(by rw [← SN1.out]; exact string_of_R Try.underlying22 Try.underlying5 Try.underlying9 (Kd.R_drew HX4.out)), (by rw [← SX.out]; exact Kd.C_string Try.underlying22 Try.underlying5 Try.underlying9 (Kd.C_drew HR4.out))⟩ (fun hHeld => ?_)
  refine pure_ (i := 0) (N := some 29) (v := ?_) (a' := ?_) #[true, false, false, false, false, false, false, false, false, false] rfl rfl (by kernel_rfl) (fun _ _ _ h => h) (Or.inl ⟨by rfl, ?_⟩) ?_ ?_
  rotate_left
  · intro w'
    go_simp
    with_reducible rfl
  rotate_left
  · simp only [Act.put, List.setIfInBounds_toArray, List.set_cons_zero, List.set_cons_succ, i64_w, i32_w]
    rfl
  refine pure_ (i := 2) (N := some 31) (v := ?_) (a' := ?_) #[true, false, true, false, false, false, false, false, false, false] rfl rfl (by kernel_rfl) (fun _ _ _ h => h) (Or.inl ⟨by rfl, ?_⟩) ?_ ?_
  rotate_left
  · intro w'
    go_simp
    with_reducible rfl
  rotate_left
  · simp only [Act.put, List.setIfInBounds_toArray, List.set_cons_zero, List.set_cons_succ, i64_w, i32_w]
    rfl
  refine pure_ (i := 4) (N := some 33) (v := ?_) (a' := ?_) #[true, false, true, false, true, false, false, false, false, false] rfl rfl (by kernel_rfl) (fun _ _ _ h => h) (Or.inl ⟨by rfl, ?_⟩) ?_ ?_
  rotate_left
  · intro w'
    go_simp
    with_reducible rfl
  rotate_left
  · simp only [Act.put, List.setIfInBounds_toArray, List.set_cons_zero, List.set_cons_succ, i64_w, i32_w]
    rfl
  refine take_ (i := 1) (N := some 30) (v := ?_) (a' := ?_) #[true, true, true, false, true, false, false, false, false, false] rfl rfl (by kernel_rfl) (fun _ _ _ h => h) (Or.inl ⟨by rfl, ?_⟩) hHeld ?_ ?_
  rotate_left
  · rintro w' ⟨s0, s1⟩
    go_simp
    with_reducible rfl
  rotate_left
  · simp only [Act.put, List.setIfInBounds_toArray, List.set_cons_zero, List.set_cons_succ, i64_w, i32_w]
    rfl
  refine take_ (i := 3) (N := some 32) (v := ?_) (a' := ?_) #[true, true, true, true, true, false, false, false, false, false] rfl rfl (by kernel_rfl) (fun _ _ _ h => h) (Or.inl ⟨by rfl, ?_⟩) hHeld ?_ ?_
  rotate_left
  · rintro w' ⟨s0, s1⟩
    go_simp
    with_reducible rfl
  rotate_left
  · simp only [Act.put, List.setIfInBounds_toArray, List.set_cons_zero, List.set_cons_succ, i64_w, i32_w]
    rfl
  refine one_ (i := 5) (N := some 34) #[true, true, true, true, true, true, false, false, false, false] rfl rfl (by kernel_rfl) (by decide) (fun K hK => ?_)
  refine goes_ Try.func19 (by kernel_rfl) rfl #[.int .u64 num] (by rfl) rfl rfl (by simp only [List.map_toArray, List.map_cons, List.map_nil]; rfl) ?_
  with_reducible refine (refuint_calls num _ hn1.1 (by omega)).mono ?_
  rintro e w5 ⟨v5, rfl, ho, hb⟩
  refine ⟨_, rfl, ?_⟩
  have HB5 := Aside0.mk (below_then (below_drew HB4.out) HB4.out.size hb)
  have HR5 := Aside0.mk (Kd.C_below (Kd.C_drew HR4.out) hb)
  have HX5 := Aside0.mk (Kd.R_below (Kd.R_drew HX4.out) hb)
  have HY5 := Aside0.mk (Kd.R_below (Kd.R_drew HY4.out) hb)
  have HZ5 := Aside0.mk (Kd.R_below (Kd.R_drew HZ4.out) hb)
  have hs5 := string_of_R Try.underlying22 Try.underlying5 Try.underlying9 ho
  rw [SN.out] at hs5
  clear ho hb HB4 HR4 HX4 HY4 HZ4
  refine hK.out _ _ ⟨(by rw [← SN1.out]; exact string_of_R Try.underlying22 Try.underlying5 Try.underlying9 HX5.out), (by rw [← SX.out]; exact Kd.C_string Try.underlying22 Try.underlying5 Try.underlying9 HR5.out)⟩ (fun hHeld => ?_)
  clear hK K
  refine norm_ (a' := ?_) ?_ ?_
  rotate_left
  · show Act.put _ (some 34) _ = _
    simp only [Act.put, List.setIfInBounds_toArray, List.set_cons_zero, List.set_cons_succ, i64_w, i32_w]
    rfl
  refine one_ (i := 6) (N := some 35) #[true, true, true, true, true, true, true, false, false, false] rfl rfl (by kernel_rfl) (by decide) (fun K hK => ?_)
  refine value_ (w1 := ?_) (v := ?_) (by rfl) rfl ?_ ?_
  rotate_left 2
  · go_simp
    constructor
    · rfl
    · rfl
  clear hs5
  refine hK.out _ _ ⟨(by rw [← SN1.out]; exact string_of_R Try.underlying22 Try.underlying5 Try.underlying9 HX5.out), (by rw [← SX.out]; exact Kd.C_string Try.underlying22 Try.underlying5 Try.underlying9 HR5.out)⟩ (fun hHeld => ?_)
  clear hK K
  refine norm_ (a' := ?_) ?_ ?_
  rotate_left
  · show Act.put _ (some 35) _ = _
    simp only [Act.put, List.setIfInBounds_toArray, List.set_cons_zero, List.set_cons_succ, i64_w, i32_w]
    rfl
  refine pure_ (i := 7) (N := some 36) (v := ?_) (a' := ?_) #[true, true, true, true, true, true, true, true, false, false] rfl rfl (by kernel_rfl) (fun _ _ _ h => h) (Or.inl ⟨by rfl, ?_⟩) ?_ ?_
  rotate_left
  · intro w'
    go_simp
    with_reducible rfl
  rotate_left
  · simp only [Act.put, List.setIfInBounds_toArray, List.set_cons_zero, List.set_cons_succ, i64_w, i32_w]
    rfl
  refine pure_ (i := 8) (N := some 37) (v := ?_) (a' := ?_) #[true, true, true, true, true, true, true, true, true, false] rfl rfl (by kernel_rfl) (fun _ _ _ h => h) (Or.inl ⟨by rfl, ?_⟩) ?_ ?_
  rotate_left
  · intro w'
    go_simp
    with_reducible rfl
  rotate_left
  · simp only [Act.put, List.setIfInBounds_toArray, List.set_cons_zero, List.set_cons_succ, i64_w, i32_w]
    rfl
  refine pure_ (i := 9) (N := some 13) (v := ?_) (a' := ?_) #[true, true, true, true, true, true, true, true, true, true] rfl rfl (by kernel_rfl) (fun _ _ _ h => h) (Or.inl ⟨by rfl, ?_⟩) ?_ ?_
  rotate_left
  · intro w'
    go_simp
    with_reducible rfl
  rotate_left
  · simp only [Act.put, List.setIfInBounds_toArray, List.set_cons_zero, List.set_cons_succ, i64_w, i32_w]
    rfl
  refine done_ (by kernel_rfl) ?_
  go_wp2_with fail
  refine start_ (n := 10) (S := fun w' => (convert 22 9 vy).run Try.prog w' = .ok (.string (sx ++ sk)) w' ∧ (convert 22 9 (.slice A xs.length c)).run Try.prog w' = .ok (.string sx) w') (ds := []) #[false, false, false, false, false, false, false, false, false, false] (by kernel_rfl) rfl rfl ⟨(by rw [← SK1.out]; exact string_of_R Try.underlying22 Try.underlying5 Try.underlying9 (Kd.R_drew HY5.out)), (by rw [← SX.out]; exact Kd.C_string Try.underlying22 Try.underlying5 Try.underlying9 (Kd.C_drew HR5.out))⟩ (fun hHeld => ?_)
  refine pure_ (i := 0) (N := some 38) (v := ?_) (a' := ?_) #[true, false, false, false, false, false, false, false, false, false] rfl rfl (by kernel_rfl) (fun _ _ _ h => h) (Or.inl ⟨by rfl, ?_⟩) ?_ ?_
  rotate_left
  · intro w'
    go_simp
    with_reducible rfl
  rotate_left
  · simp only [Act.put, List.setIfInBounds_toArray, List.set_cons_zero, List.set_cons_succ, i64_w, i32_w]
    rfl
  refine pure_ (i := 2) (N := some 40) (v := ?_) (a' := ?_) #[true, false, true, false, false, false, false, false, false, false] rfl rfl (by kernel_rfl) (fun _ _ _ h => h) (Or.inl ⟨by rfl, ?_⟩) ?_ ?_
  rotate_left
  · intro w'
    go_simp
    with_reducible rfl
  rotate_left
  · simp only [Act.put, List.setIfInBounds_toArray, List.set_cons_zero, List.set_cons_succ, i64_w, i32_w]
    rfl
  refine pure_ (i := 4) (N := some 42) (v := ?_) (a' := ?_) #[true, false, true, false, true, false, false, false, false, false] rfl rfl (by kernel_rfl) (fun _ _ _ h => h) (Or.inl ⟨by rfl, ?_⟩) ?_ ?_
  rotate_left
  · intro w'
    go_simp
    with_reducible rfl
  rotate_left
  · simp only [Act.put, List.setIfInBounds_toArray, List.set_cons_zero, List.set_cons_succ, i64_w, i32_w]
    rfl
  refine take_ (i := 1) (N := some 39) (v := ?_) (a' := ?_) #[true, true, true, false, true, false, false, false, false, false] rfl rfl (by kernel_rfl) (fun _ _ _ h => h) (Or.inl ⟨by rfl, ?_⟩) hHeld ?_ ?_
  rotate_left
  · rintro w' ⟨s0, s1⟩
    go_simp
    with_reducible rfl
  rotate_left
  · simp only [Act.put, List.setIfInBounds_toArray, List.set_cons_zero, List.set_cons_succ, i64_w, i32_w]
    rfl
  refine take_ (i := 3) (N := some 41) (v := ?_) (a' := ?_) #[true, true, true, true, true, false, false, false, false, false] rfl rfl (by kernel_rfl) (fun _ _ _ h => h) (Or.inl ⟨by rfl, ?_⟩) hHeld ?_ ?_
  rotate_left
  · rintro w' ⟨s0, s1⟩
    go_simp
    with_reducible rfl
  rotate_left
  · simp only [Act.put, List.setIfInBounds_toArray, List.set_cons_zero, List.set_cons_succ, i64_w, i32_w]
    rfl
  refine one_ (i := 5) (N := some 43) #[true, true, true, true, true, true, false, false, false, false] rfl rfl (by kernel_rfl) (by decide) (fun K hK => ?_)
  refine goes_ Try.func20 (by kernel_rfl) rfl #[.int .i64 k] (by rfl) rfl rfl (by simp only [List.map_toArray, List.map_cons, List.map_nil]; rfl) ?_
  with_reducible refine (refint_calls k _ hk1.1 (by omega)).mono ?_
  rintro e w6 ⟨v6, rfl, ho, hb⟩
  refine ⟨_, rfl, ?_⟩
  have HB6 := Aside0.mk (below_then (below_drew HB5.out) HB5.out.size hb)
  have HR6 := Aside0.mk (Kd.C_below (Kd.C_drew HR5.out) hb)
  have HX6 := Aside0.mk (Kd.R_below (Kd.R_drew HX5.out) hb)
  have HY6 := Aside0.mk (Kd.R_below (Kd.R_drew HY5.out) hb)
  have HZ6 := Aside0.mk (Kd.R_below (Kd.R_drew HZ5.out) hb)
  have hs5 := string_of_R Try.underlying22 Try.underlying5 Try.underlying9 ho
  rw [SK.out] at hs5
  clear ho hb HB5 HR5 HX5 HY5 HZ5
  refine hK.out _ _ ⟨(by rw [← SK1.out]; exact string_of_R Try.underlying22 Try.underlying5 Try.underlying9 HY6.out), (by rw [← SX.out]; exact Kd.C_string Try.underlying22 Try.underlying5 Try.underlying9 HR6.out)⟩ (fun hHeld => ?_)
  clear hK K
  refine norm_ (a' := ?_) ?_ ?_
  rotate_left
  · show Act.put _ (some 43) _ = _
    simp only [Act.put, List.setIfInBounds_toArray, List.set_cons_zero, List.set_cons_succ, i64_w, i32_w]
    rfl
  refine one_ (i := 6) (N := some 44) #[true, true, true, true, true, true, true, false, false, false] rfl rfl (by kernel_rfl) (by decide) (fun K hK => ?_)
  refine value_ (w1 := ?_) (v := ?_) (by rfl) rfl ?_ ?_
  rotate_left 2
  · go_simp
    constructor
    · rfl
    · rfl
  clear hs5
  refine hK.out _ _ ⟨(by rw [← SK1.out]; exact string_of_R Try.underlying22 Try.underlying5 Try.underlying9 HY6.out), (by rw [← SX.out]; exact Kd.C_string Try.underlying22 Try.underlying5 Try.underlying9 HR6.out)⟩ (fun hHeld => ?_)
  clear hK K
  refine norm_ (a' := ?_) ?_ ?_
  rotate_left
  · show Act.put _ (some 44) _ = _
    simp only [Act.put, List.setIfInBounds_toArray, List.set_cons_zero, List.set_cons_succ, i64_w, i32_w]
    rfl
  refine pure_ (i := 7) (N := some 45) (v := ?_) (a' := ?_) #[true, true, true, true, true, true, true, true, false, false] rfl rfl (by kernel_rfl) (fun _ _ _ h => h) (Or.inl ⟨by rfl, ?_⟩) ?_ ?_
  rotate_left
  · intro w'
    go_simp
    with_reducible rfl
  rotate_left
  · simp only [Act.put, List.setIfInBounds_toArray, List.set_cons_zero, List.set_cons_succ, i64_w, i32_w]
    rfl
  refine pure_ (i := 8) (N := some 46) (v := ?_) (a' := ?_) #[true, true, true, true, true, true, true, true, true, false] rfl rfl (by kernel_rfl) (fun _ _ _ h => h) (Or.inl ⟨by rfl, ?_⟩) ?_ ?_
  rotate_left
  · intro w'
    go_simp
    with_reducible rfl
  rotate_left
  · simp only [Act.put, List.setIfInBounds_toArray, List.set_cons_zero, List.set_cons_succ, i64_w, i32_w]
    rfl
  refine pure_ (i := 9) (N := some 14) (v := ?_) (a' := ?_) #[true, true, true, true, true, true, true, true, true, true] rfl rfl (by kernel_rfl) (fun _ _ _ h => h) (Or.inl ⟨by rfl, ?_⟩) ?_ ?_
  rotate_left
  · intro w'
    go_simp
    with_reducible rfl
  rotate_left
  · simp only [Act.put, List.setIfInBounds_toArray, List.set_cons_zero, List.set_cons_succ, i64_w, i32_w]
    rfl
  refine done_ (by kernel_rfl) ?_
  go_wp2_with fail
  refine start_ (n := 10) (S := fun w' => (convert 22 9 vz).run Try.prog w' = .ok (.string (sx ++ st)) w' ∧ (convert 22 9 (.slice A xs.length c)).run Try.prog w' = .ok (.string sx) w') (ds := []) #[false, false, false, false, false, false, false, false, false, false] (by kernel_rfl) rfl rfl ⟨(by rw [← ST1.out]; exact string_of_R Try.underlying22 Try.underlying5 Try.underlying9 (Kd.R_drew HZ6.out)), (by rw [← SX.out]; exact Kd.C_string Try.underlying22 Try.underlying5 Try.underlying9 (Kd.C_drew HR6.out))⟩ (fun hHeld => ?_)
  refine pure_ (i := 0) (N := some 47) (v := ?_) (a' := ?_) #[true, false, false, false, false, false, false, false, false, false] rfl rfl (by kernel_rfl) (fun _ _ _ h => h) (Or.inl ⟨by rfl, ?_⟩) ?_ ?_
  rotate_left
  · intro w'
    go_simp
    with_reducible rfl
  rotate_left
  · simp only [Act.put, List.setIfInBounds_toArray, List.set_cons_zero, List.set_cons_succ, i64_w, i32_w]
    rfl
  refine pure_ (i := 2) (N := some 49) (v := ?_) (a' := ?_) #[true, false, true, false, false, false, false, false, false, false] rfl rfl (by kernel_rfl) (fun _ _ _ h => h) (Or.inl ⟨by rfl, ?_⟩) ?_ ?_
  rotate_left
  · intro w'
    go_simp
    with_reducible rfl
  rotate_left
  · simp only [Act.put, List.setIfInBounds_toArray, List.set_cons_zero, List.set_cons_succ, i64_w, i32_w]
    rfl
  refine pure_ (i := 4) (N := some 51) (v := ?_) (a' := ?_) #[true, false, true, false, true, false, false, false, false, false] rfl rfl (by kernel_rfl) (fun _ _ _ h => h) (Or.inl ⟨by rfl, ?_⟩) ?_ ?_
  rotate_left
  · intro w'
    go_simp
    with_reducible rfl
  rotate_left
  · simp only [Act.put, List.setIfInBounds_toArray, List.set_cons_zero, List.set_cons_succ, i64_w, i32_w]
    rfl
  refine take_ (i := 1) (N := some 48) (v := ?_) (a' := ?_) #[true, true, true, false, true, false, false, false, false, false] rfl rfl (by kernel_rfl) (fun _ _ _ h => h) (Or.inl ⟨by rfl, ?_⟩) hHeld ?_ ?_
  rotate_left
  · rintro w' ⟨s0, s1⟩
    go_simp
    with_reducible rfl
  rotate_left
  · simp only [Act.put, List.setIfInBounds_toArray, List.set_cons_zero, List.set_cons_succ, i64_w, i32_w]
    rfl
  refine take_ (i := 3) (N := some 50) (v := ?_) (a' := ?_) #[true, true, true, true, true, false, false, false, false, false] rfl rfl (by kernel_rfl) (fun _ _ _ h => h) (Or.inl ⟨by rfl, ?_⟩) hHeld ?_ ?_
  rotate_left
  · rintro w' ⟨s0, s1⟩
    go_simp
    with_reducible rfl
  rotate_left
  · simp only [Act.put, List.setIfInBounds_toArray, List.set_cons_zero, List.set_cons_succ, i64_w, i32_w]
    rfl
  refine one_ (i := 5) (N := some 52) #[true, true, true, true, true, true, false, false, false, false] rfl rfl (by kernel_rfl) (by decide) (fun K hK => ?_)
  refine goes_ Try.func21 (by kernel_rfl) rfl #[.string s] (by rfl) rfl rfl (by simp only [List.map_toArray, List.map_cons, List.map_nil]; rfl) ?_
  with_reducible refine (reftext_calls s _ (by omega)).mono ?_
  rintro e w7 ⟨v7, rfl, ho, hb⟩
  refine ⟨_, rfl, ?_⟩
  have HB7 := Aside0.mk (below_then (below_drew HB6.out) HB6.out.size hb)
  have HR7 := Aside0.mk (Kd.C_below (Kd.C_drew HR6.out) hb)
  have HX7 := Aside0.mk (Kd.R_below (Kd.R_drew HX6.out) hb)
  have HY7 := Aside0.mk (Kd.R_below (Kd.R_drew HY6.out) hb)
  have HZ7 := Aside0.mk (Kd.R_below (Kd.R_drew HZ6.out) hb)
  have hs5 := string_of_R Try.underlying22 Try.underlying5 Try.underlying9 ho
  rw [ST.out] at hs5
  clear ho hb HB6 HR6 HX6 HY6 HZ6
  refine hK.out _ _ ⟨(by rw [← ST1.out]; exact string_of_R Try.underlying22 Try.underlying5 Try.underlying9 HZ7.out), (by rw [← SX.out]; exact Kd.C_string Try.underlying22 Try.underlying5 Try.underlying9 HR7.out)⟩ (fun hHeld => ?_)
  clear hK K
  refine norm_ (a' := ?_) ?_ ?_
  rotate_left
  · show Act.put _ (some 52) _ = _
    simp only [Act.put, List.setIfInBounds_toArray, List.set_cons_zero, List.set_cons_succ, i64_w, i32_w]
    rfl
  refine one_ (i := 6) (N := some 53) #[true, true, true, true, true, true, true, false, false, false] rfl rfl (by kernel_rfl) (by decide) (fun K hK => ?_)
  refine value_ (w1 := ?_) (v := ?_) (by rfl) rfl ?_ ?_
  rotate_left 2
  · go_simp
    constructor
    · rfl
    · rfl
  clear hs5
  refine hK.out _ _ ⟨(by rw [← ST1.out]; exact string_of_R Try.underlying22 Try.underlying5 Try.underlying9 HZ7.out), (by rw [← SX.out]; exact Kd.C_string Try.underlying22 Try.underlying5 Try.underlying9 HR7.out)⟩ (fun hHeld => ?_)
  clear hK K
  refine norm_ (a' := ?_) ?_ ?_
  rotate_left
  · show Act.put _ (some 53) _ = _
    simp only [Act.put, List.setIfInBounds_toArray, List.set_cons_zero, List.set_cons_succ, i64_w, i32_w]
    rfl
  refine pure_ (i := 7) (N := some 54) (v := ?_) (a' := ?_) #[true, true, true, true, true, true, true, true, false, false] rfl rfl (by kernel_rfl) (fun _ _ _ h => h) (Or.inl ⟨by rfl, ?_⟩) ?_ ?_
  rotate_left
  · intro w'
    go_simp
    with_reducible rfl
  rotate_left
  · simp only [Act.put, List.setIfInBounds_toArray, List.set_cons_zero, List.set_cons_succ, i64_w, i32_w]
    rfl
  refine pure_ (i := 8) (N := some 55) (v := ?_) (a' := ?_) #[true, true, true, true, true, true, true, true, true, false] rfl rfl (by kernel_rfl) (fun _ _ _ h => h) (Or.inl ⟨by rfl, ?_⟩) ?_ ?_
  rotate_left
  · intro w'
    go_simp
    with_reducible rfl
  rotate_left
  · simp only [Act.put, List.setIfInBounds_toArray, List.set_cons_zero, List.set_cons_succ, i64_w, i32_w]
    rfl
  refine pure_ (i := 9) (N := some 15) (v := ?_) (a' := ?_) #[true, true, true, true, true, true, true, true, true, true] rfl rfl (by kernel_rfl) (fun _ _ _ h => h) (Or.inl ⟨by rfl, ?_⟩) ?_ ?_
  rotate_left
  · intro w'
    go_simp
    with_reducible rfl
  rotate_left
  · simp only [Act.put, List.setIfInBounds_toArray, List.set_cons_zero, List.set_cons_succ, i64_w, i32_w]
    rfl
  refine done_ (by kernel_rfl) ?_
  have hpos : 0 < (xs ++ varint num.toNat).length := by
    have := varint_ne num.toNat
    rw [List.length_append]
    have h2 := List.length_pos_iff.2 this
    omega
  obtain ⟨Ax, cx, rfl, -, -⟩ := Kd.R_reads HX7.out
  obtain ⟨g, rfl, hg, -⟩ := R_plain HX7.out hpos
  have hc0 := (R_at HX7.out 0 hpos).1
  have hf0 := (R_at HX7.out 0 hpos).2
  have hne : (((xs ++ varint num.toNat).length : Int) == 0) = false := beq_eq_false_iff_ne.2 (by omega)
  have hlt : (0 : Int) < ((xs ++ varint num.toNat).length : Int) := by omega
  have hs0 : (convert 22 9 (.slice A xs.length c)).run Try.prog w7 = .ok (.string sx) w7 := by rw [← SX.out]; exact Kd.C_string Try.underlying22 Try.underlying5 Try.underlying9 HR7.out
  have hs1 : ∀ u : Value, (convert 22 9 (.slice A xs.length c)).run Try.prog (w7.setCell ⟨g, 0, none⟩ u) = .ok (.string sx) (w7.setCell ⟨g, 0, none⟩ u) := fun u => by
    rw [← SX.out]; exact Kd.C_string Try.underlying22 Try.underlying5 Try.underlying9 (Kd.C_below HR.out (below_set HB7.out hg))
  have HBF := Aside0.mk (fun u : Value => below_set (j := 0) (v := u) HB7.out hg)
  generalize (xs ++ varint num.toNat).length = nx at *
  clear hpos
  go_wp2_with fail
  go_ret
  exact ⟨rfl, HBF.out _⟩

set_option maxRecDepth 100000 in
theorem contract (H : Type) (enc : TypeId × Value → H) (W : World) (base : Nat) (args : Array Value) (ds gs : List (DataW H)) (before : List MemPlace)
    (hval : ∀ (j : Nat) t v, Try.f5.params[j]? = some t → args[j]? = some v → Value.okWide Try.prog W .any base t v)
    (hW : DataW.Whole enc Try.prog Try.f5.params.toList Rows.wireNumbersSpec.vars false W args.toList ds gs before) (hk : Rows.uptoSmall H (ds ++ gs) = true) :
    Calls Try.prog 5 args W fun e W' => ∃ v, e = .returned v ∧ Rows.wireNumbersSpec.post enc Try.prog Try.f5 false true false false W args v W' := by
  have hW' := hW
  obtain ⟨p, q, hA0, hV, rfl, hfz, hnd⟩ := hW
  have hA : DataW.TrodAll enc Try.prog W 0 (fun _ => true) true Try.f5.params.toList args.toList ds p := hA0
  rw [Try.params5] at hA hval
  obtain ⟨v0, vs0, d0, ds0, p0, q0, hargs, rfl, rfl, h0, r0⟩ := trodAll_cons hA
  obtain ⟨v1, vs1, d1, ds1, p1, q1, rfl, rfl, rfl, h1, r1⟩ := trodAll_cons r0
  obtain ⟨v2, vs2, d2, ds2, p2, q2, rfl, rfl, rfl, h2, r2⟩ := trodAll_cons r1
  obtain ⟨v3, vs3, d3, ds3, p3, q3, rfl, rfl, rfl, h3, r3⟩ := trodAll_cons r2
  obtain ⟨rfl, rfl, rfl⟩ := trodAll_nil r3
  obtain rfl : args = #[v0, v1, v2, v3] := by cases args; simp_all
  obtain ⟨rfl, rfl⟩ := trodVars_none hV
  have hbulk := of_decide_eq_true hk
  have k0 := h0
  have lt0 : ∀ x ∈ p0, x.block < W.heap.size := by obtain ⟨m, hm⟩ := k0; exact DataW.trod_lt m _ _ _ hm
  obtain ⟨a0, len0, cap0, rfl⟩ := okWide_slice Try.underlying22 (hval 0 22 v0 rfl rfl)
  obtain ⟨xs0, hl0, hC0, hb0⟩ := open_bytes Try.underlying22 Try.underlying5 (by kernel_rfl) h0
  have k1 := h1
  have lt1 : ∀ x ∈ p1, x.block < W.heap.size := by obtain ⟨m, hm⟩ := k1; exact DataW.trod_lt m _ _ _ hm
  obtain ⟨a1, rfl, _, _, w1⟩ := open_int Try.underlying32 (hval 1 32 v1 rfl rfl) h1
  have k2 := h2
  have lt2 : ∀ x ∈ p2, x.block < W.heap.size := by obtain ⟨m, hm⟩ := k2; exact DataW.trod_lt m _ _ _ hm
  obtain ⟨a2, rfl, _, _, w2⟩ := open_int Try.underlying2 (hval 2 2 v2 rfl rfl) h2
  have k3 := h3
  have lt3 : ∀ x ∈ p3, x.block < W.heap.size := by obtain ⟨m, hm⟩ := k3; exact DataW.trod_lt m _ _ _ hm
  obtain ⟨a3, rfl, d_eq3, _, w3⟩ := open_string Try.underlying9 (hval 3 9 v3 rfl rfl) h3
  clear hA0
  refine (walk xs0 len0 cap0 a0 a1 a2 a3 W hC0 hb0 w1 w2 (by
    have b0 := bulk_nums Try.underlying22 Try.underlying5 (by kernel_rfl) k0
    simp only [List.append_nil, bulk_cons, bulk_nil, d_eq3, bulk_string] at hbulk
    have e : a3.data.toList.length = a3.size := by rw [Array.length_toList]; rfl
    omega)).mono fun e W' ⟨he, bel⟩ => ?_
  subst he
  exact ⟨_, rfl, _, _, _, [], _, [], hW', trodAll_mk1 (shut_bool Try.underlying4 _), (trodAll_cons_mk (Below.trod laidOut (by kernel_rfl) (of_decide_eq_true (by kernel_rfl)) k0 bel lt0) (trodAll_cons_mk (Below.trod laidOut (by kernel_rfl) (of_decide_eq_true (by kernel_rfl)) k1 bel lt1) (trodAll_cons_mk (Below.trod laidOut (by kernel_rfl) (of_decide_eq_true (by kernel_rfl)) k2 bel lt2) (trodAll_cons_mk (Below.trod laidOut (by kernel_rfl) (of_decide_eq_true (by kernel_rfl)) k3 bel lt3) trodAll_mk0)))), rfl, bel.frame _, fun h => by cases h⟩

set_option maxRecDepth 100000 in
theorem lifted (os : Os) (started : os.Started) (H : Type) (enc : TypeId × Value → H) (F : Stop.Interp) :
    ReturnsInHanded {} Try.checked os 5 .any ((Rows.OpenSpec.upto Rows.wireNumbersSpec).pre6 enc Try.prog Try.f5 Rows.wireNumbersUptoRow.domain false) (((Rows.OpenSpec.upto Rows.wireNumbersSpec).at F).post enc Try.prog Try.f5 false true false false) := by
  refine returnsInHanded_of_cond (C := Try.checked) (s := Rows.OpenSpec.upto Rows.wireNumbersSpec) (k := Rows.uptoSmall) rfl own started (by kernel_rfl) Try.func5
    (OpenSpec.witness (enc := enc) (C := Try.checked) (s := Rows.OpenSpec.upto Rows.wireNumbersSpec) (k := Rows.uptoSmall) rfl false ⟨#[], #[.slice none 0 0, .int .u64 0, .int .i64 0, .string .empty], []⟩ 8 (by kernel_rfl) (by kernel_rfl) (by kernel_rfl)
      (x := ([.nil, .lit (.int .u64 0), .lit (.int .i64 0), .lit (.string [])], [], [])) (by kernel_rfl) rfl (by kernel_rfl)) ?_
  intro W base args ds gs before hval hW _ hk _
  exact contract H enc W base args ds gs before hval hW hk

/-- The law. -/
theorem proved : Rows.WireNumbersUptoSaid :=
  OpenClaim.holds_of_cond 5 Try.f5 rfl rfl rfl rfl rfl rfl rfl ⟨rfl, rfl, rfl, rfl, rfl⟩ rfl rfl rfl rfl rfl (by kernel_rfl) Try.func5 (by kernel_rfl)
    (of_decide_eq_true (by kernel_rfl)) (by unfold Func.isWrapper; first | (rw [if_pos (by decide +kernel)]; kernel_rfl) | (rw [if_neg (by decide +kernel)]; exact ⟨rfl, rfl⟩))
    (fun os started H enc _ F => lifted os started H enc F)
#print axioms proved
end Go.Proofs.Ytobddbkffefbkaa.wireNumbers
