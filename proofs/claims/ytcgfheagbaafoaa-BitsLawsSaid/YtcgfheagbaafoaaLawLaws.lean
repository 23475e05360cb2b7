/-
  Proved: a set and what is not in it share nothing, and have all; not of both is what is not in one of both (the law BitsLaws); no condition.
-/
import Derived.Test.YtcgfheagbaafoaaRows
import Derived.Test.YtcgfheagbaafoaaAwake2
import Derived.Test.YtcgfheagbaafoaaMadeLaw
import Derived.Test.YtcgfheagbaafoaaOpen
import Derived.ProofKit
import Derived.OpenShut
import Derived.ShutString
import Derived.ChangeOld
namespace Go.Proofs.Ytcgfheagbaafoaa.bitsLaws
set_option linter.unusedVariables false
set_option linter.unusedSimpArgs false
open Go.RowKit Go.Proofs.YtcgfheagbaafoaaW.PrintWords Go.Proofs.Ytcgfheagbaafoaa.Lib
open Go.ChangeShapes Go.WideShapes Go.ChangeAt
open Go.ChangeMaps (open_string shut_string)
theorem own : ownKnob Try.prog.godebug = none := by kernel_rfl
theorem laidOut : laidOutB Try.prog = true := by kernel_rfl
open Go.Proofs.Ytcgfheagbaafoaa.Pack Go.Proofs.Ytcgfheagbaafoaa.PackA Go.Proofs.Ytcgfheagbaafoaa.Sets
open Go.Proofs.YtcgfheagbaafoaaW.PrintLast

theorem i64_bd {n : Int} (h : (Lit.int .i64 n).wf = true) : -9223372036854775808 ≤ n ∧ n ≤ 9223372036854775807 := by
  simp only [Lit.wf, Bool.and_eq_true, decide_eq_true_eq] at h; exact h
set_option maxRecDepth 100000 in
set_option maxHeartbeats 1600000 in
theorem walk (n0 : Int) (l : List Int) (A : Option Addr) (m c : Nat) (l2 : List Int) (A2 : Option Addr) (m2 c2 : Nat) (w : World) (hC : Kd.C (Kd.int .i64) w A m l) (hl : ∀ x ∈ l, -9223372036854775808 ≤ x ∧ x ≤ 9223372036854775807)
    (hC2 : Kd.C (Kd.int .i64) w A2 m2 l2) (hl2 : ∀ x ∈ l2, -9223372036854775808 ≤ x ∧ x ≤ 9223372036854775807) (h0 : -9223372036854775808 ≤ n0) (h1 : n0 ≤ 9223372036854775807) :
    Calls Try.prog 5 #[.int .i64 n0, .slice A m c, .slice A2 m2 c2] w fun e w' => e = .returned (.bool true) ∧ Below w.heap.size w w' := by
  have HC := Aside0.mk hC
  have HL := Aside0.mk hl
  have HC2 := Aside0.mk hC2
  have HL2 := Aside0.mk hl2
  have HR := Aside0.mk (fun w => rows_calls n0 w h0 h1)
  have hn : absOf n0 % 300 < 300 := Nat.mod_lt _ (by decide)
  clear hC hl hC2 hl2
  generalize absOf n0 % 300 = n at *
  go_enter Try.func5, Try.ntmps5
  go_wp2_with fail
  refine (awake_calls w).mono ?_
  rintro e w1 ⟨rfl, hb1⟩
  have HB1 := Aside0.mk hb1
  clear hb1
  go_wp2_with fail
  refine (HR.out w1).mono ?_
  rintro e w2 ⟨rfl, rfl⟩
  go_wp2_with fail
  refine (madel_calls n l A m c w1 (by omega) (Kd.C_below HC.out HB1.out) HL.out).mono ?_
  rintro e w3 ⟨g3, v3, rfl, hs, -, hb⟩
  have HB3 := Aside0.mk (below_then HB1.out HB1.out.size hb)
  have HS3 := Aside0.mk hs
  clear hs hb HB1
  go_wp2_with fail
  refine (madel_calls n l2 A2 m2 c2 w3 (by omega) (Kd.C_below HC2.out HB3.out) HL2.out).mono ?_
  rintro e w4 ⟨g4, v4, rfl, hs, -, hb⟩
  have HB4 := Aside0.mk (below_then HB3.out HB3.out.size hb)
  have HS4 := Aside0.mk hs
  replace HS3 := Aside0.mk (FSet.below HS3.out hb)
  clear hs hb HB3
  generalize inP l = fs at *
  generalize inP l2 = ft at *
  (go_wp2_with fail; refine (and_calls w4 _ g3 _ g4 n fs ft HS3.out HS4.out).mono ?_; rintro e w5 ⟨g5, rfl, hs, hb⟩; have HB5 := Aside0.mk (below_then HB4.out HB4.out.size hb); have HS5 := Aside0.mk (show FSet _ _ _ _ _ from hs); replace HS3 := Aside0.mk (FSet.below HS3.out hb); replace HS4 := Aside0.mk (FSet.below HS4.out hb); clear hs hb HB4)
  (go_wp2_with fail; refine (not_calls w5 _ g3 n fs HS3.out).mono ?_; rintro e w6 ⟨g6, rfl, hs, hb⟩; have HB6 := Aside0.mk (below_then HB5.out HB5.out.size hb); have HS6 := Aside0.mk (show FSet _ _ _ _ _ from hs); replace HS3 := Aside0.mk (FSet.below HS3.out hb); replace HS4 := Aside0.mk (FSet.below HS4.out hb); replace HS5 := Aside0.mk (FSet.below HS5.out hb); clear hs hb HB5)
  (go_wp2_with fail; refine (not_calls w6 _ g4 n ft HS4.out).mono ?_; rintro e w7 ⟨g7, rfl, hs, hb⟩; have HB7 := Aside0.mk (below_then HB6.out HB6.out.size hb); have HS7 := Aside0.mk (show FSet _ _ _ _ _ from hs); replace HS3 := Aside0.mk (FSet.below HS3.out hb); replace HS4 := Aside0.mk (FSet.below HS4.out hb); replace HS5 := Aside0.mk (FSet.below HS5.out hb); replace HS6 := Aside0.mk (FSet.below HS6.out hb); clear hs hb HB6)
  (go_wp2_with fail; refine (or_calls w7 _ g6 _ g7 n _ _ HS6.out HS7.out).mono ?_; rintro e w8 ⟨g8, rfl, hs, hb⟩; have HB8 := Aside0.mk (below_then HB7.out HB7.out.size hb); have HS8 := Aside0.mk (show FSet _ _ _ _ _ from hs); replace HS3 := Aside0.mk (FSet.below HS3.out hb); replace HS4 := Aside0.mk (FSet.below HS4.out hb); replace HS5 := Aside0.mk (FSet.below HS5.out hb); clear hs hb HB7)
  (go_wp2_with fail; refine (not_calls w8 _ g3 n fs HS3.out).mono ?_; rintro e w9 ⟨g9, rfl, hs, hb⟩; have HB9 := Aside0.mk (below_then HB8.out HB8.out.size hb); have HS9 := Aside0.mk (show FSet _ _ _ _ _ from hs); replace HS3 := Aside0.mk (FSet.below HS3.out hb); replace HS5 := Aside0.mk (FSet.below HS5.out hb); replace HS8 := Aside0.mk (FSet.below HS8.out hb); clear hs hb HB8)
  (go_wp2_with fail; refine (and_calls w9 _ g3 _ g9 n _ _ HS3.out HS9.out).mono ?_; rintro e w10 ⟨g10, rfl, hs, hb⟩; have HB10 := Aside0.mk (below_then HB9.out HB9.out.size hb); have HS10 := Aside0.mk (show FSet _ _ _ _ _ from hs); replace HS3 := Aside0.mk (FSet.below HS3.out hb); replace HS5 := Aside0.mk (FSet.below HS5.out hb); replace HS8 := Aside0.mk (FSet.below HS8.out hb); clear hs hb HB9)
  (go_wp2_with fail; refine (not_calls w10 _ g3 n fs HS3.out).mono ?_; rintro e w11 ⟨g11, rfl, hs, hb⟩; have HB11 := Aside0.mk (below_then HB10.out HB10.out.size hb); have HS11 := Aside0.mk (show FSet _ _ _ _ _ from hs); replace HS3 := Aside0.mk (FSet.below HS3.out hb); replace HS5 := Aside0.mk (FSet.below HS5.out hb); replace HS8 := Aside0.mk (FSet.below HS8.out hb); replace HS10 := Aside0.mk (FSet.below HS10.out hb); clear hs hb HB10)
  (go_wp2_with fail; refine (or_calls w11 _ g3 _ g11 n _ _ HS3.out HS11.out).mono ?_; rintro e w12 ⟨g12, rfl, hs, hb⟩; have HB12 := Aside0.mk (below_then HB11.out HB11.out.size hb); have HS12 := Aside0.mk (show FSet _ _ _ _ _ from hs); replace HS3 := Aside0.mk (FSet.below HS3.out hb); replace HS5 := Aside0.mk (FSet.below HS5.out hb); replace HS8 := Aside0.mk (FSet.below HS8.out hb); replace HS10 := Aside0.mk (FSet.below HS10.out hb); clear hs hb HB11)
  clear HS4 HS6 HS7 HS9 HS11
  replace HS8 : Aside0 (FSet w12 _ g8 n (fun i => !(fs i && ft i))) := ⟨by have h := HS8.out; simpa only [Bool.not_and] using h⟩
  have HK10 := Aside0.mk (show ((cnt (fun i => fs i && !fs i) n : Nat) : Int) = 0 by rw [cnt_none n (fun i _ => by cases fs i <;> rfl)]; rfl)
  have HK12 := Aside0.mk (show ((cnt (fun i => fs i || !fs i) n : Nat) : Int) = (n : Int) by rw [cnt_all n (fun i _ => by cases fs i <;> rfl)])
  have hk3 := cnt_not fs n
  obtain ⟨ka, HKa⟩ : ∃ ka : Nat, Aside0 (((cnt fs n : Nat) : Int) = (ka : Int)) := ⟨_, ⟨rfl⟩⟩
  obtain ⟨kb, HKb⟩ : ∃ kb : Nat, Aside0 (((cnt (fun i => !fs i) n : Nat) : Int) = (kb : Int)) := ⟨_, ⟨rfl⟩⟩
  have hka := HKa.out
  have hkb := HKb.out
  have hsum : IntKind.i64.wrap ((ka : Int) + (kb : Int)) = (n : Int) := by rw [IntKind.wrap_i64]; omega
  obtain ⟨bl, HBl⟩ : ∃ bl, Aside0 (bytesF (fun i => !(fs i && ft i)) n = bl) := ⟨_, ⟨rfl⟩⟩
  obtain ⟨sb, HSb⟩ : ∃ sb, Aside0 (strOfNums bl = sb) := ⟨_, ⟨rfl⟩⟩
  clear hka hkb hk3
  have HBd := Aside0.mk (below_drew (Below.refl w12.heap.size w12))
  go_wp2_with fail
  refine start_ (n := 30) (S := fun w' => True) (ds := []) #[false, false, false, false, false, false, false, false, false, false, false, false, false, false, false, false, false, false, false, false, false, false, false, false, false, false, false, false, false, false] (by kernel_rfl) rfl rfl trivial (fun hHeld => ?_)
  refine pure_ (i := 0) (N := some 89) (v := ?_) (a' := ?_) #[true, false, false, false, false, false, false, false, false, false, false, false, false, false, false, false, false, false, false, false, false, false, false, false, false, false, false, false, false, false] rfl rfl (by kernel_rfl) (fun _ _ _ h => h) (Or.inl ⟨by rfl, ?_⟩) ?_ ?_
  rotate_left
  · intro w'
    go_simp
    with_reducible rfl
  rotate_left
  · simp only [Act.put, List.setIfInBounds_toArray, List.set_cons_zero, List.set_cons_succ, i64_w, i32_w]
    rfl
  refine pure_ (i := 4) (N := some 93) (v := ?_) (a' := ?_) #[true, false, false, false, true, false, false, false, false, false, false, false, false, false, false, false, false, false, false, false, false, false, false, false, false, false, false, false, false, false] rfl rfl (by kernel_rfl) (fun _ _ _ h => h) (Or.inl ⟨by rfl, ?_⟩) ?_ ?_
  rotate_left
  · intro w'
    go_simp
    with_reducible rfl
  rotate_left
  · simp only [Act.put, List.setIfInBounds_toArray, List.set_cons_zero, List.set_cons_succ, i64_w, i32_w]
    rfl
  refine one_ (i := 1) (N := some 90) #[true, true, false, false, true, false, false, false, false, false, false, false, false, false, false, false, false, false, false, false, false, false, false, false, false, false, false, false, false, false] rfl rfl (by kernel_rfl) (by decide) (fun K hK => ?_)
  refine goes_ Try.func18 (by kernel_rfl) rfl #[.pointer (some ⟨g5, 0, none⟩)] (by rfl) rfl rfl (by simp only [List.map_toArray, List.map_cons, List.map_nil]; rfl) ?_
  with_reducible refine (not_calls _ _ g5 n _ (FSet.below HS5.out HBd.out)).mono ?_
  rintro e w13 ⟨g13, rfl, hs, hb⟩
  refine ⟨_, rfl, ?_⟩
  replace hb : Below w12.heap.size w12 w13 := below_then HBd.out (Nat.le_refl _) hb
  have HB13 := Aside0.mk (below_then HB12.out HB12.out.size hb)
  have HS13 := Aside0.mk (show FSet _ _ _ _ _ from hs)
  replace HS3 := Aside0.mk (FSet.below HS3.out hb)
  replace HS8 := Aside0.mk (FSet.below HS8.out hb)
  replace HS10 := Aside0.mk (FSet.below HS10.out hb)
  replace HS12 := Aside0.mk (FSet.below HS12.out hb)
  clear hs hb HB12 HS5
  refine hK.out _ _ trivial (fun hHeld => ?_)
  clear hK K
  refine norm_ (a' := ?_) ?_ ?_
  rotate_left
  · show Act.put _ (some 90) _ = _
    simp only [Act.put, List.setIfInBounds_toArray, List.set_cons_zero, List.set_cons_succ, i64_w, i32_w]
    rfl
  refine one_ (i := 2) (N := some 91) #[true, true, true, false, true, false, false, false, false, false, false, false, false, false, false, false, false, false, false, false, false, false, false, false, false, false, false, false, false, false] rfl rfl (by kernel_rfl) (by decide) (fun K hK => ?_)
  refine goes_ Try.func20 (by kernel_rfl) rfl #[.pointer (some ⟨g13, 0, none⟩)] (by rfl) rfl rfl (by simp only [List.map_toArray, List.map_cons, List.map_nil]; rfl) ?_
  with_reducible refine (bytesf_calls w13 _ g13 n _ HS13.out).mono ?_
  rintro e w14 ⟨v14, rfl, ho, hb⟩
  refine ⟨_, rfl, ?_⟩
  rw [HBl.out] at ho
  obtain ⟨A14, c14, rfl, -, hC⟩ := Kd.R_reads ho
  have HV14 : Aside0 (∀ w', Below w14.heap.size w14 w' → (convert 23 9 (.slice A14 bl.length c14)).run Try.prog w' = .ok (.string sb) w') := ⟨fun w' hb' => by rw [← HSb.out]; exact Kd.C_string Try.underlying23 Try.underlying5 Try.underlying9 (Kd.C_below hC hb')⟩
  have HB14 := Aside0.mk (below_then HB13.out HB13.out.size hb)
  replace HS3 := Aside0.mk (FSet.below HS3.out hb)
  replace HS8 := Aside0.mk (FSet.below HS8.out hb)
  replace HS10 := Aside0.mk (FSet.below HS10.out hb)
  replace HS12 := Aside0.mk (FSet.below HS12.out hb)
  clear ho hb hC HB13 HS13
  refine hK.out _ _ trivial (fun hHeld => ?_)
  clear hK K
  refine norm_ (a' := ?_) ?_ ?_
  rotate_left
  · show Act.put _ (some 91) _ = _
    simp only [Act.put, List.setIfInBounds_toArray, List.set_cons_zero, List.set_cons_succ, i64_w, i32_w]
    rfl
  refine more_ (S' := fun w' => (convert 23 9 (.slice A14 bl.length c14)).run Try.prog w' = .ok (.string sb) w') (fun _ h => trivial) ((HV14.out _ (Below.refl _ _))) (fun hHeld => ?_)
  refine take_ (i := 3) (N := some 92) (v := ?_) (a' := ?_) #[true, true, true, true, true, false, false, false, false, false, false, false, false, false, false, false, false, false, false, false, false, false, false, false, false, false, false, false, false, false] rfl rfl (by kernel_rfl) (fun _ _ _ h => h) (Or.inl ⟨by rfl, ?_⟩) hHeld ?_ ?_
  rotate_left
  · intro w' s0
    go_simp
    with_reducible rfl
  rotate_left
  · simp only [Act.put, List.setIfInBounds_toArray, List.set_cons_zero, List.set_cons_succ, i64_w, i32_w]
    rfl
  refine one_ (i := 5) (N := some 94) #[true, true, true, true, true, true, false, false, false, false, false, false, false, false, false, false, false, false, false, false, false, false, false, false, false, false, false, false, false, false] rfl rfl (by kernel_rfl) (by decide) (fun K hK => ?_)
  refine goes_ Try.func20 (by kernel_rfl) rfl #[.pointer (some ⟨g8, 0, none⟩)] (by rfl) rfl rfl (by simp only [List.map_toArray, List.map_cons, List.map_nil]; rfl) ?_
  with_reducible refine (bytesf_calls w14 _ g8 n _ HS8.out).mono ?_
  rintro e w15 ⟨v15, rfl, ho, hb⟩
  refine ⟨_, rfl, ?_⟩
  rw [HBl.out] at ho
  obtain ⟨A15, c15, rfl, -, hC⟩ := Kd.R_reads ho
  have HV15 : Aside0 (∀ w', Below w15.heap.size w15 w' → (convert 23 9 (.slice A15 bl.length c15)).run Try.prog w' = .ok (.string sb) w') := ⟨fun w' hb' => by rw [← HSb.out]; exact Kd.C_string Try.underlying23 Try.underlying5 Try.underlying9 (Kd.C_below hC hb')⟩
  have HB15 := Aside0.mk (below_then HB14.out HB14.out.size hb)
  replace HV14 := Aside0.mk (fun w' (h : Below w15.heap.size w15 w') => HV14.out w' (below_then hb hb.size h))
  replace HS3 := Aside0.mk (FSet.below HS3.out hb)
  replace HS10 := Aside0.mk (FSet.below HS10.out hb)
  replace HS12 := Aside0.mk (FSet.below HS12.out hb)
  clear ho hb hC HB14 HS8
  refine hK.out _ _ ((HV14.out _ (Below.refl _ _))) (fun hHeld => ?_)
  clear hK K
  refine norm_ (a' := ?_) ?_ ?_
  rotate_left
  · show Act.put _ (some 94) _ = _
    simp only [Act.put, List.setIfInBounds_toArray, List.set_cons_zero, List.set_cons_succ, i64_w, i32_w]
    rfl
  refine more_ (S' := fun w' => (convert 23 9 (.slice A14 bl.length c14)).run Try.prog w' = .ok (.string sb) w' ∧ (convert 23 9 (.slice A15 bl.length c15)).run Try.prog w' = .ok (.string sb) w') (fun _ h => (h.1)) ⟨hHeld, (HV15.out _ (Below.refl _ _))⟩ (fun hHeld => ?_)
  refine take_ (i := 6) (N := some 95) (v := ?_) (a' := ?_) #[true, true, true, true, true, true, true, false, false, false, false, false, false, false, false, false, false, false, false, false, false, false, false, false, false, false, false, false, false, false] rfl rfl (by kernel_rfl) (fun _ _ _ h => h) (Or.inl ⟨by rfl, ?_⟩) hHeld ?_ ?_
  rotate_left
  · rintro w' ⟨s0, s1⟩
    go_simp
    with_reducible rfl
  rotate_left
  · simp only [Act.put, List.setIfInBounds_toArray, List.set_cons_zero, List.set_cons_succ, i64_w, i32_w]
    rfl
  refine pure_ (i := 7) (N := some 96) (v := ?_) (a' := ?_) #[true, true, true, true, true, true, true, true, false, false, false, false, false, false, false, false, false, false, false, false, false, false, false, false, false, false, false, false, false, false] rfl rfl (by kernel_rfl) (fun _ _ _ h => h) (Or.inl ⟨by rfl, ?_⟩) ?_ ?_
  rotate_left
  · intro w'
    go_simp
    with_reducible rfl
  rotate_left
  · simp only [Act.put, List.setIfInBounds_toArray, List.set_cons_zero, List.set_cons_succ, i64_w, i32_w]
    rfl
  refine pure_ (i := 8) (N := some 97) (v := ?_) (a' := ?_) #[true, true, true, true, true, true, true, true, true, false, false, false, false, false, false, false, false, false, false, false, false, false, false, false, false, false, false, false, false, false] rfl rfl (by kernel_rfl) (fun _ _ _ h => h) (Or.inl ⟨by rfl, ?_⟩) ?_ ?_
  rotate_left
  · intro w'
    go_simp
    with_reducible rfl
  rotate_left
  · simp only [Act.put, List.setIfInBounds_toArray, List.set_cons_zero, List.set_cons_succ, i64_w, i32_w]
    rfl
  refine pure_ (i := 9) (N := some 98) (v := ?_) (a' := ?_) #[true, true, true, true, true, true, true, true, true, true, false, false, false, false, false, false, false, false, false, false, false, false, false, false, false, false, false, false, false, false] rfl rfl (by kernel_rfl) (fun _ _ _ h => h) (Or.inl ⟨by rfl, ?_⟩) ?_ ?_
  rotate_left
  · intro w'
    go_simp
    with_reducible rfl
  rotate_left
  · simp only [Act.put, List.setIfInBounds_toArray, List.set_cons_zero, List.set_cons_succ, i64_w, i32_w]
    rfl
  refine one_ (i := 10) (N := some 99) #[true, true, true, true, true, true, true, true, true, true, true, false, false, false, false, false, false, false, false, false, false, false, false, false, false, false, false, false, false, false] rfl rfl (by kernel_rfl) (by decide) (fun K hK => ?_)
  refine goes_ Try.func21 (by kernel_rfl) rfl #[.pointer (some ⟨g10, 0, none⟩)] (by rfl) rfl rfl (by simp only [List.map_toArray, List.map_cons, List.map_nil]; rfl) ?_
  with_reducible refine (countf_calls w15 _ g10 n _ _ HK10.out HS10.out).mono ?_
  rintro e w16 ⟨rfl, rfl⟩
  refine ⟨_, rfl, ?_⟩
  refine hK.out _ _ ⟨hHeld.1, hHeld.2⟩ (fun hHeld => ?_)
  clear hK K
  refine norm_ (a' := ?_) ?_ ?_
  rotate_left
  · show Act.put _ (some 99) _ = _
    simp only [Act.put, List.setIfInBounds_toArray, List.set_cons_zero, List.set_cons_succ, i64_w, i32_w]
    rfl
  refine pure_ (i := 11) (N := some 100) (v := ?_) (a' := ?_) #[true, true, true, true, true, true, true, true, true, true, true, true, false, false, false, false, false, false, false, false, false, false, false, false, false, false, false, false, false, false] rfl rfl (by kernel_rfl) (fun _ _ _ h => h) (Or.inl ⟨by rfl, ?_⟩) ?_ ?_
  rotate_left
  · intro w'
    go_simp
    with_reducible rfl
  rotate_left
  · simp only [Act.put, List.setIfInBounds_toArray, List.set_cons_zero, List.set_cons_succ, i64_w, i32_w]
    rfl
  refine pure_ (i := 12) (N := some 101) (v := ?_) (a' := ?_) #[true, true, true, true, true, true, true, true, true, true, true, true, true, false, false, false, false, false, false, false, false, false, false, false, false, false, false, false, false, false] rfl rfl (by kernel_rfl) (fun _ _ _ h => h) (Or.inl ⟨by rfl, ?_⟩) ?_ ?_
  rotate_left
  · intro w'
    go_simp
    with_reducible rfl
  rotate_left
  · simp only [Act.put, List.setIfInBounds_toArray, List.set_cons_zero, List.set_cons_succ, i64_w, i32_w]
    rfl
  refine pure_ (i := 13) (N := some 102) (v := ?_) (a' := ?_) #[true, true, true, true, true, true, true, true, true, true, true, true, true, true, false, false, false, false, false, false, false, false, false, false, false, false, false, false, false, false] rfl rfl (by kernel_rfl) (fun _ _ _ h => h) (Or.inl ⟨by rfl, ?_⟩) ?_ ?_
  rotate_left
  · intro w'
    go_simp
    with_reducible rfl
  rotate_left
  · simp only [Act.put, List.setIfInBounds_toArray, List.set_cons_zero, List.set_cons_succ, i64_w, i32_w]
    rfl
  refine pure_ (i := 14) (N := some 103) (v := ?_) (a' := ?_) #[true, true, true, true, true, true, true, true, true, true, true, true, true, true, true, false, false, false, false, false, false, false, false, false, false, false, false, false, false, false] rfl rfl (by kernel_rfl) (fun _ _ _ h => h) (Or.inl ⟨by rfl, ?_⟩) ?_ ?_
  rotate_left
  · intro w'
    go_simp
    with_reducible rfl
  rotate_left
  · simp only [Act.put, List.setIfInBounds_toArray, List.set_cons_zero, List.set_cons_succ, i64_w, i32_w]
    rfl
  refine pure_ (i := 16) (N := some 105) (v := ?_) (a' := ?_) #[true, true, true, true, true, true, true, true, true, true, true, true, true, true, true, false, true, false, false, false, false, false, false, false, false, false, false, false, false, false] rfl rfl (by kernel_rfl) (fun _ _ _ h => h) (Or.inl ⟨by rfl, ?_⟩) ?_ ?_
  rotate_left
  · intro w'
    go_simp
    with_reducible rfl
  rotate_left
  · simp only [Act.put, List.setIfInBounds_toArray, List.set_cons_zero, List.set_cons_succ, i64_w, i32_w]
    rfl
  refine one_ (i := 15) (N := some 104) #[true, true, true, true, true, true, true, true, true, true, true, true, true, true, true, true, true, false, false, false, false, false, false, false, false, false, false, false, false, false] rfl rfl (by kernel_rfl) (by decide) (fun K hK => ?_)
  refine goes_ Try.func21 (by kernel_rfl) rfl #[.pointer (some ⟨g12, 0, none⟩)] (by rfl) rfl rfl (by simp only [List.map_toArray, List.map_cons, List.map_nil]; rfl) ?_
  with_reducible refine (countf_calls w15 _ g12 n _ _ HK12.out HS12.out).mono ?_
  rintro e w16 ⟨rfl, rfl⟩
  refine ⟨_, rfl, ?_⟩
  refine hK.out _ _ ⟨hHeld.1, hHeld.2⟩ (fun hHeld => ?_)
  clear hK K
  refine norm_ (a' := ?_) ?_ ?_
  rotate_left
  · show Act.put _ (some 104) _ = _
    simp only [Act.put, List.setIfInBounds_toArray, List.set_cons_zero, List.set_cons_succ, i64_w, i32_w]
    rfl
  refine pure_ (i := 17) (N := some 106) (v := ?_) (a' := ?_) #[true, true, true, true, true, true, true, true, true, true, true, true, true, true, true, true, true, true, false, false, false, false, false, false, false, false, false, false, false, false] rfl rfl (by kernel_rfl) (fun _ _ _ h => h) (Or.inl ⟨by rfl, ?_⟩) ?_ ?_
  rotate_left
  · intro w'
    go_simp
    with_reducible rfl
  rotate_left
  · simp only [Act.put, List.setIfInBounds_toArray, List.set_cons_zero, List.set_cons_succ, i64_w, i32_w]
    rfl
  refine pure_ (i := 18) (N := some 107) (v := ?_) (a' := ?_) #[true, true, true, true, true, true, true, true, true, true, true, true, true, true, true, true, true, true, true, false, false, false, false, false, false, false, false, false, false, false] rfl rfl (by kernel_rfl) (fun _ _ _ h => h) (Or.inl ⟨by rfl, ?_⟩) ?_ ?_
  rotate_left
  · intro w'
    go_simp
    with_reducible rfl
  rotate_left
  · simp only [Act.put, List.setIfInBounds_toArray, List.set_cons_zero, List.set_cons_succ, i64_w, i32_w]
    rfl
  refine pure_ (i := 19) (N := some 108) (v := ?_) (a' := ?_) #[true, true, true, true, true, true, true, true, true, true, true, true, true, true, true, true, true, true, true, true, false, false, false, false, false, false, false, false, false, false] rfl rfl (by kernel_rfl) (fun _ _ _ h => h) (Or.inl ⟨by rfl, ?_⟩) ?_ ?_
  rotate_left
  · intro w'
    go_simp
    with_reducible rfl
  rotate_left
  · simp only [Act.put, List.setIfInBounds_toArray, List.set_cons_zero, List.set_cons_succ, i64_w, i32_w]
    rfl
  refine pure_ (i := 20) (N := some 109) (v := ?_) (a' := ?_) #[true, true, true, true, true, true, true, true, true, true, true, true, true, true, true, true, true, true, true, true, true, false, false, false, false, false, false, false, false, false] rfl rfl (by kernel_rfl) (fun _ _ _ h => h) (Or.inl ⟨by rfl, ?_⟩) ?_ ?_
  rotate_left
  · intro w'
    go_simp
    with_reducible rfl
  rotate_left
  · simp only [Act.put, List.setIfInBounds_toArray, List.set_cons_zero, List.set_cons_succ, i64_w, i32_w]
    rfl
  refine pure_ (i := 22) (N := some 111) (v := ?_) (a' := ?_) #[true, true, true, true, true, true, true, true, true, true, true, true, true, true, true, true, true, true, true, true, true, false, true, false, false, false, false, false, false, false] rfl rfl (by kernel_rfl) (fun _ _ _ h => h) (Or.inl ⟨by rfl, ?_⟩) ?_ ?_
  rotate_left
  · intro w'
    go_simp
    with_reducible rfl
  rotate_left
  · simp only [Act.put, List.setIfInBounds_toArray, List.set_cons_zero, List.set_cons_succ, i64_w, i32_w]
    rfl
  refine pure_ (i := 26) (N := some 115) (v := ?_) (a' := ?_) #[true, true, true, true, true, true, true, true, true, true, true, true, true, true, true, true, true, true, true, true, true, false, true, false, false, false, true, false, false, false] rfl rfl (by kernel_rfl) (fun _ _ _ h => h) (Or.inl ⟨by rfl, ?_⟩) ?_ ?_
  rotate_left
  · intro w'
    go_simp
    with_reducible rfl
  rotate_left
  · simp only [Act.put, List.setIfInBounds_toArray, List.set_cons_zero, List.set_cons_succ, i64_w, i32_w]
    rfl
  refine one_ (i := 21) (N := some 110) #[true, true, true, true, true, true, true, true, true, true, true, true, true, true, true, true, true, true, true, true, true, true, true, false, false, false, true, false, false, false] rfl rfl (by kernel_rfl) (by decide) (fun K hK => ?_)
  refine goes_ Try.func21 (by kernel_rfl) rfl #[.pointer (some ⟨g3, 0, none⟩)] (by rfl) rfl rfl (by simp only [List.map_toArray, List.map_cons, List.map_nil]; rfl) ?_
  with_reducible refine (countf_calls w15 _ g3 n _ _ HKa.out HS3.out).mono ?_
  rintro e w16 ⟨rfl, rfl⟩
  refine ⟨_, rfl, ?_⟩
  refine hK.out _ _ ⟨hHeld.1, hHeld.2⟩ (fun hHeld => ?_)
  clear hK K
  refine norm_ (a' := ?_) ?_ ?_
  rotate_left
  · show Act.put _ (some 110) _ = _
    simp only [Act.put, List.setIfInBounds_toArray, List.set_cons_zero, List.set_cons_succ, i64_w, i32_w]
    rfl
  refine one_ (i := 23) (N := some 112) #[true, true, true, true, true, true, true, true, true, true, true, true, true, true, true, true, true, true, true, true, true, true, true, true, false, false, true, false, false, false] rfl rfl (by kernel_rfl) (by decide) (fun K hK => ?_)
  refine goes_ Try.func18 (by kernel_rfl) rfl #[.pointer (some ⟨g3, 0, none⟩)] (by rfl) rfl rfl (by simp only [List.map_toArray, List.map_cons, List.map_nil]; rfl) ?_
  with_reducible refine (not_calls w15 _ g3 n _ HS3.out).mono ?_
  rintro e w17 ⟨g17, rfl, hs, hb⟩
  refine ⟨_, rfl, ?_⟩
  have HB17 := Aside0.mk (below_then HB15.out HB15.out.size hb)
  have HS17 := Aside0.mk (show FSet _ _ _ _ _ from hs)
  have k1 := HV14.out _ hb
  have k2 := HV15.out _ hb
  clear hs hb HB15
  refine hK.out _ _ ⟨k1, k2⟩ (fun hHeld => ?_)
  clear hK K
  refine norm_ (a' := ?_) ?_ ?_
  rotate_left
  · show Act.put _ (some 112) _ = _
    simp only [Act.put, List.setIfInBounds_toArray, List.set_cons_zero, List.set_cons_succ, i64_w, i32_w]
    rfl
  refine one_ (i := 24) (N := some 113) #[true, true, true, true, true, true, true, true, true, true, true, true, true, true, true, true, true, true, true, true, true, true, true, true, true, false, true, false, false, false] rfl rfl (by kernel_rfl) (by decide) (fun K hK => ?_)
  refine goes_ Try.func21 (by kernel_rfl) rfl #[.pointer (some ⟨g17, 0, none⟩)] (by rfl) rfl rfl (by simp only [List.map_toArray, List.map_cons, List.map_nil]; rfl) ?_
  with_reducible refine (countf_calls w17 _ g17 n _ _ HKb.out HS17.out).mono ?_
  rintro e w18 ⟨rfl, rfl⟩
  refine ⟨_, rfl, ?_⟩
  refine hK.out _ _ ⟨hHeld.1, hHeld.2⟩ (fun hHeld => ?_)
  clear hK K
  refine norm_ (a' := ?_) ?_ ?_
  rotate_left
  · show Act.put _ (some 113) _ = _
    simp only [Act.put, List.setIfInBounds_toArray, List.set_cons_zero, List.set_cons_succ, i64_w, i32_w]
    rfl
  refine pure_ (i := 25) (N := some 114) (v := ?_) (a' := ?_) #[true, true, true, true, true, true, true, true, true, true, true, true, true, true, true, true, true, true, true, true, true, true, true, true, true, true, true, false, false, false] rfl rfl (by kernel_rfl) (fun _ _ _ h => h) (Or.inl ⟨by rfl, ?_⟩) ?_ ?_
  rotate_left
  · intro w'
    go_simp
    with_reducible rfl
  rotate_left
  · simp only [Act.put, List.setIfInBounds_toArray, List.set_cons_zero, List.set_cons_succ, i64_w, i32_w]
    rfl
  refine pure_ (i := 27) (N := some 116) (v := ?_) (a' := ?_) #[true, true, true, true, true, true, true, true, true, true, true, true, true, true, true, true, true, true, true, true, true, true, true, true, true, true, true, true, false, false] rfl rfl (by kernel_rfl) (fun _ _ _ h => h) (Or.inl ⟨by rfl, ?_⟩) ?_ ?_
  rotate_left
  · intro w'
    go_simp
    with_reducible rfl
  rotate_left
  · simp only [Act.put, List.setIfInBounds_toArray, List.set_cons_zero, List.set_cons_succ, i64_w, i32_w]
    rfl
  refine pure_ (i := 28) (N := some 117) (v := ?_) (a' := ?_) #[true, true, true, true, true, true, true, true, true, true, true, true, true, true, true, true, true, true, true, true, true, true, true, true, true, true, true, true, true, false] rfl rfl (by kernel_rfl) (fun _ _ _ h => h) (Or.inl ⟨by rfl, ?_⟩) ?_ ?_
  rotate_left
  · intro w'
    go_simp
    with_reducible rfl
  rotate_left
  · simp only [Act.put, List.setIfInBounds_toArray, List.set_cons_zero, List.set_cons_succ, i64_w, i32_w]
    rfl
  refine pure_ (i := 29) (N := some 6) (v := ?_) (a' := ?_) #[true, true, true, true, true, true, true, true, true, true, true, true, true, true, true, true, true, true, true, true, true, true, true, true, true, true, true, true, true, true] rfl rfl (by kernel_rfl) (fun _ _ _ h => h) (Or.inl ⟨by rfl, ?_⟩) ?_ ?_
  rotate_left
  · intro w'
    go_simp
    with_reducible rfl
  rotate_left
  · simp only [Act.put, List.setIfInBounds_toArray, List.set_cons_zero, List.set_cons_succ, i64_w, i32_w]
    rfl
  refine done_ (by kernel_rfl) ?_
  go_wp2_with fail
  go_ret
  exact ⟨rfl, HB17.out⟩

set_option maxRecDepth 100000 in
theorem lifted (os : Os) (started : os.Started) (H : Type) (enc : TypeId × Value → H) :
    ReturnsInHanded {} Try.checked os 5 .any (Rows.bitsLawsSpec.pre6 enc Try.prog Try.f5 Rows.bitsLawsRow.domain false) (Rows.bitsLawsSpec.post enc Try.prog Try.f5 false true false false) := by
  refine returnsInHanded_of_change (C := Try.checked) own started (by kernel_rfl) Try.func5
    (ChangeSpec.witness6 (enc := enc) (C := Try.checked) false ⟨#[], #[.int .i64 0, .slice none 0 0, .slice none 0 0], []⟩ 8 (by kernel_rfl) (by kernel_rfl) (by kernel_rfl) (by kernel_rfl)) ?_
  intro W base args ds gs before hval0 hW hcnd _
  have hval : ∀ (j : Nat) t v, Try.f5.params[j]? = some t → args[j]? = some v → Value.okWide Try.prog W .any base t v := hval0
  have hW' := hW
  obtain ⟨p, q, hA0, hV, rfl, hfz, hnd⟩ := hW
  have hA : DataW.TrodAll enc Try.prog W 0 (fun _ => true) true Try.f5.params.toList args.toList ds p := hA0
  rw [Try.params5] at hA hval
  obtain ⟨v0, vs0, d0, ds0, p0, q0, hargs, rfl, rfl, h0, r0⟩ := trodAll_cons hA
  obtain ⟨v1, vs1, d1, ds1, p1, q1, rfl, rfl, rfl, h1, r1⟩ := trodAll_cons r0
  obtain ⟨v2, vs2, d2, ds2, p2, q2, rfl, rfl, rfl, h2, r2⟩ := trodAll_cons r1
  obtain ⟨rfl, rfl, rfl⟩ := trodAll_nil r2
  obtain rfl : args = #[v0, v1, v2] := by cases args; simp_all
  obtain ⟨rfl, rfl⟩ := trodVars_none hV
  have k0 := h0
  have lt0 : ∀ x ∈ p0, x.block < W.heap.size := by obtain ⟨m, hm⟩ := k0; exact DataW.trod_lt m _ _ _ hm
  obtain ⟨a0, rfl, _, _, w0⟩ := open_int Try.underlying3 (hval 0 3 v0 rfl rfl) h0
  have k1 := h1
  have lt1 : ∀ x ∈ p1, x.block < W.heap.size := by obtain ⟨m, hm⟩ := k1; exact DataW.trod_lt m _ _ _ hm
  obtain ⟨a1, len1, cap1, rfl⟩ := okWide_slice Try.underlying22 (hval 1 22 v1 rfl rfl)
  obtain ⟨xs1, hl1, hm1, hC1, hb1⟩ := open_nums Try.underlying22 Try.underlying3 (by kernel_rfl) h1
  have k2 := h2
  have lt2 : ∀ x ∈ p2, x.block < W.heap.size := by obtain ⟨m, hm⟩ := k2; exact DataW.trod_lt m _ _ _ hm
  obtain ⟨a2, len2, cap2, rfl⟩ := okWide_slice Try.underlying22 (hval 2 22 v2 rfl rfl)
  obtain ⟨xs2, hl2, hm2, hC2, hb2⟩ := open_nums Try.underlying22 Try.underlying3 (by kernel_rfl) h2
  clear hA0 hval0
  refine (walk a0 xs1 _ _ _ xs2 _ _ _ W hC1 (fun x hx => i64_bd (hb1 x hx)) hC2 (fun x hx => i64_bd (hb2 x hx)) (i64_bd w0).1 (i64_bd w0).2).mono fun e W' ⟨he, bel⟩ => ?_
  subst he
  exact ⟨_, rfl, _, _, _, [], _, [], hW', trodAll_mk1 (shut_bool Try.underlying4 _), (trodAll_cons_mk (Below.trod laidOut (by kernel_rfl) (of_decide_eq_true (by kernel_rfl)) k0 bel lt0) (trodAll_cons_mk (Below.trod laidOut (by kernel_rfl) (of_decide_eq_true (by kernel_rfl)) k1 bel lt1) (trodAll_cons_mk (Below.trod laidOut (by kernel_rfl) (of_decide_eq_true (by kernel_rfl)) k2 bel lt2) trodAll_mk0))), rfl, bel.frame _, fun h => by cases h⟩

/-- The law. -/
theorem proved : Rows.BitsLawsSaid :=
  OpenClaim.holds_of_wide 5 Try.f5 rfl rfl rfl rfl rfl rfl rfl ⟨rfl, rfl, rfl, rfl, rfl⟩ rfl rfl rfl rfl rfl (by kernel_rfl) Try.func5 (by kernel_rfl)
    (of_decide_eq_true (by kernel_rfl)) (by unfold Func.isWrapper; first | (rw [if_pos (by decide +kernel)]; kernel_rfl) | (rw [if_neg (by decide +kernel)]; exact ⟨rfl, rfl⟩))
    (fun os started H enc _ => lifted os started H enc)
#print axioms proved
end Go.Proofs.Ytcgfheagbaafoaa.bitsLaws
