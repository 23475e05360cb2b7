/-
  Proved: sets of unlike rows, and none, are refused (the law BitsRefuse), as a card whose table (of math/bits) is tied to the program's text; no condition of ours.
-/
import Derived.Test.YtcgfheagbaafoaaDoorRows
import Derived.Test.YtcgfheagbaafoaaDoorCards
import Derived.Test.YtcgfheagbaafoaaDoorTie
import Derived.Test.YtcgfheagbaafoaaDoorAwake2
import Derived.Test.YtcgfheagbaafoaaDoorNone
import Derived.Test.YtcgfheagbaafoaaDoorOpen
import Derived.ProofKit
import Derived.OpenShut
import Derived.ShutString
import Derived.ChangeOld
import Derived.LaidMore
import Derived.Stop.Joined
import Derived.SevenTiedAt
import Derived.Lib.LaidTab
import Derived.MakeChecks
namespace Go.Proofs.YtcgfheagbaafoaaDoor.bitsRefuse
set_option linter.unusedVariables false
set_option linter.unusedSimpArgs false
open Go.RowKit Go.Proofs.YtcgfheagbaafoaaDoorW.PrintWords Go.Proofs.YtcgfheagbaafoaaDoor.Lib
open Go.ChangeShapes Go.WideShapes Go.ChangeAt
open Go.ChangeMaps (open_string shut_string)
theorem own : ownKnob Tryd.prog.godebug = none := by kernel_rfl
theorem laidOut : laidOutB Tryd.prog = true := by kernel_rfl
open Go.Proofs.YtcgfheagbaafoaaDoor.Pack Go.Proofs.YtcgfheagbaafoaaDoor.PackA Go.Proofs.YtcgfheagbaafoaaDoor.Sets
open Go.Proofs.YtcgfheagbaafoaaDoorW.PrintLast

theorem i64_bd {n : Int} (h : (Lit.int .i64 n).wf = true) : -9223372036854775808 ≤ n ∧ n ≤ 9223372036854775807 := by
  simp only [Lit.wf, Bool.and_eq_true, decide_eq_true_eq] at h; exact h
set_option maxRecDepth 100000 in
set_option maxHeartbeats 1600000 in
theorem walk (n0 m0 row : Int) (w : World) (h0 : -9223372036854775808 ≤ n0) (h1 : n0 ≤ 9223372036854775807) (h2 : -9223372036854775808 ≤ m0) (h3 : m0 ≤ 9223372036854775807) :
    Calls Tryd.prog 5 #[.int .i64 n0, .int .i64 m0, .int .i64 row] w fun e w' => e = .returned (.bool true) ∧ Below w.heap.size w w' := by
  have HR := Aside0.mk (fun w => rows_calls n0 w h0 h1)
  have hn : absOf n0 % 300 < 300 := Nat.mod_lt _ (by decide)
  generalize absOf n0 % 300 = n at *
  have HA := Aside0.mk (fun w => abs_calls m0 w h2 h3)
  have ha := absOf_lt h2 h3
  generalize absOf m0 = am at *
  have hmod : (am : Int).tmod 50 = ((am % 50 : Nat) : Int) := by rw [Int.tmod_eq_emod_of_nonneg (by omega)]; omega
  have hm5 : am % 50 < 50 := Nat.mod_lt _ (by decide)
  generalize am % 50 = ex at *
  obtain ⟨n2, hn2⟩ : ∃ n2, n2 = n + 1 + ex := ⟨_, rfl⟩
  have hsum : (n : Int) + 1 + (ex : Int) = (n2 : Int) := by omega
  have hn2b : n2 ≤ 400 := by omega
  have HNe := Aside0.mk (show ¬ n = n2 by omega)
  have HNe2 := Aside0.mk (show ¬ n2 = n by omega)
  clear hn2
  go_enter Tryd.func5, Tryd.ntmps5
  go_wp2_with fail
  refine (awake_calls w).mono ?_
  rintro e w1 ⟨rfl, hb1⟩
  have HB1 := Aside0.mk hb1
  clear hb1
  go_wp2_with fail
  refine (HR.out w1).mono ?_
  rintro e w2 ⟨rfl, rfl⟩
  go_wp2_with fail
  refine (new_calls n w1 (by omega)).mono ?_
  rintro e w2 ⟨g2, rfl, hs, hb⟩
  have HB2 := Aside0.mk (below_then HB1.out HB1.out.size hb)
  have HS2 := Aside0.mk hs
  clear hs hb HB1
  go_wp2_with fail
  refine (HR.out w2).mono ?_
  rintro e w3 ⟨rfl, rfl⟩
  go_wp2_with fail
  refine (HA.out w2).mono ?_
  rintro e w3 ⟨rfl, rfl⟩
  go_wp2_with fail
  refine (new_calls n2 w2 (by omega)).mono ?_
  rintro e w3 ⟨g3, rfl, hs, hb⟩
  have HB3 := Aside0.mk (below_then HB2.out HB2.out.size hb)
  have HS3 := Aside0.mk hs
  replace HS2 := Aside0.mk (SetAt.below HS2.out hb)
  clear hs hb HB2
  go_wp2_with fail
  refine (and_no w3 (some ⟨g2, 0, none⟩) (some ⟨g3, 0, none⟩) (fun w' hb => (like_calls w' _ g2 _ g3 n n2 _ _ (SetAt.below HS2.out hb) (SetAt.below HS3.out hb)).mono fun e w'' h => ⟨by rw [h.1, decide_eq_false HNe.out], h.2⟩)).mono ?_
  rintro e w4 ⟨rfl, hb⟩
  have HB4 := Aside0.mk (below_then HB3.out HB3.out.size hb)
  replace HS2 := Aside0.mk (SetAt.below HS2.out hb)
  replace HS3 := Aside0.mk (SetAt.below HS3.out hb)
  clear hb HB3
  go_wp2_with fail
  refine (or_no w4 (some ⟨g3, 0, none⟩) (some ⟨g2, 0, none⟩) (fun w' hb => (like_calls w' _ g3 _ g2 n2 n _ _ (SetAt.below HS3.out hb) (SetAt.below HS2.out hb)).mono fun e w'' h => ⟨by rw [h.1, decide_eq_false HNe2.out], h.2⟩)).mono ?_
  rintro e w5 ⟨rfl, hb⟩
  have HB5 := Aside0.mk (below_then HB4.out HB4.out.size hb)
  clear hb HB4
  go_wp2_with fail
  refine (and_no w5 (some ⟨g2, 0, none⟩) none (fun w' hb => like_right w' _)).mono ?_
  rintro e w6 ⟨rfl, hb⟩
  have HB6 := Aside0.mk (below_then HB5.out HB5.out.size hb)
  clear hb HB5
  go_wp2_with fail
  refine (or_no w6 none (some ⟨g2, 0, none⟩) (fun w' hb => like_left w' _)).mono ?_
  rintro e w7 ⟨rfl, hb⟩
  have HB7 := Aside0.mk (below_then HB6.out HB6.out.size hb)
  clear hb HB6
  go_wp2_with fail
  refine (HA.out w7).mono ?_
  rintro e w8 ⟨rfl, rfl⟩
  have hneg : (-1 : Int) - (am : Int) < 0 := by omega
  go_wp2_with fail
  refine (new_no (-1 - (am : Int)) w7 (.inl (by omega))).mono ?_
  rintro e w8 ⟨rfl, rfl⟩
  go_wp2_with fail
  refine (put_none row w7).mono ?_
  rintro e w8 ⟨rfl, rfl⟩
  go_wp2_with fail
  refine (has_none w7 row).mono ?_
  rintro e w8 ⟨rfl, rfl⟩
  go_wp2_with fail
  refine (not_none w7).mono ?_
  rintro e w8 ⟨rfl, hb⟩
  have HB8 := Aside0.mk (below_then HB7.out HB7.out.size hb)
  clear hb HB7
  go_wp2_with fail
  refine (count_none w8).mono ?_
  rintro e w9 ⟨rfl, rfl⟩
  go_wp2_with fail
  refine (rows_none w8).mono ?_
  rintro e w9 ⟨rfl, rfl⟩
  go_wp2_with fail
  refine (list_none w8).mono ?_
  rintro e w9 ⟨rfl, rfl⟩
  go_wp2_with fail
  refine (bytes_none w8).mono ?_
  rintro e w9 ⟨rfl, rfl⟩
  go_wp2_with fail
  go_ret
  exact ⟨rfl, HB8.out⟩

theorem door_met (os : Os) (args : Array Value) : laidMetH Tryd.prog [("math/bits.deBruijn64tab", Rows.laid_math_bits_deBruijn64tab)] ((World.doorLaid Tryd.prog 400 os).forCall (fun _ _ => 0) ⟨#[], args, []⟩).memory :=
  laidMetH_of_parts3 (fuel := 8) (laidMet_of_run' 8 (by kernel_rfl) (by kernel_rfl)) (by kernel_rfl) (by kernel_rfl)

set_option maxRecDepth 100000 in
theorem lifted (os : Os) (started : os.Started) (H : Type) (enc : TypeId × Value → H) :
    ReturnsInHanded {} Tryd.checked os 5 .any (fun w args => (Rows.bitsRefuseSpec.pre enc Tryd.prog Tryd.f5 [] false w args ∧ laidMetH Tryd.prog [("math/bits.deBruijn64tab", Rows.laid_math_bits_deBruijn64tab)] w) ∧ sizedMet enc Tryd.prog Tryd.f5 (OpenSpec.ofChange Rows.bitsRefuseSpec) false w args)
      (Rows.bitsRefuseSpec.post enc Tryd.prog Tryd.f5 false true false false) := by
  refine returnsInHanded_of_change_and (C := Tryd.checked) (X := fun w _ => laidMetH Tryd.prog [("math/bits.deBruijn64tab", Rows.laid_math_bits_deBruijn64tab)] w) (fun _ _ _ hh h => h.of_heap hh) own started (by kernel_rfl) Tryd.func5
    (ChangeSpec.witness_shaped (enc := enc) (C := Tryd.checked) (os := os) (X := fun w _ => laidMetH Tryd.prog [("math/bits.deBruijn64tab", Rows.laid_math_bits_deBruijn64tab)] w) false (World.doorLaid Tryd.prog 400 os) #[.int .i64 0, .int .i64 0, .int .i64 0] 8 rfl (World.shaped_of_RefB (by kernel_rfl) (by kernel_rfl)) (by kernel_rfl) (by kernel_rfl) (by kernel_rfl) (door_met os _)) ?_
  intro W base args ds gs before hval0 hW _ _ hL _
  have hval : ∀ (j : Nat) t v, Tryd.f5.params[j]? = some t → args[j]? = some v → Value.okWide Tryd.prog W .any base t v := hval0
  have hW' := hW
  obtain ⟨p, q, hA0, hV, rfl, hfz, hnd⟩ := hW
  have hA : DataW.TrodAll enc Tryd.prog W 0 (fun _ => true) true Tryd.f5.params.toList args.toList ds p := hA0
  rw [Tryd.params5] at hA hval
  obtain ⟨v0, vs0, d0, ds0, p0, q0, hargs, rfl, rfl, h0, r0⟩ := trodAll_cons hA
  obtain ⟨v1, vs1, d1, ds1, p1, q1, rfl, rfl, rfl, h1, r1⟩ := trodAll_cons r0
  obtain ⟨v2, vs2, d2, ds2, p2, q2, rfl, rfl, rfl, h2, r2⟩ := trodAll_cons r1
  obtain ⟨rfl, rfl, rfl⟩ := trodAll_nil r2
  obtain rfl : args = #[v0, v1, v2] := by cases args; simp_all
  obtain ⟨rfl, rfl⟩ := trodVars_none hV
  have k0 := h0
  have lt0 : ∀ x ∈ p0, x.block < W.heap.size := by obtain ⟨m, hm⟩ := k0; exact DataW.trod_lt m _ _ _ hm
  obtain ⟨a0, rfl, _, _, w0⟩ := open_int Tryd.underlying3 (hval 0 3 v0 rfl rfl) h0
  have k1 := h1
  have lt1 : ∀ x ∈ p1, x.block < W.heap.size := by obtain ⟨m, hm⟩ := k1; exact DataW.trod_lt m _ _ _ hm
  obtain ⟨a1, rfl, _, _, w1⟩ := open_int Tryd.underlying3 (hval 1 3 v1 rfl rfl) h1
  have k2 := h2
  have lt2 : ∀ x ∈ p2, x.block < W.heap.size := by obtain ⟨m, hm⟩ := k2; exact DataW.trod_lt m _ _ _ hm
  obtain ⟨a2, rfl, _, _, w2⟩ := open_int Tryd.underlying3 (hval 2 3 v2 rfl rfl) h2
  clear hL
  clear hA0 hval0
  refine (walk a0 a1 a2 W (i64_bd w0).1 (i64_bd w0).2 (i64_bd w1).1 (i64_bd w1).2).mono fun e W' ⟨he, bel⟩ => ?_
  subst he
  exact ⟨_, rfl, _, _, _, [], _, [], hW', trodAll_mk1 (shut_bool Tryd.underlying4 _), (trodAll_cons_mk (Below.trod laidOut (by kernel_rfl) (of_decide_eq_true (by kernel_rfl)) k0 bel lt0) (trodAll_cons_mk (Below.trod laidOut (by kernel_rfl) (of_decide_eq_true (by kernel_rfl)) k1 bel lt1) (trodAll_cons_mk (Below.trod laidOut (by kernel_rfl) (of_decide_eq_true (by kernel_rfl)) k2 bel lt2) trodAll_mk0))), rfl, bel.frame _, fun h => by cases h⟩

theorem row_holds : Rows.BitsRefuseSaid :=
  OpenClaim.holds_of_wide 5 Tryd.f5 rfl rfl rfl rfl rfl rfl rfl ⟨rfl, rfl, rfl, rfl, rfl⟩ rfl rfl rfl rfl rfl (by kernel_rfl) Tryd.func5 (by kernel_rfl)
    (of_decide_eq_true (by kernel_rfl)) (by unfold Func.isWrapper; first | (rw [if_pos (by decide +kernel)]; kernel_rfl) | (rw [if_neg (by decide +kernel)]; exact ⟨rfl, rfl⟩))
    (fun os started H enc _ => lifted os started H enc)

/-- The law, its table tied to the program's text. -/
theorem proved : Rows.BitsRefuseCardSaid :=
  Claim7.holds_tied_plain_at .later [] [.data] true Rows.bitsRefuseCard.stood.harness false
    row_holds (fun _ h => by cases h) (by kernel_rfl) (fun _ h => by cases h) bitsRefuse_row_tie rfl ⟨rfl, rfl⟩ (by kernel_rfl) rfl
    (fun f fn hf hfn => by
      obtain rfl : f = 5 := Option.some.inj ((show Tryd.prog.funcNamed "gristmill/gristmilllaw02.BitsRefuse" = some 5 by kernel_rfl).symm.trans hf) |>.symm
      obtain rfl : fn = Tryd.f5 := (Option.some.inj (Tryd.func5.symm.trans hfn)).symm
      exact ⟨by kernel_rfl, fun j t ht => by
        rw [Tryd.params5] at ht
        have hm : t ∈ [3, 3, 3] := by simpa using Array.mem_of_getElem? ht
        have hall : ([3, 3, 3].all fun u => !Tryd.prog.wantsStandIn u) = true := by kernel_rfl
        exact (show Tryd.prog.wantsStandIn t = false by simpa using List.all_eq_true.1 hall t hm)⟩)
    (by kernel_rfl)
#print axioms proved
end Go.Proofs.YtcgfheagbaafoaaDoor.bitsRefuse
