/-
  Proved: what is in one of two sets, and what is in both, are together as many as the two have; what is in both is in each (the law BitsCounts), as a card whose table (of math/bits) is tied to the program's text; no condition of ours.
-/
import Derived.Test.YtcgfheagbaafoaaDoorRows
import Derived.Test.YtcgfheagbaafoaaDoorCards
import Derived.Test.YtcgfheagbaafoaaDoorTie
import Derived.Test.YtcgfheagbaafoaaDoorAwake2
import Derived.Test.YtcgfheagbaafoaaDoorTabOf
import Derived.Test.YtcgfheagbaafoaaDoorOpen
import Derived.ProofKit
import Derived.OpenShut
import Derived.ShutString
import Derived.ChangeOld
import Derived.LaidMore
import Derived.Stop.Joined
import Derived.SevenTiedAt
import Derived.Lib.LaidTab
import Derived.MakeChecks
namespace Go.Proofs.YtcgfheagbaafoaaDoor.bitsCounts
set_option linter.unusedVariables false
set_option linter.unusedSimpArgs false
open Go.RowKit Go.Proofs.YtcgfheagbaafoaaDoorW.PrintWords Go.Proofs.YtcgfheagbaafoaaDoor.Lib
open Go.ChangeShapes Go.WideShapes Go.ChangeAt
open Go.ChangeMaps (open_string shut_string)
theorem own : ownKnob Tryd.prog.godebug = none := by kernel_rfl
theorem laidOut : laidOutB Tryd.prog = true := by kernel_rfl
open Go.Proofs.YtcgfheagbaafoaaDoor.Pack Go.Proofs.YtcgfheagbaafoaaDoor.PackA Go.Proofs.YtcgfheagbaafoaaDoor.Sets
open Go.Proofs.YtcgfheagbaafoaaDoorW.PrintLast

theorem i64_bd {n : Int} (h : (Lit.int .i64 n).wf = true) : -9223372036854775808 ≤ n ∧ n ≤ 9223372036854775807 := by
  simp only [Lit.wf, Bool.and_eq_true, decide_eq_true_eq] at h; exact h
theorem listF_at (f : Nat → Bool) (n k : Nat) (hk : k < (listF f n).length) : ∃ r, (listF f n).getD k 0 = ((r : Nat) : Int) ∧ r < n ∧ f r = true := by
  have h : (listF f n).getD k 0 ∈ listF f n := by
    rw [List.getD_eq_getElem?_getD, List.getElem?_eq_getElem hk]; exact List.getElem_mem _
  generalize (listF f n).getD k 0 = z at *
  simp only [listF, List.mem_map, List.mem_filter, List.mem_range] at h
  obtain ⟨r, ⟨h1, h2⟩, rfl⟩ := h
  exact ⟨r, rfl, h1, h2⟩
set_option maxRecDepth 100000 in
set_option maxHeartbeats 1600000 in
theorem walk (n0 : Int) (l : List Int) (A : Option Addr) (m c : Nat) (l2 : List Int) (A2 : Option Addr) (m2 c2 : Nat) (w : World) (hC : Kd.C (Kd.int .i64) w A m l) (hl : ∀ x ∈ l, -9223372036854775808 ≤ x ∧ x ≤ 9223372036854775807)
    (hC2 : Kd.C (Kd.int .i64) w A2 m2 l2) (hl2 : ∀ x ∈ l2, -9223372036854775808 ≤ x ∧ x ≤ 9223372036854775807) (h0 : -9223372036854775808 ≤ n0) (h1 : n0 ≤ 9223372036854775807) (hT : Tab w) :
    Calls Tryd.prog 3 #[.int .i64 n0, .slice A m c, .slice A2 m2 c2] w fun e w' => e = .returned (.bool true) ∧ Below w.heap.size w w' := by
  have HC := Aside0.mk hC
  have HL := Aside0.mk hl
  have HC2 := Aside0.mk hC2
  have HL2 := Aside0.mk hl2
  have HT := Aside0.mk hT
  have HR := Aside0.mk (fun w => rows_calls n0 w h0 h1)
  have hn : absOf n0 % 300 < 300 := Nat.mod_lt _ (by decide)
  clear hC hl hC2 hl2 hT
  generalize absOf n0 % 300 = n at *
  go_enter Tryd.func3, Tryd.ntmps3
  go_wp2_with fail
  refine (awake_calls w).mono ?_
  rintro e w1 ⟨rfl, hb1⟩
  have HB1 := Aside0.mk hb1
  clear hb1
  go_wp2_with fail
  refine (HR.out w1).mono ?_
  rintro e w2 ⟨rfl, rfl⟩
  go_wp2_with fail
  refine (madel_calls n l A m c w1 (by omega) (Kd.C_below HC.out HB1.out) HL.out).mono ?_
  rintro e w3 ⟨g3, v3, rfl, hs, -, hb⟩
  have HB3 := Aside0.mk (below_then HB1.out HB1.out.size hb)
  have HS3 := Aside0.mk hs
  clear hs hb HB1
  go_wp2_with fail
  refine (madel_calls n l2 A2 m2 c2 w3 (by omega) (Kd.C_below HC2.out HB3.out) HL2.out).mono ?_
  rintro e w4 ⟨g4, v4, rfl, hs, -, hb⟩
  have HB4 := Aside0.mk (below_then HB3.out HB3.out.size hb)
  have HS4 := Aside0.mk hs
  replace HS3 := Aside0.mk (FSet.below HS3.out hb)
  clear hs hb HB3
  generalize inP l = fs at *
  generalize inP l2 = ft at *
  (go_wp2_with fail; refine (and_calls w4 _ g3 _ g4 n fs ft HS3.out HS4.out).mono ?_; rintro e w5 ⟨g5, rfl, hs, hb⟩; have HB5 := Aside0.mk (below_then HB4.out HB4.out.size hb); have HS5 := Aside0.mk (show FSet _ _ _ _ _ from hs); replace HS3 := Aside0.mk (FSet.below HS3.out hb); replace HS4 := Aside0.mk (FSet.below HS4.out hb); clear hs hb HB4)
  (go_wp2_with fail; refine (or_calls w5 _ g3 _ g4 n fs ft HS3.out HS4.out).mono ?_; rintro e w6 ⟨g6, rfl, hs, hb⟩; have HB6 := Aside0.mk (below_then HB5.out HB5.out.size hb); have HS6 := Aside0.mk (show FSet _ _ _ _ _ from hs); replace HS3 := Aside0.mk (FSet.below HS3.out hb); replace HS4 := Aside0.mk (FSet.below HS4.out hb); replace HS5 := Aside0.mk (FSet.below HS5.out hb); clear hs hb HB5)
  have hk3 := cnt_or_and fs ft n
  obtain ⟨ka, HKa⟩ : ∃ ka : Nat, Aside0 (((cnt (fun i => fs i && ft i) n : Nat) : Int) = (ka : Int)) := ⟨_, ⟨rfl⟩⟩
  obtain ⟨kb, HKb⟩ : ∃ kb : Nat, Aside0 (((cnt (fun i => fs i || ft i) n : Nat) : Int) = (kb : Int)) := ⟨_, ⟨rfl⟩⟩
  obtain ⟨kc, HKc⟩ : ∃ kc : Nat, Aside0 (((cnt fs n : Nat) : Int) = (kc : Int)) := ⟨_, ⟨rfl⟩⟩
  obtain ⟨kd, HKd⟩ : ∃ kd : Nat, Aside0 (((cnt ft n : Nat) : Int) = (kd : Int)) := ⟨_, ⟨rfl⟩⟩
  have hka := HKa.out
  have hkb := HKb.out
  have hkc := HKc.out
  have hkd := HKd.out
  have hk4 : ka ≤ 300 ∧ kb ≤ 300 ∧ kc ≤ 300 ∧ kd ≤ 300 := by
    have := cnt_le (fun i => fs i && ft i) n; have := cnt_le (fun i => fs i || ft i) n; have := cnt_le fs n; have := cnt_le ft n; omega
  obtain ⟨b1, b2, b3, b4⟩ := hk4
  have hsum : (((ka : Int) + (kb : Int)) != ((kc : Int) + (kd : Int))) = false := by rw [bne_eq_false_iff_eq]; omega
  clear hka hkb hkc hkd hk3
  go_wp2_with fail
  refine (countf_calls w6 _ g5 n _ _ HKa.out HS5.out).mono ?_
  rintro e w7 ⟨rfl, rfl⟩
  go_wp2_with fail
  refine (countf_calls w6 _ g6 n _ _ HKb.out HS6.out).mono ?_
  rintro e w7 ⟨rfl, rfl⟩
  go_wp2_with fail
  refine (countf_calls w6 _ g3 n _ _ HKc.out HS3.out).mono ?_
  rintro e w7 ⟨rfl, rfl⟩
  go_wp2_with fail
  refine (countf_calls w6 _ g4 n _ _ HKd.out HS4.out).mono ?_
  rintro e w7 ⟨rfl, rfl⟩
  go_wp2_with fail
  refine (list_calls w6 _ g5 n _ HS5.out (HT.out.below HB6.out)).mono ?_
  rintro e w7 ⟨v7, rfl, ho, hb⟩
  have HAt := Aside0.mk (listF_at (fun i => fs i && ft i) n)
  obtain ⟨ls, HLs⟩ : ∃ ls, Aside0 (listF (fun i => fs i && ft i) n = ls) := ⟨_, ⟨rfl⟩⟩
  rw [HLs.out] at ho HAt
  obtain ⟨A7, c7, rfl, -, hC7⟩ := Kd.R_reads ho
  have HC7 := Aside0.mk hC7
  have hls : ls.length ≤ 300 := by rw [← HLs.out, listF_length]; have := cnt_le (fun i => fs i && ft i) n; omega
  have HB7 := Aside0.mk (below_then HB6.out HB6.out.size hb)
  replace HS3 := Aside0.mk (FSet.below HS3.out hb)
  replace HS4 := Aside0.mk (FSet.below HS4.out hb)
  replace HS6 := Aside0.mk (FSet.below HS6.out hb)
  clear ho hb hC7 HB6 HS5 hsum b1 b2 b3 b4
  go_wp2_with fail
  go_loop [19] (fun kv => ∃ k : Nat, k ≤ ls.length ∧ kv = .int .i64 k) (fun kv => ls.length - (intOf kv).toNat)
  case atStart => exact ⟨0, Nat.zero_le _, rfl⟩
  case round =>
    obtain ⟨k, hk, rfl⟩ := hrel
    by_cases hlt : k < ls.length
    · obtain ⟨ad, e, hcell⟩ := Kd.at_int HC7.out k (by omega) (by omega)
      subst e
      obtain ⟨r, hr1, hr2, hr3⟩ := HAt.out k hlt
      rw [Int.toNat_natCast, rd_nat, hr1] at hcell
      replace hr3 : fs r = true ∧ ft r = true := by simpa using hr3
      have H3 := Aside0.mk (show Calls Tryd.prog 14 #[.pointer (some ⟨g3, 0, none⟩), .int .i64 r] w7 fun e w' => e = .returned (.bool true) ∧ w7 = w' by have h := has_calls w7 _ g3 n fs r HS3.out hr2; rw [hr3.1] at h; exact h)
      have H4 := Aside0.mk (show Calls Tryd.prog 14 #[.pointer (some ⟨g4, 0, none⟩), .int .i64 r] w7 fun e w' => e = .returned (.bool true) ∧ w7 = w' by have h := has_calls w7 _ g4 n ft r HS4.out hr2; rw [hr3.2] at h; exact h)
      have H6 := Aside0.mk (show Calls Tryd.prog 14 #[.pointer (some ⟨g6, 0, none⟩), .int .i64 r] w7 fun e w' => e = .returned (.bool true) ∧ w7 = w' by have h := has_calls w7 _ g6 n _ r HS6.out hr2; simp only [hr3.1, Bool.true_or] at h; exact h)
      clear hr1 hr2 hr3
      go_wp2_with fail
      refine H3.out.mono ?_
      rintro e w8 ⟨rfl, rfl⟩
      go_wp2_with fail
      refine H4.out.mono ?_
      rintro e w8 ⟨rfl, rfl⟩
      go_wp2_with fail
      refine H6.out.mono ?_
      rintro e w8 ⟨rfl, rfl⟩
      go_wp2_with fail
      go_round
      case rel => exact ⟨k + 1, by omega, by go_num⟩
      case measure => simp [intOf]; omega
    · obtain rfl : k = ls.length := by omega
      go_wp2_with fail
      go_ret
      exact ⟨rfl, HB7.out⟩

theorem door_met (os : Os) (args : Array Value) : laidMetH Tryd.prog [("math/bits.deBruijn64tab", Rows.laid_math_bits_deBruijn64tab)] ((World.doorLaid Tryd.prog 400 os).forCall (fun _ _ => 0) ⟨#[], args, []⟩).memory :=
  laidMetH_of_parts3 (fuel := 8) (laidMet_of_run' 8 (by kernel_rfl) (by kernel_rfl)) (by kernel_rfl) (by kernel_rfl)

set_option maxRecDepth 100000 in
theorem lifted (os : Os) (started : os.Started) (H : Type) (enc : TypeId × Value → H) :
    ReturnsInHanded {} Tryd.checked os 3 .any (fun w args => (Rows.bitsCountsSpec.pre enc Tryd.prog Tryd.f3 [] false w args ∧ laidMetH Tryd.prog [("math/bits.deBruijn64tab", Rows.laid_math_bits_deBruijn64tab)] w) ∧ sizedMet enc Tryd.prog Tryd.f3 (OpenSpec.ofChange Rows.bitsCountsSpec) false w args)
      (Rows.bitsCountsSpec.post enc Tryd.prog Tryd.f3 false true false false) := by
  refine returnsInHanded_of_change_and (C := Tryd.checked) (X := fun w _ => laidMetH Tryd.prog [("math/bits.deBruijn64tab", Rows.laid_math_bits_deBruijn64tab)] w) (fun _ _ _ hh h => h.of_heap hh) own started (by kernel_rfl) Tryd.func3
    (ChangeSpec.witness_shaped (enc := enc) (C := Tryd.checked) (os := os) (X := fun w _ => laidMetH Tryd.prog [("math/bits.deBruijn64tab", Rows.laid_math_bits_deBruijn64tab)] w) false (World.doorLaid Tryd.prog 400 os) #[.int .i64 0, .slice none 0 0, .slice none 0 0] 8 rfl (World.shaped_of_RefB (by kernel_rfl) (by kernel_rfl)) (by kernel_rfl) (by kernel_rfl) (by kernel_rfl) (door_met os _)) ?_
  intro W base args ds gs before hval0 hW _ _ hL _
  have hval : ∀ (j : Nat) t v, Tryd.f3.params[j]? = some t → args[j]? = some v → Value.okWide Tryd.prog W .any base t v := hval0
  have hW' := hW
  obtain ⟨p, q, hA0, hV, rfl, hfz, hnd⟩ := hW
  have hA : DataW.TrodAll enc Tryd.prog W 0 (fun _ => true) true Tryd.f3.params.toList args.toList ds p := hA0
  rw [Tryd.params3] at hA hval
  obtain ⟨v0, vs0, d0, ds0, p0, q0, hargs, rfl, rfl, h0, r0⟩ := trodAll_cons hA
  obtain ⟨v1, vs1, d1, ds1, p1, q1, rfl, rfl, rfl, h1, r1⟩ := trodAll_cons r0
  obtain ⟨v2, vs2, d2, ds2, p2, q2, rfl, rfl, rfl, h2, r2⟩ := trodAll_cons r1
  obtain ⟨rfl, rfl, rfl⟩ := trodAll_nil r2
  obtain rfl : args = #[v0, v1, v2] := by cases args; simp_all
  obtain ⟨rfl, rfl⟩ := trodVars_none hV
  have k0 := h0
  have lt0 : ∀ x ∈ p0, x.block < W.heap.size := by obtain ⟨m, hm⟩ := k0; exact DataW.trod_lt m _ _ _ hm
  obtain ⟨a0, rfl, _, _, w0⟩ := open_int Tryd.underlying3 (hval 0 3 v0 rfl rfl) h0
  have k1 := h1
  have lt1 : ∀ x ∈ p1, x.block < W.heap.size := by obtain ⟨m, hm⟩ := k1; exact DataW.trod_lt m _ _ _ hm
  obtain ⟨a1, len1, cap1, rfl⟩ := okWide_slice Tryd.underlying22 (hval 1 22 v1 rfl rfl)
  obtain ⟨xs1, hl1, hm1, hC1, hb1⟩ := open_nums Tryd.underlying22 Tryd.underlying3 (by kernel_rfl) h1
  have k2 := h2
  have lt2 : ∀ x ∈ p2, x.block < W.heap.size := by obtain ⟨m, hm⟩ := k2; exact DataW.trod_lt m _ _ _ hm
  obtain ⟨a2, len2, cap2, rfl⟩ := okWide_slice Tryd.underlying22 (hval 2 22 v2 rfl rfl)
  obtain ⟨xs2, hl2, hm2, hC2, hb2⟩ := open_nums Tryd.underlying22 Tryd.underlying3 (by kernel_rfl) h2
  have tab := tab_of hL
  clear hA0 hval0
  refine (walk a0 xs1 _ _ _ xs2 _ _ _ W hC1 (fun x hx => i64_bd (hb1 x hx)) hC2 (fun x hx => i64_bd (hb2 x hx)) (i64_bd w0).1 (i64_bd w0).2 tab).mono fun e W' ⟨he, bel⟩ => ?_
  subst he
  exact ⟨_, rfl, _, _, _, [], _, [], hW', trodAll_mk1 (shut_bool Tryd.underlying4 _), (trodAll_cons_mk (Below.trod laidOut (by kernel_rfl) (of_decide_eq_true (by kernel_rfl)) k0 bel lt0) (trodAll_cons_mk (Below.trod laidOut (by kernel_rfl) (of_decide_eq_true (by kernel_rfl)) k1 bel lt1) (trodAll_cons_mk (Below.trod laidOut (by kernel_rfl) (of_decide_eq_true (by kernel_rfl)) k2 bel lt2) trodAll_mk0))), rfl, bel.frame _, fun h => by cases h⟩

theorem row_holds : Rows.BitsCountsSaid :=
  OpenClaim.holds_of_wide 3 Tryd.f3 rfl rfl rfl rfl rfl rfl rfl ⟨rfl, rfl, rfl, rfl, rfl⟩ rfl rfl rfl rfl rfl (by kernel_rfl) Tryd.func3 (by kernel_rfl)
    (of_decide_eq_true (by kernel_rfl)) (by unfold Func.isWrapper; first | (rw [if_pos (by decide +kernel)]; kernel_rfl) | (rw [if_neg (by decide +kernel)]; exact ⟨rfl, rfl⟩))
    (fun os started H enc _ => lifted os started H enc)

/-- The law, its table tied to the program's text. -/
theorem proved : Rows.BitsCountsCardSaid :=
  Claim7.holds_tied_plain_at .later [] [.data] true Rows.bitsCountsCard.stood.harness false
    row_holds (fun _ h => by cases h) (by kernel_rfl) (fun _ h => by cases h) bitsCounts_row_tie rfl ⟨rfl, rfl⟩ (by kernel_rfl) rfl
    (fun f fn hf hfn => by
      obtain rfl : f = 3 := Option.some.inj ((show Tryd.prog.funcNamed "gristmill/gristmilllaw02.BitsCounts" = some 3 by kernel_rfl).symm.trans hf) |>.symm
      obtain rfl : fn = Tryd.f3 := (Option.some.inj (Tryd.func3.symm.trans hfn)).symm
      exact ⟨by kernel_rfl, fun j t ht => by
        rw [Tryd.params3] at ht
        have hm : t ∈ [3, 22, 22] := by simpa using Array.mem_of_getElem? ht
        have hall : ([3, 22, 22].all fun u => !Tryd.prog.wantsStandIn u) = true := by kernel_rfl
        exact (show Tryd.prog.wantsStandIn t = false by simpa using List.all_eq_true.1 hall t hm)⟩)
    (by kernel_rfl)
#print axioms proved
end Go.Proofs.YtcgfheagbaafoaaDoor.bitsCounts
