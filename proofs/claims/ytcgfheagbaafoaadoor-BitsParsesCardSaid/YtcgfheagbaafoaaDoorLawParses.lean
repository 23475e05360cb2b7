/-
  Proved: any bytes are the set that the document says, or none (the law BitsParses), as a card whose table (of math/bits) is tied to the program's text; no condition of ours.
-/
import Derived.Test.YtcgfheagbaafoaaDoorRows
import Derived.Test.YtcgfheagbaafoaaDoorCards
import Derived.Test.YtcgfheagbaafoaaDoorTie
import Derived.Test.YtcgfheagbaafoaaDoorAwake2
import Derived.Test.YtcgfheagbaafoaaDoorTabOf
import Derived.Test.YtcgfheagbaafoaaDoorParse
import Derived.Test.YtcgfheagbaafoaaDoorOpen
import Derived.ProofKit
import Derived.OpenShut
import Derived.ShutString
import Derived.ChangeOld
import Derived.LaidMore
import Derived.Stop.Joined
import Derived.SevenTiedAt
import Derived.Lib.LaidTab
import Derived.MakeChecks
namespace Go.Proofs.YtcgfheagbaafoaaDoor.bitsParses
set_option linter.unusedVariables false
set_option linter.unusedSimpArgs false
open Go.RowKit Go.Proofs.YtcgfheagbaafoaaDoorW.PrintWords Go.Proofs.YtcgfheagbaafoaaDoor.Lib
open Go.ChangeShapes Go.WideShapes Go.ChangeAt
open Go.ChangeMaps (open_string shut_string)
theorem own : ownKnob Tryd.prog.godebug = none := by kernel_rfl
theorem laidOut : laidOutB Tryd.prog = true := by kernel_rfl
open Go.Proofs.YtcgfheagbaafoaaDoor.Pack Go.Proofs.YtcgfheagbaafoaaDoor.PackA Go.Proofs.YtcgfheagbaafoaaDoor.Sets
open Go.Proofs.YtcgfheagbaafoaaDoorW.PrintLast

theorem i64_bd {n : Int} (h : (Lit.int .i64 n).wf = true) : -9223372036854775808 ≤ n ∧ n ≤ 9223372036854775807 := by
  simp only [Lit.wf, Bool.and_eq_true, decide_eq_true_eq] at h; exact h
set_option maxRecDepth 100000 in
set_option maxHeartbeats 3200000 in
theorem walk (xs : List Int) (A : Option Addr) (m c : Nat) (n : Int) (w : World) (hC : Kd.C (Kd.int .u8) w A m xs) (hX : Bytes xs) (h0 : -9223372036854775808 ≤ n) (h1 : n ≤ 9223372036854775807) (hT : Tab w) :
    Calls Tryd.prog 4 #[.slice A m c, .int .i64 n] w fun e w' => e = .returned (.bool true) ∧ Below w.heap.size w w' := by
  have HC := Aside0.mk hC
  have HX := Aside0.mk hX
  have HT := Aside0.mk hT
  clear hC hX hT
  go_enter Tryd.func4, Tryd.ntmps4
  go_wp2_with fail
  refine (awake_calls w).mono ?_
  rintro e w1 ⟨rfl, hb1⟩
  have HB1 := Aside0.mk hb1
  have HC1 := Aside0.mk (Kd.C_below HC.out hb1)
  clear hb1 HC
  by_cases hr : n < 0 ∨ 1048576 < n
  · have HR := Aside0.mk hr
    by_cases hr0 : n < 0
    · clear hr
      go_wp2_with fail
      refine (parse_range xs A m c n w1 HR.out).mono ?_
      rintro e w2 ⟨rfl, hb⟩
      have HB2 := Aside0.mk (below_then HB1.out HB1.out.size hb)
      clear hb
      go_wp2_with fail
      refine (refparse_range A m c n w2 HR.out).mono ?_
      rintro e w3 ⟨rfl, rfl⟩
      go_wp2_with fail
      go_ret
      exact ⟨rfl, HB2.out⟩
    · have hr1 : 1048576 < n := by omega
      clear hr
      go_wp2_with fail
      refine (parse_range xs A m c n w1 HR.out).mono ?_
      rintro e w2 ⟨rfl, hb⟩
      have HB2 := Aside0.mk (below_then HB1.out HB1.out.size hb)
      clear hb
      go_wp2_with fail
      refine (refparse_range A m c n w2 HR.out).mono ?_
      rintro e w3 ⟨rfl, rfl⟩
      go_wp2_with fail
      go_ret
      exact ⟨rfl, HB2.out⟩
  · obtain ⟨j, rfl⟩ := Int.eq_ofNat_of_zero_le (show 0 ≤ n by omega)
    have hj : j ≤ 1048576 := by omega
    clear hr h0 h1
    by_cases h3 : j ≤ 3000
    · obtain ⟨k, rfl⟩ : ∃ k, k = j := ⟨_, rfl⟩
      have hd3 : decide ((3000 : Int) < (k : Int)) = false := decide_eq_false (by omega)
      have hd4 : decide (3000 < k) = false := decide_eq_false (by omega)
      go_wp2_with fail
      obtain ⟨okd, HOK⟩ : ∃ okd : Bool, Aside0 (okd = true ↔ (m = long k ∧ Tidy xs k)) := by classical exact ⟨decide _, ⟨decide_eq_true_iff⟩⟩
      refine (parse_calls xs A m c k w1 HC1.out HX.out (by omega) okd HOK.out).mono ?_
      rintro e w2 ⟨p, rfl, hp, hb⟩
      have HB2 := Aside0.mk (below_then HB1.out HB1.out.size hb)
      have HC2 := Aside0.mk (Kd.C_below HC1.out hb)
      have HP := Aside0.mk hp
      clear hp hb HB1 HC1
      cases okd
      case false =>
        have hpn : p = none := HP.out
        subst hpn
        go_wp2_with fail
        refine (refparse_calls xs A m c k w2 HC2.out HX.out (by omega) false (by simpa using HOK.out)).mono ?_
        rintro e w3 ⟨v, rfl, ho, hb⟩
        have HB3 := Aside0.mk (below_then HB2.out HB2.out.size hb)
        obtain ⟨A3, c3, rfl, -, -⟩ := Kd.R_reads ho
        clear ho hb HP
        go_wp2_with fail
        go_ret
        exact ⟨rfl, HB3.out⟩
      case true =>
        obtain ⟨g, rfl, hs⟩ := HP.out
        have HS2 := Aside0.mk hs
        clear HP hs
        go_wp2_with fail
        refine (refparse_calls xs A m c k w2 HC2.out HX.out (by omega) true (by simpa using HOK.out)).mono ?_
        rintro e w3 ⟨v, rfl, ho, hb⟩
        have HB3 := Aside0.mk (below_then HB2.out HB2.out.size hb)
        have HS3 := Aside0.mk (FSet.below HS2.out hb)
        obtain ⟨A3, c3, rfl, -, hC3⟩ := Kd.R_reads ho
        rw [if_pos rfl, boolsF_length] at hC3
        rw [if_pos rfl, boolsF_length]
        have HC3 := Aside0.mk hC3
        clear ho hb hC3 HS2
        go_wp2_with fail
        refine (is_calls w3 _ g k _ A3 c3 HS3.out HC3.out (HT.out.below HB3.out)).mono ?_
        rintro e w4 ⟨rfl, hb⟩
        have HB4 := Aside0.mk (below_then HB3.out HB3.out.size hb)
        clear hb
        go_wp2_with fail
        go_ret
        exact ⟨rfl, HB4.out⟩
    · have hmod : (j : Int).tmod 3000 = ((j % 3000 : Nat) : Int) := by rw [Int.tmod_eq_emod_of_nonneg (by omega)]; omega
      have hk3 : j % 3000 < 3000 := Nat.mod_lt _ (by decide)
      have h4 : 3000 < j := by omega
      clear h3
      generalize j % 3000 = k at *
      go_wp2_with fail
      obtain ⟨okd, HOK⟩ : ∃ okd : Bool, Aside0 (okd = true ↔ (m = long k ∧ Tidy xs k)) := by classical exact ⟨decide _, ⟨decide_eq_true_iff⟩⟩
      refine (parse_calls xs A m c k w1 HC1.out HX.out (by omega) okd HOK.out).mono ?_
      rintro e w2 ⟨p, rfl, hp, hb⟩
      have HB2 := Aside0.mk (below_then HB1.out HB1.out.size hb)
      have HC2 := Aside0.mk (Kd.C_below HC1.out hb)
      have HP := Aside0.mk hp
      clear hp hb HB1 HC1
      cases okd
      case false =>
        have hpn : p = none := HP.out
        subst hpn
        go_wp2_with fail
        refine (refparse_calls xs A m c k w2 HC2.out HX.out (by omega) false (by simpa using HOK.out)).mono ?_
        rintro e w3 ⟨v, rfl, ho, hb⟩
        have HB3 := Aside0.mk (below_then HB2.out HB2.out.size hb)
        obtain ⟨A3, c3, rfl, -, -⟩ := Kd.R_reads ho
        clear ho hb HP
        go_wp2_with fail
        go_ret
        exact ⟨rfl, HB3.out⟩
      case true =>
        obtain ⟨g, rfl, hs⟩ := HP.out
        have HS2 := Aside0.mk hs
        clear HP hs
        go_wp2_with fail
        refine (refparse_calls xs A m c k w2 HC2.out HX.out (by omega) true (by simpa using HOK.out)).mono ?_
        rintro e w3 ⟨v, rfl, ho, hb⟩
        have HB3 := Aside0.mk (below_then HB2.out HB2.out.size hb)
        have HS3 := Aside0.mk (FSet.below HS2.out hb)
        obtain ⟨A3, c3, rfl, -, hC3⟩ := Kd.R_reads ho
        rw [if_pos rfl, boolsF_length] at hC3
        rw [if_pos rfl, boolsF_length]
        have HC3 := Aside0.mk hC3
        clear ho hb hC3 HS2
        go_wp2_with fail
        refine (is_calls w3 _ g k _ A3 c3 HS3.out HC3.out (HT.out.below HB3.out)).mono ?_
        rintro e w4 ⟨rfl, hb⟩
        have HB4 := Aside0.mk (below_then HB3.out HB3.out.size hb)
        clear hb
        go_wp2_with fail
        go_ret
        exact ⟨rfl, HB4.out⟩

theorem door_met (os : Os) (args : Array Value) : laidMetH Tryd.prog [("math/bits.deBruijn64tab", Rows.laid_math_bits_deBruijn64tab)] ((World.doorLaid Tryd.prog 400 os).forCall (fun _ _ => 0) ⟨#[], args, []⟩).memory :=
  laidMetH_of_parts3 (fuel := 8) (laidMet_of_run' 8 (by kernel_rfl) (by kernel_rfl)) (by kernel_rfl) (by kernel_rfl)

set_option maxRecDepth 100000 in
theorem lifted (os : Os) (started : os.Started) (H : Type) (enc : TypeId × Value → H) :
    ReturnsInHanded {} Tryd.checked os 4 .any (fun w args => (Rows.bitsParsesSpec.pre enc Tryd.prog Tryd.f4 [] false w args ∧ laidMetH Tryd.prog [("math/bits.deBruijn64tab", Rows.laid_math_bits_deBruijn64tab)] w) ∧ sizedMet enc Tryd.prog Tryd.f4 (OpenSpec.ofChange Rows.bitsParsesSpec) false w args)
      (Rows.bitsParsesSpec.post enc Tryd.prog Tryd.f4 false true false false) := by
  refine returnsInHanded_of_change_and (C := Tryd.checked) (X := fun w _ => laidMetH Tryd.prog [("math/bits.deBruijn64tab", Rows.laid_math_bits_deBruijn64tab)] w) (fun _ _ _ hh h => h.of_heap hh) own started (by kernel_rfl) Tryd.func4
    (ChangeSpec.witness_shaped (enc := enc) (C := Tryd.checked) (os := os) (X := fun w _ => laidMetH Tryd.prog [("math/bits.deBruijn64tab", Rows.laid_math_bits_deBruijn64tab)] w) false (World.doorLaid Tryd.prog 400 os) #[.slice none 0 0, .int .i64 0] 8 rfl (World.shaped_of_RefB (by kernel_rfl) (by kernel_rfl)) (by kernel_rfl) (by kernel_rfl) (by kernel_rfl) (door_met os _)) ?_
  intro W base args ds gs before hval0 hW _ _ hL _
  have hval : ∀ (j : Nat) t v, Tryd.f4.params[j]? = some t → args[j]? = some v → Value.okWide Tryd.prog W .any base t v := hval0
  have hW' := hW
  obtain ⟨p, q, hA0, hV, rfl, hfz, hnd⟩ := hW
  have hA : DataW.TrodAll enc Tryd.prog W 0 (fun _ => true) true Tryd.f4.params.toList args.toList ds p := hA0
  rw [Tryd.params4] at hA hval
  obtain ⟨v0, vs0, d0, ds0, p0, q0, hargs, rfl, rfl, h0, r0⟩ := trodAll_cons hA
  obtain ⟨v1, vs1, d1, ds1, p1, q1, rfl, rfl, rfl, h1, r1⟩ := trodAll_cons r0
  obtain ⟨rfl, rfl, rfl⟩ := trodAll_nil r1
  obtain rfl : args = #[v0, v1] := by cases args; simp_all
  obtain ⟨rfl, rfl⟩ := trodVars_none hV
  have k0 := h0
  have lt0 : ∀ x ∈ p0, x.block < W.heap.size := by obtain ⟨m, hm⟩ := k0; exact DataW.trod_lt m _ _ _ hm
  obtain ⟨a0, len0, cap0, rfl⟩ := okWide_slice Tryd.underlying36 (hval 0 36 v0 rfl rfl)
  obtain ⟨xs0, hl0, hC0, hb0⟩ := open_bytes Tryd.underlying36 Tryd.underlying5 (by kernel_rfl) h0
  have k1 := h1
  have lt1 : ∀ x ∈ p1, x.block < W.heap.size := by obtain ⟨m, hm⟩ := k1; exact DataW.trod_lt m _ _ _ hm
  obtain ⟨a1, rfl, _, _, w1⟩ := open_int Tryd.underlying3 (hval 1 3 v1 rfl rfl) h1
  have tab := tab_of hL
  clear hA0 hval0
  refine (walk xs0 _ _ _ a1 W hC0 hb0 (i64_bd w1).1 (i64_bd w1).2 tab).mono fun e W' ⟨he, bel⟩ => ?_
  subst he
  exact ⟨_, rfl, _, _, _, [], _, [], hW', trodAll_mk1 (shut_bool Tryd.underlying4 _), (trodAll_cons_mk (Below.trod laidOut (by kernel_rfl) (of_decide_eq_true (by kernel_rfl)) k0 bel lt0) (trodAll_cons_mk (Below.trod laidOut (by kernel_rfl) (of_decide_eq_true (by kernel_rfl)) k1 bel lt1) trodAll_mk0)), rfl, bel.frame _, fun h => by cases h⟩

theorem row_holds : Rows.BitsParsesSaid :=
  OpenClaim.holds_of_wide 4 Tryd.f4 rfl rfl rfl rfl rfl rfl rfl ⟨rfl, rfl, rfl, rfl, rfl⟩ rfl rfl rfl rfl rfl (by kernel_rfl) Tryd.func4 (by kernel_rfl)
    (of_decide_eq_true (by kernel_rfl)) (by unfold Func.isWrapper; first | (rw [if_pos (by decide +kernel)]; kernel_rfl) | (rw [if_neg (by decide +kernel)]; exact ⟨rfl, rfl⟩))
    (fun os started H enc _ => lifted os started H enc)

/-- The law, its table tied to the program's text. -/
theorem proved : Rows.BitsParsesCardSaid :=
  Claim7.holds_tied_plain_at .later [] [.data] true Rows.bitsParsesCard.stood.harness false
    row_holds (fun _ h => by cases h) (by kernel_rfl) (fun _ h => by cases h) bitsParses_row_tie rfl ⟨rfl, rfl⟩ (by kernel_rfl) rfl
    (fun f fn hf hfn => by
      obtain rfl : f = 4 := Option.some.inj ((show Tryd.prog.funcNamed "gristmill/gristmilllaw02.BitsParses" = some 4 by kernel_rfl).symm.trans hf) |>.symm
      obtain rfl : fn = Tryd.f4 := (Option.some.inj (Tryd.func4.symm.trans hfn)).symm
      exact ⟨by kernel_rfl, fun j t ht => by
        rw [Tryd.params4] at ht
        have hm : t ∈ [36, 3] := by simpa using Array.mem_of_getElem? ht
        have hall : ([36, 3].all fun u => !Tryd.prog.wantsStandIn u) = true := by kernel_rfl
        exact (show Tryd.prog.wantsStandIn t = false by simpa using List.all_eq_true.1 hall t hm)⟩)
    (by kernel_rfl)
#print axioms proved
end Go.Proofs.YtcgfheagbaafoaaDoor.bitsParses
