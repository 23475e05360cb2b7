-- Written by this repo's program wip/ext.py (over the kit's printer).
import Derived.Test.YtmjhgeinhhhodaaP0
import Derived.Test.YtmjhgeinhhhodaaP22
import Derived.Test.YtmjhgeinhhhodaaP27
import Derived.Test.YtmjhgeinhhhodaaP28
import Derived.Test.YtmjhgeinhhhodaaExtAwake
import Derived.Test.YtmjhgeinhhhodaaExtCheck
import Derived.Test.YtmjhgeinhhhodaaShort
namespace Go.Proofs.Ytmjhgeinhhhodaa.P
open Go.RowKit Go.Proofs.YtmjhgeinhhhodaaW.PrintWords Go.Proofs.YtmjhgeinhhhodaaW.PrintLast Go.Proofs.YtmjhgeinhhhodaaW.PrintMore
attribute [local go_sem] max2_int min2_int max_two min_two max_three min_three max_four min_four   -- for this text's walks alone
set_option linter.unusedVariables false
set_option linter.unusedSimpArgs false

open Go.Proofs.Ytmjhgeinhhhodaa.Ext (q1_ q2_ q3_ bk_ bw_ sz_ ne_ bx_)
attribute [local go_sem high] Go.Proofs.Ytmjhgeinhhhodaa.Ext.gtr_str Go.Proofs.Ytmjhgeinhhhodaa.Ext.leq_str Go.Proofs.Ytmjhgeinhhhodaa.Ext.geq_str
/-! ### gristmilllaw06_AggChecks: function 8 -/
def gristmilllaw06_AggChecks.f (k : Nat) (a0_0 : Int) (a0_1 : Int) (l1 : List (S23)) (a2_0 : Int) (a2_1 : Int) (a3_0 : Int) (a3_1 : Int) (l3_2 : List ByteArray) : Option (Bool) := (gristmilllaw06_awake.f).bind fun t587 => (if t587 = true then ((agg_Check.f a0_0 a0_1 l1).bind fun t588 => ((gristmillref06_Check.f k a0_0 a0_1 l1).bind fun t589 => (if t588 = t589 then ((agg_May.f k a0_0 a0_1 a2_0 a2_1 a3_0 a3_1 l3_2).bind fun t590 => ((gristmillref06_May.f k a0_0 a0_1 a2_0 a2_1 a3_0 a3_1 l3_2).bind fun t591 => (some (t590 == t591)))) else (some false)))) else (some false))
theorem gristmilllaw06_AggChecks.mono : ∀ a0 a1 a2 a3 a4 a5 a6 a7 k, LeO (gristmilllaw06_AggChecks.f k a0 a1 a2 a3 a4 a5 a6 a7) (gristmilllaw06_AggChecks.f (k + 1) a0 a1 a2 a3 a4 a5 a6 a7) := by
 intro a0 a1 a2 a3 a4 a5 a6 a7 k
 unfold gristmilllaw06_AggChecks.f
 repeat' first
   | (with_reducible exact agg_May.mono _ _ _ _ _ _ _ _)
   | (with_reducible exact gristmillref06_Check.mono _ _ _ _)
   | (with_reducible exact gristmillref06_May.mono _ _ _ _ _ _ _ _)
   | (with_reducible exact LeO.refl _)
   | (with_reducible exact LeO.none _)
   | (with_reducible refine LeO.ite ?_ ?_)
   | (with_reducible refine LeO.bind ?_ (fun _ => ?_))
   | exact agg_May.mono _ _ _ _ _ _ _ _
   | exact gristmillref06_Check.mono _ _ _ _
   | exact gristmillref06_May.mono _ _ _ _ _ _ _ _
   | exact LeO.none _
   | refine LeO.ite ?_ ?_
   | refine LeO.bind ?_ (fun _ => ?_)
def gristmilllaw06_AggChecks.T4 : Bool × List (List Nat × List Nat) := (true, [([], []), ([], []), ([0, 1], [0, 1]), ([], []), ([], []), ([3, 4, 2], [3, 4]), ([2, 5], [2, 5]), ([6, 5], [6]), ([7], [7]), ([7], [7]), ([7], [7]), ([8, 9, 10, 7, 7], [7, 8, 9, 10]), ([7], [7]), ([7], [7]), ([7], [7]), ([12, 13, 14, 11, 7], [7, 12, 13, 14]), ([11, 15, 7], [7, 11, 15]), ([7, 16], [7, 16]), ([17, 15, 0, 1, 2, 3, 4, 5, 6, 7, 8, 9, 10, 11, 12, 13, 14, 15, 16, 17], [17])])
def gristmilllaw06_AggChecks.B4 : List Nat := [0, 0, 3, 0, 0, 31, 63, 127, 255, 255, 255, 2047, 255, 255, 255, 32767, 65535, 131071, 262143]
theorem gristmilllaw06_AggChecks.tab4 : rtab .any (opsOf Try.f8 4) = gristmilllaw06_AggChecks.T4 := by kernel_rfl
theorem gristmilllaw06_AggChecks.bits4 : waitsOk gristmilllaw06_AggChecks.T4.2 gristmilllaw06_AggChecks.B4 = true := by kernel_rfl
set_option maxHeartbeats 8000000 in
set_option maxRecDepth 100000 in
theorem gristmilllaw06_AggChecks.calls (k : Nat) (a0_0 : Int) (a0_1 : Int) (A1 : Option Addr) (c1 : Nat) (l1 : List (S23)) (a2_0 : Int) (a2_1 : Int) (a3_0 : Int) (a3_1 : Int) (A3_2 : Option Addr) (c3_2 : Nat) (l3_2 : List ByteArray) (r : Bool) (w : World) (hr1 : Kd.C k23 w A1 l1.length l1) (hc1 : l1.length ≤ c1) (hr3_2 : Kd.C Kd.string w A3_2 l3_2.length l3_2) (hc3_2 : l3_2.length ≤ c3_2) (h : gristmilllaw06_AggChecks.f k a0_0 a0_1 l1 a2_0 a2_1 a3_0 a3_1 l3_2 = some r) :
  Calls Try.prog 8 #[.agg #[.int .i64 a0_0, .int .i64 a0_1], .slice A1 l1.length c1, .agg #[.int .i64 a2_0, .int .i64 a2_1], .agg #[.int .u64 a3_0, .int .i64 a3_1, .slice A3_2 l3_2.length c3_2]] w fun e w' => e = .returned (.bool r) ∧ Below w.heap.size w w' := by
 have hu27 := Try.underlying27
 have hu23 := Try.underlying23
 have hu33 := Try.underlying33
 have HR1 := Aside0.mk hr1
 have HC1 := Aside0.mk hc1
 clear hr1 hc1
 have HR3_2 := Aside0.mk hr3_2
 have HC3_2 := Aside0.mk hc3_2
 clear hr3_2 hc3_2
 have HB := Aside0.mk (Below.refl w.heap.size w)
 have H : ((gristmilllaw06_awake.f).bind fun t587 => (if t587 = true then ((agg_Check.f a0_0 a0_1 l1).bind fun t588 => ((gristmillref06_Check.f k a0_0 a0_1 l1).bind fun t589 => (if t588 = t589 then ((agg_May.f k a0_0 a0_1 a2_0 a2_1 a3_0 a3_1 l3_2).bind fun t590 => ((gristmillref06_May.f k a0_0 a0_1 a2_0 a2_1 a3_0 a3_1 l3_2).bind fun t591 => (some (t590 == t591)))) else (some false)))) else (some false))) = some r := h
 clear h
 replace H := Option.bind_eq_some_iff.mp H
 obtain ⟨t587, A50, H⟩ := H
 replace H : (if t587 = true then ((agg_Check.f a0_0 a0_1 l1).bind fun t588 => ((gristmillref06_Check.f k a0_0 a0_1 l1).bind fun t589 => (if t588 = t589 then ((agg_May.f k a0_0 a0_1 a2_0 a2_1 a3_0 a3_1 l3_2).bind fun t590 => ((gristmillref06_May.f k a0_0 a0_1 a2_0 a2_1 a3_0 a3_1 l3_2).bind fun t591 => (some (t590 == t591)))) else (some false)))) else (some false)) = some r := H
 have A5 := Aside0.mk A50
 clear A50
 by_cases c6 : t587 = true
 ·subst c6
  have H1 : ((agg_Check.f a0_0 a0_1 l1).bind fun t588 => ((gristmillref06_Check.f k a0_0 a0_1 l1).bind fun t589 => (if t588 = t589 then ((agg_May.f k a0_0 a0_1 a2_0 a2_1 a3_0 a3_1 l3_2).bind fun t590 => ((gristmillref06_May.f k a0_0 a0_1 a2_0 a2_1 a3_0 a3_1 l3_2).bind fun t591 => (some (t590 == t591)))) else (some false)))) = some r := by rw [if_pos rfl] at H; exact H
  clear H
  have H := H1
  clear H1
  replace H := Option.bind_eq_some_iff.mp H
  obtain ⟨t588, A70, H⟩ := H
  replace H : ((gristmillref06_Check.f k a0_0 a0_1 l1).bind fun t589 => (if t588 = t589 then ((agg_May.f k a0_0 a0_1 a2_0 a2_1 a3_0 a3_1 l3_2).bind fun t590 => ((gristmillref06_May.f k a0_0 a0_1 a2_0 a2_1 a3_0 a3_1 l3_2).bind fun t591 => (some (t590 == t591)))) else (some false))) = some r := H
  have A7 := Aside0.mk A70
  clear A70
  replace H := Option.bind_eq_some_iff.mp H
  obtain ⟨t589, A80, H⟩ := H
  replace H : (if t588 = t589 then ((agg_May.f k a0_0 a0_1 a2_0 a2_1 a3_0 a3_1 l3_2).bind fun t590 => ((gristmillref06_May.f k a0_0 a0_1 a2_0 a2_1 a3_0 a3_1 l3_2).bind fun t591 => (some (t590 == t591)))) else (some false)) = some r := H
  have A8 := Aside0.mk A80
  clear A80
  by_cases c9 : t588 = t589
  ·rw [if_pos c9] at H
   have c9b0 : (t588 == t589) = true := beq_iff_eq.mpr c9
   have c9b1 : (t588 != t589) = false := bne_eq_false_iff_eq.mpr c9
   clear c9
   replace H := Option.bind_eq_some_iff.mp H
   obtain ⟨t590, A100, H⟩ := H
   replace H : ((gristmillref06_May.f k a0_0 a0_1 a2_0 a2_1 a3_0 a3_1 l3_2).bind fun t591 => (some (t590 == t591))) = some r := H
   have A10 := Aside0.mk A100
   clear A100
   replace H := Option.bind_eq_some_iff.mp H
   obtain ⟨t591, A110, H⟩ := H
   replace H : (some (t590 == t591)) = some r := H
   have A11 := Aside0.mk A110
   clear A110
   obtain rfl := Option.some.inj H
   go_enter Try.func8, Try.ntmps8
   try go_wp2_with (first | ((with_reducible refine gate_dst (N := 4) rfl ?_); refine bx_ (N := 4) (cs := #[.int .i64 a0_0, .int .i64 a0_1]) (t := 27) ?_; intro gb584 hg w12 hbox hb; have n0_ := Aside0.mk (below_step (bw_ HB.out) hb); have n1_ := Aside0.mk (hbox); have n2_ := Aside0.mk (sz_ hg (bw_ HB.out)); have n3_ := n2_; clear HB; have HB := n0_; have BK584 := n1_; have GW584 := n2_; have GE584 := n3_; clear n0_ n1_ n2_ n3_; clear hb hbox hg) | ((with_reducible refine gate_dst (N := 6) rfl ?_); refine bx_ (N := 6) (cs := #[.int .i64 a2_0, .int .i64 a2_1]) (t := 23) ?_; intro gb585 hg w13 hbox hb; have n0_ := Aside0.mk (blk_below (bk_ BK584.out) hb); have n1_ := Aside0.mk (below_step (bw_ HB.out) hb); have n2_ := Aside0.mk (hbox); have n3_ := Aside0.mk (sz_ hg (bw_ HB.out)); have n4_ := n3_; have n5_ := Aside0.mk (ne_ hg (blk_lt (bk_ BK584.out))); have n6_ := Aside0.mk n5_.out.symm; clear BK584 HB; have BK584 := n0_; have HB := n1_; have BK585 := n2_; have GW585 := n3_; have GE585 := n4_; have NB584_585 := n5_; have NB585_584 := n6_; clear n0_ n1_ n2_ n3_ n4_ n5_ n6_; clear hb hbox hg) | ((with_reducible refine gate_dst (N := 7) rfl ?_); refine bx_ (N := 7) (cs := #[.int .u64 a3_0, .int .i64 a3_1, .slice A3_2 l3_2.length c3_2]) (t := 33) ?_; intro gb586 hg w14 hbox hb; have n0_ := Aside0.mk (blk_below (bk_ BK584.out) hb); have n1_ := Aside0.mk (blk_below (bk_ BK585.out) hb); have n2_ := Aside0.mk (below_step (bw_ HB.out) hb); have n3_ := Aside0.mk (hbox); have n4_ := Aside0.mk (sz_ hg (bw_ HB.out)); have n5_ := n4_; have n6_ := Aside0.mk (ne_ hg (blk_lt (bk_ BK584.out))); have n7_ := Aside0.mk n6_.out.symm; have n8_ := Aside0.mk (ne_ hg (blk_lt (bk_ BK585.out))); have n9_ := Aside0.mk n8_.out.symm; clear BK584 BK585 HB; have BK584 := n0_; have BK585 := n1_; have HB := n2_; have BK586 := n3_; have GW586 := n4_; have GE586 := n5_; have NB584_586 := n6_; have NB586_584 := n7_; have NB585_586 := n8_; have NB586_585 := n9_; clear n0_ n1_ n2_ n3_ n4_ n5_ n6_ n7_ n8_ n9_; clear hb hbox hg) | ((with_reducible refine gate_callee (f := 10) rfl ?_); refine goesL_ (some 10) rfl rfl Try.func10 (by kernel_rfl) rfl #[] rfl (by (try simp only [List.map_toArray, List.map_cons, List.map_nil]); first | done | rfl | (simp only [List.length_drop, List.length_take]; rfl)) ?_; (with_reducible refine (gristmilllaw06_awake.calls  true _ A5.out).mono ?_); rintro e w15 ⟨rfl, hb⟩; refine ⟨_, rfl, ?_⟩; have n0_ := Aside0.mk (blk_below (bk_ BK584.out) hb); have n1_ := Aside0.mk (blk_below (bk_ BK585.out) hb); have n2_ := Aside0.mk (blk_below (bk_ BK586.out) hb); have n3_ := Aside0.mk (below_step (bw_ HB.out) hb); clear BK584 BK585 BK586 HB; have BK584 := n0_; have BK585 := n1_; have BK586 := n2_; have HB := n3_; clear n0_ n1_ n2_ n3_; (try clear hb); (try clear hb2); (try clear hk); (try clear hi)))
   have n0_ := Aside0.mk (blk_drew BK584.out)
   have n1_ := Aside0.mk (blk_drew BK585.out)
   have n2_ := Aside0.mk (blk_drew BK586.out)
   have n3_ := Aside0.mk (below_drew1 HB.out)
   clear BK584
   clear BK585
   clear BK586
   clear HB
   have BK584 := n0_
   have BK585 := n1_
   have BK586 := n2_
   have HB := n3_
   clear n0_ n1_ n2_ n3_
   refine start_ (n := 19) (S := fun w' => w'.cell? ⟨gb584, 0, none⟩ = some (.int .i64 a0_0) ∧ w'.cell? ⟨gb584, 1, none⟩ = some (.int .i64 a0_1) ∧ w'.cell? ⟨gb585, 0, none⟩ = some (.int .i64 a2_0) ∧ w'.cell? ⟨gb585, 1, none⟩ = some (.int .i64 a2_1) ∧ w'.cell? ⟨gb586, 0, none⟩ = some (.int .u64 a3_0) ∧ w'.cell? ⟨gb586, 1, none⟩ = some (.int .i64 a3_1) ∧ w'.cell? ⟨gb586, 2, none⟩ = some (.slice A3_2 l3_2.length c3_2)) (ds := []) #[false, false, false, false, false, false, false, false, false, false, false, false, false, false, false, false, false, false, false] (by kernel_rfl) rfl rfl ⟨(blk_cell BK584.out 0).trans rfl, (blk_cell BK584.out 1).trans rfl, (blk_cell BK585.out 0).trans rfl, (blk_cell BK585.out 1).trans rfl, (blk_cell BK586.out 0).trans rfl, (blk_cell BK586.out 1).trans rfl, (blk_cell BK586.out 2).trans rfl⟩ (fun hHeld => ?_); refine with_tabW gristmilllaw06_AggChecks.tab4 gristmilllaw06_AggChecks.bits4 (fun HT_ HW_ => ?_)
   generalize w15.drew = w16 at BK584 BK585 BK586 HB hHeld ⊢
   refine pure_ (i := 1) (N := some 14) (v := ?_) (a' := ?_) #[false, true, false, false, false, false, false, false, false, false, false, false, false, false, false, false, false, false, false] rfl rfl (any_of HT_.out (by kernel_rfl)) (fun _ _ _ h => h) (Or.inl ⟨by rfl, ?_⟩) ?_ ?_
   rotate_left
   ·intro w'
    go_simp
    with_reducible rfl
   rotate_left
   ·simp only [Act.put, q1_, q2_, q3_, i64_w, i32_w]
    rfl
   refine pure_ (i := 4) (N := some 17) (v := ?_) (a' := ?_) #[false, true, false, false, true, false, false, false, false, false, false, false, false, false, false, false, false, false, false] rfl rfl (any_of HT_.out (by kernel_rfl)) (fun _ _ _ h => h) (Or.inl ⟨by rfl, ?_⟩) ?_ ?_
   rotate_left
   ·intro w'
    go_simp
    with_reducible rfl
   rotate_left
   ·simp only [Act.put, q1_, q2_, q3_, i64_w, i32_w]
    rfl
   refine take_ (i := 0) (N := some 13) (v := ?_) (a' := ?_) #[true, true, false, false, true, false, false, false, false, false, false, false, false, false, false, false, false, false, false] rfl rfl (take_ofW HT_.out HW_.out (by kernel_rfl)) (fun _ _ _ h => h) (Or.inl ⟨by rfl, ?_⟩) hHeld ?_ ?_
   rotate_left
   ·rintro w' ⟨s0, s1, s2, s3, s4, s5, s6⟩
    go_simp
    with_reducible rfl
   rotate_left
   ·simp only [Act.put, q1_, q2_, q3_, i64_w, i32_w]
    rfl
   refine take_ (i := 3) (N := some 16) (v := ?_) (a' := ?_) #[true, true, false, true, true, false, false, false, false, false, false, false, false, false, false, false, false, false, false] rfl rfl (take_ofW HT_.out HW_.out (by kernel_rfl)) (fun _ _ _ h => h) (Or.inl ⟨by rfl, ?_⟩) hHeld ?_ ?_
   rotate_left
   ·rintro w' ⟨s0, s1, s2, s3, s4, s5, s6⟩
    go_simp
    with_reducible rfl
   rotate_left
   ·simp only [Act.put, q1_, q2_, q3_, i64_w, i32_w]
    rfl
   refine one_ (i := 2) (N := some 15) #[true, true, true, true, true, false, false, false, false, false, false, false, false, false, false, false, false, false, false] rfl rfl (one_of HT_.out (by kernel_rfl)) (by decide) (fun K hK => ?_)
   refine goes_ Try.func21 (by kernel_rfl) rfl #[.agg #[.int .i64 a0_0, .int .i64 a0_1], .slice A1 l1.length c1] (by rfl) rfl rfl (by (try simp only [List.map_toArray, List.map_cons, List.map_nil]); first | done | rfl | (simp only [List.length_drop, List.length_take]; rfl)) ?_
   with_reducible refine (agg_Check.calls a0_0 a0_1 _ _ l1 t588 _ ?side1 ?side2 A7.out).mono ?_
   (case side1 => repeat (first | exact (Kd.C_below HR1.out HB.out) | (with_reducible refine Kd.C_alloc ?_ _) | (with_reducible refine Kd.C_drewN ?_ _) | (with_reducible refine Kd.C_drew ?_)))
   (case side2 => exact HC1.out)
   rintro e w17 ⟨rfl, hb⟩
   refine ⟨_, rfl, ?_⟩
   have n0_ := Aside0.mk (blk_below (bk_ BK584.out) hb)
   have n1_ := Aside0.mk (blk_below (bk_ BK585.out) hb)
   have n2_ := Aside0.mk (blk_below (bk_ BK586.out) hb)
   have n3_ := Aside0.mk (below_step (bw_ HB.out) hb)
   clear BK584
   clear BK585
   clear BK586
   clear HB
   have BK584 := n0_
   have BK585 := n1_
   have BK586 := n2_
   have HB := n3_
   clear n0_ n1_ n2_ n3_
   (try clear hb)
   (try clear hb2)
   (try clear hk)
   (try clear hi)
   refine hK.out _ _ ⟨(blk_cell BK584.out 0).trans rfl, (blk_cell BK584.out 1).trans rfl, (blk_cell BK585.out 0).trans rfl, (blk_cell BK585.out 1).trans rfl, (blk_cell BK586.out 0).trans rfl, (blk_cell BK586.out 1).trans rfl, (blk_cell BK586.out 2).trans rfl⟩ (fun hHeld => ?_)
   clear hK K
   refine norm_ (a' := ?_) ?_ ?_
   rotate_left
   ·show Act.put _ (some 15) _ = _
    simp only [Act.put, q1_, q2_, q3_, i64_w, i32_w]
    rfl
   refine one_ (i := 5) (N := some 18) #[true, true, true, true, true, true, false, false, false, false, false, false, false, false, false, false, false, false, false] rfl rfl (one_of HT_.out (by kernel_rfl)) (by decide) (fun K hK => ?_)
   refine goes_ Try.func22 (by kernel_rfl) rfl #[.agg #[.int .i64 a0_0, .int .i64 a0_1], .slice A1 l1.length c1] (by rfl) rfl rfl (by (try simp only [List.map_toArray, List.map_cons, List.map_nil]); first | done | rfl | (simp only [List.length_drop, List.length_take]; rfl)) ?_
   with_reducible refine (gristmillref06_Check.calls k a0_0 a0_1 _ _ l1 t589 _ ?side1 ?side2 A8.out).mono ?_
   (case side1 => repeat (first | exact (Kd.C_below HR1.out HB.out) | (with_reducible refine Kd.C_alloc ?_ _) | (with_reducible refine Kd.C_drewN ?_ _) | (with_reducible refine Kd.C_drew ?_)))
   (case side2 => exact HC1.out)
   rintro e w18 ⟨rfl, hb⟩
   refine ⟨_, rfl, ?_⟩
   have n0_ := Aside0.mk (blk_below (bk_ BK584.out) hb)
   have n1_ := Aside0.mk (blk_below (bk_ BK585.out) hb)
   have n2_ := Aside0.mk (blk_below (bk_ BK586.out) hb)
   have n3_ := Aside0.mk (below_step (bw_ HB.out) hb)
   clear BK584
   clear BK585
   clear BK586
   clear HB
   have BK584 := n0_
   have BK585 := n1_
   have BK586 := n2_
   have HB := n3_
   clear n0_ n1_ n2_ n3_
   (try clear hb)
   (try clear hb2)
   (try clear hk)
   (try clear hi)
   refine hK.out _ _ ⟨(blk_cell BK584.out 0).trans rfl, (blk_cell BK584.out 1).trans rfl, (blk_cell BK585.out 0).trans rfl, (blk_cell BK585.out 1).trans rfl, (blk_cell BK586.out 0).trans rfl, (blk_cell BK586.out 1).trans rfl, (blk_cell BK586.out 2).trans rfl⟩ (fun hHeld => ?_)
   clear hK K
   refine norm_ (a' := ?_) ?_ ?_
   rotate_left
   ·show Act.put _ (some 18) _ = _
    simp only [Act.put, q1_, q2_, q3_, i64_w, i32_w]
    rfl
   refine pure_ (i := 6) (N := some 19) (v := ?_) (a' := ?_) #[true, true, true, true, true, true, true, false, false, false, false, false, false, false, false, false, false, false, false] rfl rfl (any_of HT_.out (by kernel_rfl)) (fun _ _ _ h => h) (Or.inl ⟨by rfl, ?_⟩) ?_ ?_
   rotate_left
   ·intro w'
    go_simp
    with_reducible rfl
   rotate_left
   ·simp only [Act.put, q1_, q2_, q3_, i64_w, i32_w]
    rfl
   refine pure_ (i := 7) (N := some 20) (v := ?_) (a' := ?_) #[true, true, true, true, true, true, true, true, false, false, false, false, false, false, false, false, false, false, false] rfl rfl (any_of HT_.out (by kernel_rfl)) (fun _ _ _ h => h) (Or.inl ⟨by rfl, ?_⟩) ?_ ?_
   rotate_left
   ·intro w'
    go_simp
    with_reducible rfl
   rotate_left
   ·simp only [Act.put, q1_, q2_, q3_, i64_w, i32_w]
    rfl
   refine take_ (i := 8) (N := some 21) (v := ?_) (a' := ?_) #[true, true, true, true, true, true, true, true, true, false, false, false, false, false, false, false, false, false, false] rfl rfl (take_ofW HT_.out HW_.out (by kernel_rfl)) (fun _ _ _ h => h) (Or.inl ⟨by rfl, ?_⟩) hHeld ?_ ?_
   rotate_left
   ·rintro w' ⟨s0, s1, s2, s3, s4, s5, s6⟩
    go_simp
    with_reducible rfl
   rotate_left
   ·simp only [Act.put, q1_, q2_, q3_, i64_w, i32_w]
    rfl
   refine take_ (i := 9) (N := some 22) (v := ?_) (a' := ?_) #[true, true, true, true, true, true, true, true, true, true, false, false, false, false, false, false, false, false, false] rfl rfl (take_ofW HT_.out HW_.out (by kernel_rfl)) (fun _ _ _ h => h) (Or.inl ⟨by rfl, ?_⟩) hHeld ?_ ?_
   rotate_left
   ·rintro w' ⟨s0, s1, s2, s3, s4, s5, s6⟩
    go_simp
    with_reducible rfl
   rotate_left
   ·simp only [Act.put, q1_, q2_, q3_, i64_w, i32_w]
    rfl
   refine take_ (i := 10) (N := some 23) (v := ?_) (a' := ?_) #[true, true, true, true, true, true, true, true, true, true, true, false, false, false, false, false, false, false, false] rfl rfl (take_ofW HT_.out HW_.out (by kernel_rfl)) (fun _ _ _ h => h) (Or.inl ⟨by rfl, ?_⟩) hHeld ?_ ?_
   rotate_left
   ·rintro w' ⟨s0, s1, s2, s3, s4, s5, s6⟩
    go_simp
    with_reducible rfl
   rotate_left
   ·simp only [Act.put, q1_, q2_, q3_, i64_w, i32_w]
    rfl
   refine take_ (i := 12) (N := some 25) (v := ?_) (a' := ?_) #[true, true, true, true, true, true, true, true, true, true, true, false, true, false, false, false, false, false, false] rfl rfl (take_ofW HT_.out HW_.out (by kernel_rfl)) (fun _ _ _ h => h) (Or.inl ⟨by rfl, ?_⟩) hHeld ?_ ?_
   rotate_left
   ·rintro w' ⟨s0, s1, s2, s3, s4, s5, s6⟩
    go_simp
    with_reducible rfl
   rotate_left
   ·simp only [Act.put, q1_, q2_, q3_, i64_w, i32_w]
    rfl
   refine take_ (i := 13) (N := some 26) (v := ?_) (a' := ?_) #[true, true, true, true, true, true, true, true, true, true, true, false, true, true, false, false, false, false, false] rfl rfl (take_ofW HT_.out HW_.out (by kernel_rfl)) (fun _ _ _ h => h) (Or.inl ⟨by rfl, ?_⟩) hHeld ?_ ?_
   rotate_left
   ·rintro w' ⟨s0, s1, s2, s3, s4, s5, s6⟩
    go_simp
    with_reducible rfl
   rotate_left
   ·simp only [Act.put, q1_, q2_, q3_, i64_w, i32_w]
    rfl
   refine take_ (i := 14) (N := some 27) (v := ?_) (a' := ?_) #[true, true, true, true, true, true, true, true, true, true, true, false, true, true, true, false, false, false, false] rfl rfl (take_ofW HT_.out HW_.out (by kernel_rfl)) (fun _ _ _ h => h) (Or.inl ⟨by rfl, ?_⟩) hHeld ?_ ?_
   rotate_left
   ·rintro w' ⟨s0, s1, s2, s3, s4, s5, s6⟩
    go_simp
    with_reducible rfl
   rotate_left
   ·simp only [Act.put, q1_, q2_, q3_, i64_w, i32_w]
    rfl
   refine one_ (i := 11) (N := some 24) #[true, true, true, true, true, true, true, true, true, true, true, true, true, true, true, false, false, false, false] rfl rfl (one_of HT_.out (by kernel_rfl)) (by decide) (fun K hK => ?_)
   refine goes_ Try.func23 (by kernel_rfl) rfl #[.agg #[.int .i64 a0_0, .int .i64 a0_1], .agg #[.int .i64 a2_0, .int .i64 a2_1], .agg #[.int .u64 a3_0, .int .i64 a3_1, .slice A3_2 l3_2.length c3_2]] (by rfl) rfl rfl (by (try simp only [List.map_toArray, List.map_cons, List.map_nil]); first | done | rfl | (simp only [List.length_drop, List.length_take]; rfl)) ?_
   with_reducible refine (agg_May.calls k a0_0 a0_1 a2_0 a2_1 a3_0 a3_1 _ _ l3_2 t590 _ ?side1 ?side2 A10.out).mono ?_
   (case side1 => repeat (first | exact (Kd.C_below HR3_2.out HB.out) | (with_reducible refine Kd.C_alloc ?_ _) | (with_reducible refine Kd.C_drewN ?_ _) | (with_reducible refine Kd.C_drew ?_)))
   (case side2 => exact HC3_2.out)
   rintro e w19 ⟨rfl, hb⟩
   refine ⟨_, rfl, ?_⟩
   have n0_ := Aside0.mk (blk_below (bk_ BK584.out) hb)
   have n1_ := Aside0.mk (blk_below (bk_ BK585.out) hb)
   have n2_ := Aside0.mk (blk_below (bk_ BK586.out) hb)
   have n3_ := Aside0.mk (below_step (bw_ HB.out) hb)
   clear BK584
   clear BK585
   clear BK586
   clear HB
   have BK584 := n0_
   have BK585 := n1_
   have BK586 := n2_
   have HB := n3_
   clear n0_ n1_ n2_ n3_
   (try clear hb)
   (try clear hb2)
   (try clear hk)
   (try clear hi)
   refine hK.out _ _ ⟨(blk_cell BK584.out 0).trans rfl, (blk_cell BK584.out 1).trans rfl, (blk_cell BK585.out 0).trans rfl, (blk_cell BK585.out 1).trans rfl, (blk_cell BK586.out 0).trans rfl, (blk_cell BK586.out 1).trans rfl, (blk_cell BK586.out 2).trans rfl⟩ (fun hHeld => ?_)
   clear hK K
   refine norm_ (a' := ?_) ?_ ?_
   rotate_left
   ·show Act.put _ (some 24) _ = _
    simp only [Act.put, q1_, q2_, q3_, i64_w, i32_w]
    rfl
   refine one_ (i := 15) (N := some 28) #[true, true, true, true, true, true, true, true, true, true, true, true, true, true, true, true, false, false, false] rfl rfl (one_of HT_.out (by kernel_rfl)) (by decide) (fun K hK => ?_)
   refine goes_ Try.func24 (by kernel_rfl) rfl #[.agg #[.int .i64 a0_0, .int .i64 a0_1], .agg #[.int .i64 a2_0, .int .i64 a2_1], .agg #[.int .u64 a3_0, .int .i64 a3_1, .slice A3_2 l3_2.length c3_2]] (by rfl) rfl rfl (by (try simp only [List.map_toArray, List.map_cons, List.map_nil]); first | done | rfl | (simp only [List.length_drop, List.length_take]; rfl)) ?_
   with_reducible refine (gristmillref06_May.calls k a0_0 a0_1 a2_0 a2_1 a3_0 a3_1 _ _ l3_2 t591 _ ?side1 ?side2 A11.out).mono ?_
   (case side1 => repeat (first | exact (Kd.C_below HR3_2.out HB.out) | (with_reducible refine Kd.C_alloc ?_ _) | (with_reducible refine Kd.C_drewN ?_ _) | (with_reducible refine Kd.C_drew ?_)))
   (case side2 => exact HC3_2.out)
   rintro e w20 ⟨rfl, hb⟩
   refine ⟨_, rfl, ?_⟩
   have n0_ := Aside0.mk (blk_below (bk_ BK584.out) hb)
   have n1_ := Aside0.mk (blk_below (bk_ BK585.out) hb)
   have n2_ := Aside0.mk (blk_below (bk_ BK586.out) hb)
   have n3_ := Aside0.mk (below_step (bw_ HB.out) hb)
   clear BK584
   clear BK585
   clear BK586
   clear HB
   have BK584 := n0_
   have BK585 := n1_
   have BK586 := n2_
   have HB := n3_
   clear n0_ n1_ n2_ n3_
   (try clear hb)
   (try clear hb2)
   (try clear hk)
   (try clear hi)
   refine hK.out _ _ ⟨(blk_cell BK584.out 0).trans rfl, (blk_cell BK584.out 1).trans rfl, (blk_cell BK585.out 0).trans rfl, (blk_cell BK585.out 1).trans rfl, (blk_cell BK586.out 0).trans rfl, (blk_cell BK586.out 1).trans rfl, (blk_cell BK586.out 2).trans rfl⟩ (fun hHeld => ?_)
   clear hK K
   refine norm_ (a' := ?_) ?_ ?_
   rotate_left
   ·show Act.put _ (some 28) _ = _
    simp only [Act.put, q1_, q2_, q3_, i64_w, i32_w]
    rfl
   refine pure_ (i := 16) (N := some 29) (v := ?_) (a' := ?_) #[true, true, true, true, true, true, true, true, true, true, true, true, true, true, true, true, true, false, false] rfl rfl (any_of HT_.out (by kernel_rfl)) (fun _ _ _ h => h) (Or.inl ⟨by rfl, ?_⟩) ?_ ?_
   rotate_left
   ·intro w'
    go_simp
    with_reducible rfl
   rotate_left
   ·simp only [Act.put, q1_, q2_, q3_, i64_w, i32_w]
    rfl
   refine pure_ (i := 17) (N := some 30) (v := ?_) (a' := ?_) #[true, true, true, true, true, true, true, true, true, true, true, true, true, true, true, true, true, true, false] rfl rfl (any_of HT_.out (by kernel_rfl)) (fun _ _ _ h => h) (Or.inl ⟨by rfl, ?_⟩) ?_ ?_
   rotate_left
   ·intro w'
    go_simp
    with_reducible rfl
   rotate_left
   ·simp only [Act.put, q1_, q2_, q3_, i64_w, i32_w]
    rfl
   refine pure_ (i := 18) (N := some 8) (v := ?_) (a' := ?_) #[true, true, true, true, true, true, true, true, true, true, true, true, true, true, true, true, true, true, true] rfl rfl (any_of HT_.out (by kernel_rfl)) (fun _ _ _ h => h) (Or.inl ⟨by rfl, ?_⟩) ?_ ?_
   rotate_left
   ·intro w'
    go_simp
    with_reducible rfl
   rotate_left
   ·simp only [Act.put, q1_, q2_, q3_, i64_w, i32_w]
    rfl
   refine done_ (done_of HT_.out (by kernel_rfl)) ?_
   try go_wp2
   go_ret
   exact ⟨by first | rfl | (simp [errW_none, errW_some] <;> rfl) | (simp [*, errW_none, errW_some] <;> rfl), by repeat (first | (with_reducible first | exact HB.out | apply below_alloc | apply pw_below_drewN | apply below_drew1 | refine below_set ?_ GE584.out | refine below_set ?_ GE585.out | refine below_set ?_ GE586.out) | exact HB.out)⟩
  ·rw [if_neg c9] at H
   have c9b0 : (t588 == t589) = false := beq_eq_false_iff_ne.mpr c9
   have c9b1 : (t588 != t589) = true := bne_iff_ne.mpr c9
   obtain rfl := Option.some.inj H
   go_enter Try.func8, Try.ntmps8
   try go_wp2_with (first | ((with_reducible refine gate_dst (N := 4) rfl ?_); refine bx_ (N := 4) (cs := #[.int .i64 a0_0, .int .i64 a0_1]) (t := 27) ?_; intro gb584 hg w21 hbox hb; have n0_ := Aside0.mk (below_step (bw_ HB.out) hb); have n1_ := Aside0.mk (hbox); have n2_ := Aside0.mk (sz_ hg (bw_ HB.out)); have n3_ := n2_; clear HB; have HB := n0_; have BK584 := n1_; have GW584 := n2_; have GE584 := n3_; clear n0_ n1_ n2_ n3_; clear hb hbox hg) | ((with_reducible refine gate_dst (N := 6) rfl ?_); refine bx_ (N := 6) (cs := #[.int .i64 a2_0, .int .i64 a2_1]) (t := 23) ?_; intro gb585 hg w22 hbox hb; have n0_ := Aside0.mk (blk_below (bk_ BK584.out) hb); have n1_ := Aside0.mk (below_step (bw_ HB.out) hb); have n2_ := Aside0.mk (hbox); have n3_ := Aside0.mk (sz_ hg (bw_ HB.out)); have n4_ := n3_; have n5_ := Aside0.mk (ne_ hg (blk_lt (bk_ BK584.out))); have n6_ := Aside0.mk n5_.out.symm; clear BK584 HB; have BK584 := n0_; have HB := n1_; have BK585 := n2_; have GW585 := n3_; have GE585 := n4_; have NB584_585 := n5_; have NB585_584 := n6_; clear n0_ n1_ n2_ n3_ n4_ n5_ n6_; clear hb hbox hg) | ((with_reducible refine gate_dst (N := 7) rfl ?_); refine bx_ (N := 7) (cs := #[.int .u64 a3_0, .int .i64 a3_1, .slice A3_2 l3_2.length c3_2]) (t := 33) ?_; intro gb586 hg w23 hbox hb; have n0_ := Aside0.mk (blk_below (bk_ BK584.out) hb); have n1_ := Aside0.mk (blk_below (bk_ BK585.out) hb); have n2_ := Aside0.mk (below_step (bw_ HB.out) hb); have n3_ := Aside0.mk (hbox); have n4_ := Aside0.mk (sz_ hg (bw_ HB.out)); have n5_ := n4_; have n6_ := Aside0.mk (ne_ hg (blk_lt (bk_ BK584.out))); have n7_ := Aside0.mk n6_.out.symm; have n8_ := Aside0.mk (ne_ hg (blk_lt (bk_ BK585.out))); have n9_ := Aside0.mk n8_.out.symm; clear BK584 BK585 HB; have BK584 := n0_; have BK585 := n1_; have HB := n2_; have BK586 := n3_; have GW586 := n4_; have GE586 := n5_; have NB584_586 := n6_; have NB586_584 := n7_; have NB585_586 := n8_; have NB586_585 := n9_; clear n0_ n1_ n2_ n3_ n4_ n5_ n6_ n7_ n8_ n9_; clear hb hbox hg) | ((with_reducible refine gate_callee (f := 10) rfl ?_); refine goesL_ (some 10) rfl rfl Try.func10 (by kernel_rfl) rfl #[] rfl (by (try simp only [List.map_toArray, List.map_cons, List.map_nil]); first | done | rfl | (simp only [List.length_drop, List.length_take]; rfl)) ?_; (with_reducible refine (gristmilllaw06_awake.calls  true _ A5.out).mono ?_); rintro e w24 ⟨rfl, hb⟩; refine ⟨_, rfl, ?_⟩; have n0_ := Aside0.mk (blk_below (bk_ BK584.out) hb); have n1_ := Aside0.mk (blk_below (bk_ BK585.out) hb); have n2_ := Aside0.mk (blk_below (bk_ BK586.out) hb); have n3_ := Aside0.mk (below_step (bw_ HB.out) hb); clear BK584 BK585 BK586 HB; have BK584 := n0_; have BK585 := n1_; have BK586 := n2_; have HB := n3_; clear n0_ n1_ n2_ n3_; (try clear hb); (try clear hb2); (try clear hk); (try clear hi)))
   have n0_ := Aside0.mk (blk_drew BK584.out)
   have n1_ := Aside0.mk (blk_drew BK585.out)
   have n2_ := Aside0.mk (blk_drew BK586.out)
   have n3_ := Aside0.mk (below_drew1 HB.out)
   clear BK584
   clear BK585
   clear BK586
   clear HB
   have BK584 := n0_
   have BK585 := n1_
   have BK586 := n2_
   have HB := n3_
   clear n0_ n1_ n2_ n3_
   refine start_ (n := 19) (S := fun w' => w'.cell? ⟨gb584, 0, none⟩ = some (.int .i64 a0_0) ∧ w'.cell? ⟨gb584, 1, none⟩ = some (.int .i64 a0_1)) (ds := []) #[false, false, false, false, false, false, false, false, false, false, false, false, false, false, false, false, false, false, false] (by kernel_rfl) rfl rfl ⟨(blk_cell BK584.out 0).trans rfl, (blk_cell BK584.out 1).trans rfl⟩ (fun hHeld => ?_); refine with_tabW gristmilllaw06_AggChecks.tab4 gristmilllaw06_AggChecks.bits4 (fun HT_ HW_ => ?_)
   generalize w24.drew = w25 at BK584 BK585 BK586 HB hHeld ⊢
   refine pure_ (i := 1) (N := some 14) (v := ?_) (a' := ?_) #[false, true, false, false, false, false, false, false, false, false, false, false, false, false, false, false, false, false, false] rfl rfl (any_of HT_.out (by kernel_rfl)) (fun _ _ _ h => h) (Or.inl ⟨by rfl, ?_⟩) ?_ ?_
   rotate_left
   ·intro w'
    go_simp
    with_reducible rfl
   rotate_left
   ·simp only [Act.put, q1_, q2_, q3_, i64_w, i32_w]
    rfl
   refine pure_ (i := 4) (N := some 17) (v := ?_) (a' := ?_) #[false, true, false, false, true, false, false, false, false, false, false, false, false, false, false, false, false, false, false] rfl rfl (any_of HT_.out (by kernel_rfl)) (fun _ _ _ h => h) (Or.inl ⟨by rfl, ?_⟩) ?_ ?_
   rotate_left
   ·intro w'
    go_simp
    with_reducible rfl
   rotate_left
   ·simp only [Act.put, q1_, q2_, q3_, i64_w, i32_w]
    rfl
   refine take_ (i := 0) (N := some 13) (v := ?_) (a' := ?_) #[true, true, false, false, true, false, false, false, false, false, false, false, false, false, false, false, false, false, false] rfl rfl (take_ofW HT_.out HW_.out (by kernel_rfl)) (fun _ _ _ h => h) (Or.inl ⟨by rfl, ?_⟩) hHeld ?_ ?_
   rotate_left
   ·rintro w' ⟨s0, s1⟩
    go_simp
    with_reducible rfl
   rotate_left
   ·simp only [Act.put, q1_, q2_, q3_, i64_w, i32_w]
    rfl
   refine take_ (i := 3) (N := some 16) (v := ?_) (a' := ?_) #[true, true, false, true, true, false, false, false, false, false, false, false, false, false, false, false, false, false, false] rfl rfl (take_ofW HT_.out HW_.out (by kernel_rfl)) (fun _ _ _ h => h) (Or.inl ⟨by rfl, ?_⟩) hHeld ?_ ?_
   rotate_left
   ·rintro w' ⟨s0, s1⟩
    go_simp
    with_reducible rfl
   rotate_left
   ·simp only [Act.put, q1_, q2_, q3_, i64_w, i32_w]
    rfl
   refine one_ (i := 2) (N := some 15) #[true, true, true, true, true, false, false, false, false, false, false, false, false, false, false, false, false, false, false] rfl rfl (one_of HT_.out (by kernel_rfl)) (by decide) (fun K hK => ?_)
   refine goes_ Try.func21 (by kernel_rfl) rfl #[.agg #[.int .i64 a0_0, .int .i64 a0_1], .slice A1 l1.length c1] (by rfl) rfl rfl (by (try simp only [List.map_toArray, List.map_cons, List.map_nil]); first | done | rfl | (simp only [List.length_drop, List.length_take]; rfl)) ?_
   with_reducible refine (agg_Check.calls a0_0 a0_1 _ _ l1 t588 _ ?side1 ?side2 A7.out).mono ?_
   (case side1 => repeat (first | exact (Kd.C_below HR1.out HB.out) | (with_reducible refine Kd.C_alloc ?_ _) | (with_reducible refine Kd.C_drewN ?_ _) | (with_reducible refine Kd.C_drew ?_)))
   (case side2 => exact HC1.out)
   rintro e w26 ⟨rfl, hb⟩
   refine ⟨_, rfl, ?_⟩
   have n0_ := Aside0.mk (blk_below (bk_ BK584.out) hb)
   have n1_ := Aside0.mk (blk_below (bk_ BK585.out) hb)
   have n2_ := Aside0.mk (blk_below (bk_ BK586.out) hb)
   have n3_ := Aside0.mk (below_step (bw_ HB.out) hb)
   clear BK584
   clear BK585
   clear BK586
   clear HB
   have BK584 := n0_
   have BK585 := n1_
   have BK586 := n2_
   have HB := n3_
   clear n0_ n1_ n2_ n3_
   (try clear hb)
   (try clear hb2)
   (try clear hk)
   (try clear hi)
   refine hK.out _ _ ⟨(blk_cell BK584.out 0).trans rfl, (blk_cell BK584.out 1).trans rfl⟩ (fun hHeld => ?_)
   clear hK K
   refine norm_ (a' := ?_) ?_ ?_
   rotate_left
   ·show Act.put _ (some 15) _ = _
    simp only [Act.put, q1_, q2_, q3_, i64_w, i32_w]
    rfl
   refine one_ (i := 5) (N := some 18) #[true, true, true, true, true, true, false, false, false, false, false, false, false, false, false, false, false, false, false] rfl rfl (one_of HT_.out (by kernel_rfl)) (by decide) (fun K hK => ?_)
   refine goes_ Try.func22 (by kernel_rfl) rfl #[.agg #[.int .i64 a0_0, .int .i64 a0_1], .slice A1 l1.length c1] (by rfl) rfl rfl (by (try simp only [List.map_toArray, List.map_cons, List.map_nil]); first | done | rfl | (simp only [List.length_drop, List.length_take]; rfl)) ?_
   with_reducible refine (gristmillref06_Check.calls k a0_0 a0_1 _ _ l1 t589 _ ?side1 ?side2 A8.out).mono ?_
   (case side1 => repeat (first | exact (Kd.C_below HR1.out HB.out) | (with_reducible refine Kd.C_alloc ?_ _) | (with_reducible refine Kd.C_drewN ?_ _) | (with_reducible refine Kd.C_drew ?_)))
   (case side2 => exact HC1.out)
   rintro e w27 ⟨rfl, hb⟩
   refine ⟨_, rfl, ?_⟩
   have n0_ := Aside0.mk (blk_below (bk_ BK584.out) hb)
   have n1_ := Aside0.mk (blk_below (bk_ BK585.out) hb)
   have n2_ := Aside0.mk (blk_below (bk_ BK586.out) hb)
   have n3_ := Aside0.mk (below_step (bw_ HB.out) hb)
   clear BK584
   clear BK585
   clear BK586
   clear HB
   have BK584 := n0_
   have BK585 := n1_
   have BK586 := n2_
   have HB := n3_
   clear n0_ n1_ n2_ n3_
   (try clear hb)
   (try clear hb2)
   (try clear hk)
   (try clear hi)
   refine hK.out _ _ ⟨(blk_cell BK584.out 0).trans rfl, (blk_cell BK584.out 1).trans rfl⟩ (fun hHeld => ?_)
   clear hK K
   refine norm_ (a' := ?_) ?_ ?_
   rotate_left
   ·show Act.put _ (some 18) _ = _
    simp only [Act.put, q1_, q2_, q3_, i64_w, i32_w]
    rfl
   refine pure_ (i := 6) (N := some 19) (v := ?_) (a' := ?_) #[true, true, true, true, true, true, true, false, false, false, false, false, false, false, false, false, false, false, false] rfl rfl (any_of HT_.out (by kernel_rfl)) (fun _ _ _ h => h) (Or.inl ⟨by rfl, ?_⟩) ?_ ?_
   rotate_left
   ·intro w'
    go_simp
    with_reducible rfl
   rotate_left
   ·simp only [Act.put, q1_, q2_, q3_, i64_w, i32_w]
    rfl
   refine pure_ (i := 7) (N := some 20) (v := ?_) (a' := ?_) #[true, true, true, true, true, true, true, true, false, false, false, false, false, false, false, false, false, false, false] rfl rfl (any_of HT_.out (by kernel_rfl)) (fun _ _ _ h => h) (Or.inl ⟨by rfl, ?_⟩) ?_ ?_
   rotate_left
   ·intro w'
    go_simp
    with_reducible rfl
   rotate_left
   ·simp only [Act.put, q1_, q2_, q3_, i64_w, i32_w]
    rfl
   refine pure_ (i := 8) (N := some 21) (v := undef) (a' := ?_) #[true, true, true, true, true, true, true, true, true, false, false, false, false, false, false, false, false, false, false] rfl rfl (any_of HT_.out (by kernel_rfl)) (fun _ _ _ h => h) (Or.inr ⟨by rfl, rfl⟩) ?_ ?_
   rotate_left
   ·simp only [Act.put, q1_, q2_, q3_, i64_w, i32_w]
    rfl
   refine pure_ (i := 9) (N := some 22) (v := undef) (a' := ?_) #[true, true, true, true, true, true, true, true, true, true, false, false, false, false, false, false, false, false, false] rfl rfl (any_of HT_.out (by kernel_rfl)) (fun _ _ _ h => h) (Or.inr ⟨by rfl, rfl⟩) ?_ ?_
   rotate_left
   ·simp only [Act.put, q1_, q2_, q3_, i64_w, i32_w]
    rfl
   refine pure_ (i := 10) (N := some 23) (v := undef) (a' := ?_) #[true, true, true, true, true, true, true, true, true, true, true, false, false, false, false, false, false, false, false] rfl rfl (any_of HT_.out (by kernel_rfl)) (fun _ _ _ h => h) (Or.inr ⟨by rfl, rfl⟩) ?_ ?_
   rotate_left
   ·simp only [Act.put, q1_, q2_, q3_, i64_w, i32_w]
    rfl
   refine pure_ (i := 11) (N := some 24) (v := undef) (a' := ?_) #[true, true, true, true, true, true, true, true, true, true, true, true, false, false, false, false, false, false, false] rfl rfl (any_of HT_.out (by kernel_rfl)) (fun _ _ _ h => h) (Or.inr ⟨by rfl, rfl⟩) ?_ ?_
   rotate_left
   ·simp only [Act.put, q1_, q2_, q3_, i64_w, i32_w]
    rfl
   refine pure_ (i := 12) (N := some 25) (v := undef) (a' := ?_) #[true, true, true, true, true, true, true, true, true, true, true, true, true, false, false, false, false, false, false] rfl rfl (any_of HT_.out (by kernel_rfl)) (fun _ _ _ h => h) (Or.inr ⟨by rfl, rfl⟩) ?_ ?_
   rotate_left
   ·simp only [Act.put, q1_, q2_, q3_, i64_w, i32_w]
    rfl
   refine pure_ (i := 13) (N := some 26) (v := undef) (a' := ?_) #[true, true, true, true, true, true, true, true, true, true, true, true, true, true, false, false, false, false, false] rfl rfl (any_of HT_.out (by kernel_rfl)) (fun _ _ _ h => h) (Or.inr ⟨by rfl, rfl⟩) ?_ ?_
   rotate_left
   ·simp only [Act.put, q1_, q2_, q3_, i64_w, i32_w]
    rfl
   refine pure_ (i := 14) (N := some 27) (v := undef) (a' := ?_) #[true, true, true, true, true, true, true, true, true, true, true, true, true, true, true, false, false, false, false] rfl rfl (any_of HT_.out (by kernel_rfl)) (fun _ _ _ h => h) (Or.inr ⟨by rfl, rfl⟩) ?_ ?_
   rotate_left
   ·simp only [Act.put, q1_, q2_, q3_, i64_w, i32_w]
    rfl
   refine pure_ (i := 15) (N := some 28) (v := undef) (a' := ?_) #[true, true, true, true, true, true, true, true, true, true, true, true, true, true, true, true, false, false, false] rfl rfl (any_of HT_.out (by kernel_rfl)) (fun _ _ _ h => h) (Or.inr ⟨by rfl, rfl⟩) ?_ ?_
   rotate_left
   ·simp only [Act.put, q1_, q2_, q3_, i64_w, i32_w]
    rfl
   refine pure_ (i := 16) (N := some 29) (v := undef) (a' := ?_) #[true, true, true, true, true, true, true, true, true, true, true, true, true, true, true, true, true, false, false] rfl rfl (any_of HT_.out (by kernel_rfl)) (fun _ _ _ h => h) (Or.inr ⟨by rfl, rfl⟩) ?_ ?_
   rotate_left
   ·simp only [Act.put, q1_, q2_, q3_, i64_w, i32_w]
    rfl
   refine pure_ (i := 17) (N := some 30) (v := ?_) (a' := ?_) #[true, true, true, true, true, true, true, true, true, true, true, true, true, true, true, true, true, true, false] rfl rfl (any_of HT_.out (by kernel_rfl)) (fun _ _ _ h => h) (Or.inl ⟨by rfl, ?_⟩) ?_ ?_
   rotate_left
   ·intro w'
    go_simp
    with_reducible rfl
   rotate_left
   ·simp only [Act.put, q1_, q2_, q3_, i64_w, i32_w]
    rfl
   refine pure_ (i := 18) (N := some 8) (v := ?_) (a' := ?_) #[true, true, true, true, true, true, true, true, true, true, true, true, true, true, true, true, true, true, true] rfl rfl (any_of HT_.out (by kernel_rfl)) (fun _ _ _ h => h) (Or.inl ⟨by rfl, ?_⟩) ?_ ?_
   rotate_left
   ·intro w'
    go_simp
    with_reducible rfl
   rotate_left
   ·simp only [Act.put, q1_, q2_, q3_, i64_w, i32_w]
    rfl
   refine done_ (done_of HT_.out (by kernel_rfl)) ?_
   try go_wp2
   go_ret
   exact ⟨by first | rfl | (simp [errW_none, errW_some] <;> rfl) | (simp [*, errW_none, errW_some] <;> rfl), by repeat (first | (with_reducible first | exact HB.out | apply below_alloc | apply pw_below_drewN | apply below_drew1 | refine below_set ?_ GE584.out | refine below_set ?_ GE585.out | refine below_set ?_ GE586.out) | exact HB.out)⟩
 ·replace c6 := Bool.eq_false_iff.mpr c6
  subst c6
  have H1 : (some false) = some r := by rw [if_neg (show ¬ (false = true) by decide)] at H; exact H
  clear H
  have H := H1
  clear H1
  obtain rfl := Option.some.inj H
  go_enter Try.func8, Try.ntmps8
  go_wp2_with (first | ((with_reducible refine gate_dst (N := 4) rfl ?_); refine bx_ (N := 4) (cs := #[.int .i64 a0_0, .int .i64 a0_1]) (t := 27) ?_; intro gb584 hg w28 hbox hb; have n0_ := Aside0.mk (below_step (bw_ HB.out) hb); have n1_ := Aside0.mk (hbox); have n2_ := Aside0.mk (sz_ hg (bw_ HB.out)); have n3_ := n2_; clear HB; have HB := n0_; have BK584 := n1_; have GW584 := n2_; have GE584 := n3_; clear n0_ n1_ n2_ n3_; clear hb hbox hg) | ((with_reducible refine gate_dst (N := 6) rfl ?_); refine bx_ (N := 6) (cs := #[.int .i64 a2_0, .int .i64 a2_1]) (t := 23) ?_; intro gb585 hg w29 hbox hb; have n0_ := Aside0.mk (blk_below (bk_ BK584.out) hb); have n1_ := Aside0.mk (below_step (bw_ HB.out) hb); have n2_ := Aside0.mk (hbox); have n3_ := Aside0.mk (sz_ hg (bw_ HB.out)); have n4_ := n3_; have n5_ := Aside0.mk (ne_ hg (blk_lt (bk_ BK584.out))); have n6_ := Aside0.mk n5_.out.symm; clear BK584 HB; have BK584 := n0_; have HB := n1_; have BK585 := n2_; have GW585 := n3_; have GE585 := n4_; have NB584_585 := n5_; have NB585_584 := n6_; clear n0_ n1_ n2_ n3_ n4_ n5_ n6_; clear hb hbox hg) | ((with_reducible refine gate_dst (N := 7) rfl ?_); refine bx_ (N := 7) (cs := #[.int .u64 a3_0, .int .i64 a3_1, .slice A3_2 l3_2.length c3_2]) (t := 33) ?_; intro gb586 hg w30 hbox hb; have n0_ := Aside0.mk (blk_below (bk_ BK584.out) hb); have n1_ := Aside0.mk (blk_below (bk_ BK585.out) hb); have n2_ := Aside0.mk (below_step (bw_ HB.out) hb); have n3_ := Aside0.mk (hbox); have n4_ := Aside0.mk (sz_ hg (bw_ HB.out)); have n5_ := n4_; have n6_ := Aside0.mk (ne_ hg (blk_lt (bk_ BK584.out))); have n7_ := Aside0.mk n6_.out.symm; have n8_ := Aside0.mk (ne_ hg (blk_lt (bk_ BK585.out))); have n9_ := Aside0.mk n8_.out.symm; clear BK584 BK585 HB; have BK584 := n0_; have BK585 := n1_; have HB := n2_; have BK586 := n3_; have GW586 := n4_; have GE586 := n5_; have NB584_586 := n6_; have NB586_584 := n7_; have NB585_586 := n8_; have NB586_585 := n9_; clear n0_ n1_ n2_ n3_ n4_ n5_ n6_ n7_ n8_ n9_; clear hb hbox hg) | ((with_reducible refine gate_callee (f := 10) rfl ?_); refine goesL_ (some 10) rfl rfl Try.func10 (by kernel_rfl) rfl #[] rfl (by (try simp only [List.map_toArray, List.map_cons, List.map_nil]); first | done | rfl | (simp only [List.length_drop, List.length_take]; rfl)) ?_; (with_reducible refine (gristmilllaw06_awake.calls  false _ A5.out).mono ?_); rintro e w31 ⟨rfl, hb⟩; refine ⟨_, rfl, ?_⟩; have n0_ := Aside0.mk (blk_below (bk_ BK584.out) hb); have n1_ := Aside0.mk (blk_below (bk_ BK585.out) hb); have n2_ := Aside0.mk (blk_below (bk_ BK586.out) hb); have n3_ := Aside0.mk (below_step (bw_ HB.out) hb); clear BK584 BK585 BK586 HB; have BK584 := n0_; have BK585 := n1_; have BK586 := n2_; have HB := n3_; clear n0_ n1_ n2_ n3_; (try clear hb); (try clear hb2); (try clear hk); (try clear hi)))
  go_ret
  exact ⟨by first | rfl | (simp [errW_none, errW_some] <;> rfl) | (simp [*, errW_none, errW_some] <;> rfl), by repeat (first | (with_reducible first | exact HB.out | apply below_alloc | apply pw_below_drewN | apply below_drew1 | refine below_set ?_ GE584.out | refine below_set ?_ GE585.out | refine below_set ?_ GE586.out) | exact HB.out)⟩

end Go.Proofs.Ytmjhgeinhhhodaa.P
