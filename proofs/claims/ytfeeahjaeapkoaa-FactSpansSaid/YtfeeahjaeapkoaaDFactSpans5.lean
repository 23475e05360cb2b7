/- Texts of this repo, joined, without what this claim does not use: P4, FExtAwake, FExtBagAll, FExtWithin, P26, FBagL, FBagV, FRefBag, FSpanLaw, OpenK, OpenFact, OpenF2, OpenF3, LawFactSpans. -/
import Derived.Test.YtfeeahjaeapkoaaDFactSpans1
import Derived.Test.YtfeeahjaeapkoaaDFactSpans2
import Derived.Test.YtfeeahjaeapkoaaDFactSpans3
import Derived.Test.YtfeeahjaeapkoaaDFactSpans4
import Derived.SizedLaws
import Derived.Deep.Slices
import Derived.Test.YtfeeahjaeapkoaaRows
import Derived.ProofKit
import Derived.OpenShut
section
namespace Go.Proofs.Ytfeeahjaeapkoaa.P
open Go.RowKit Go.Proofs.YtfeeahjaeapkoaaW.PrintWords Go.Proofs.YtfeeahjaeapkoaaW.PrintLast Go.Proofs.YtfeeahjaeapkoaaW.PrintMore
attribute [local go_sem] max2_int min2_int max_two min_two max_three min_three max_four min_four   -- for this text's walks alone
set_option linter.unusedVariables false
set_option linter.unusedSimpArgs false
open Go.Proofs.Ytfeeahjaeapkoaa.Ext (q1_ q2_ q3_ bk_ bw_ sz_ ne_ bx_)
attribute [local go_sem high] Go.Proofs.Ytfeeahjaeapkoaa.Ext.gtr_str Go.Proofs.Ytfeeahjaeapkoaa.Ext.leq_str Go.Proofs.Ytfeeahjaeapkoaa.Ext.geq_str
def fact_Check.f (a0_0 : Int) (a0_1 : Int) (a1_0 : Int) (l1_1 : List ByteArray) (l1_2 : List Int) : Option (Int) := (fact_Fine.f a0_0 a0_1).bind fun t105 => (if t105 = 0 then (if a1_0 < 0 then (some 40) else (if a1_0 ≥ 1099511627776 then (some 40) else (if (l1_1.length : Int) = a0_0 then (if (l1_2.length : Int) = a0_1 then ((slices_ContainsFunc_string_string_at_fact_Check_1.f l1_1).bind fun t106 => (if t106 = true then (some 40) else (some 0))) else (some 40)) else (some 40)))) else (some t105))
set_option maxHeartbeats 8000000 in
set_option maxRecDepth 100000 in
theorem fact_Check.calls (a0_0 : Int) (a0_1 : Int) (a1_0 : Int) (A1_1 : Option Addr) (c1_1 : Nat) (l1_1 : List ByteArray) (A1_2 : Option Addr) (c1_2 : Nat) (l1_2 : List Int) (r : Int) (w : World) (hr1_1 : Kd.C Kd.string w A1_1 l1_1.length l1_1) (hc1_1 : l1_1.length ≤ c1_1) (hr1_2 : Kd.C (Kd.int .i64) w A1_2 l1_2.length l1_2) (hc1_2 : l1_2.length ≤ c1_2) (h : fact_Check.f a0_0 a0_1 a1_0 l1_1 l1_2 = some r) :
  Calls Try.prog 12 #[.agg #[.int .i64 a0_0, .int .i64 a0_1], .agg #[.int .i64 a1_0, .slice A1_1 l1_1.length c1_1, .slice A1_2 l1_2.length c1_2]] w fun e w' => e = .returned (.int .i64 r) ∧ Below w.heap.size w w' := by
 have hu23 := Try.underlying23
 have hu27 := Try.underlying27
 have HR1_1 := Aside0.mk hr1_1
 have HC1_1 := Aside0.mk hc1_1
 clear hr1_1 hc1_1
 have HR1_2 := Aside0.mk hr1_2
 have HC1_2 := Aside0.mk hc1_2
 clear hr1_2 hc1_2
 have HB := Aside0.mk (Below.refl w.heap.size w)
 have H : ((fact_Fine.f a0_0 a0_1).bind fun t105 => (if t105 = 0 then (if a1_0 < 0 then (some 40) else (if a1_0 ≥ 1099511627776 then (some 40) else (if (l1_1.length : Int) = a0_0 then (if (l1_2.length : Int) = a0_1 then ((slices_ContainsFunc_string_string_at_fact_Check_1.f l1_1).bind fun t106 => (if t106 = true then (some 40) else (some 0))) else (some 40)) else (some 40)))) else (some t105))) = some r := h
 clear h
 replace H := Option.bind_eq_some_iff.mp H
 obtain ⟨t105, A30, H⟩ := H
 replace H : (if t105 = 0 then (if a1_0 < 0 then (some 40) else (if a1_0 ≥ 1099511627776 then (some 40) else (if (l1_1.length : Int) = a0_0 then (if (l1_2.length : Int) = a0_1 then ((slices_ContainsFunc_string_string_at_fact_Check_1.f l1_1).bind fun t106 => (if t106 = true then (some 40) else (some 0))) else (some 40)) else (some 40)))) else (some t105)) = some r := H
 have A3 := Aside0.mk A30
 clear A30
 by_cases c4 : t105 = 0
 ·rw [if_pos c4] at H
  have c4b0 : (t105 == 0) = true := beq_iff_eq.mpr c4
  have c4b1 : (t105 != 0) = false := bne_eq_false_iff_eq.mpr c4
  clear c4
  by_cases c5 : a1_0 < 0
  ·rw [if_pos c5] at H
   have c5b0 : decide (a1_0 < 0) = true := decide_eq_true c5
   clear c5
   obtain rfl := Option.some.inj H
   go_enter Try.func12, Try.ntmps12
   go_wp2_with (first | ((with_reducible refine gate_dst (N := 2) rfl ?_); (try (refine gate_guard (by rfl) ?_; dsimp only)); refine bx_ (N := 2) (cs := #[.int .i64 a0_0, .int .i64 a0_1]) (t := 23) ?_; intro gb103 hg w6 hbox hb; have n0_ := Aside0.mk (below_step (bw_ HB.out) hb); have n1_ := Aside0.mk (hbox); have n2_ := Aside0.mk (sz_ hg (bw_ HB.out)); have n3_ := n2_; clear HB; have HB := n0_; have BK103 := n1_; have GW103 := n2_; have GE103 := n3_; clear n0_ n1_ n2_ n3_; clear hb hbox hg) | ((with_reducible refine gate_dst (N := 3) rfl ?_); (try (refine gate_guard (by rfl) ?_; dsimp only)); refine bx_ (N := 3) (cs := #[.int .i64 a1_0, .slice A1_1 l1_1.length c1_1, .slice A1_2 l1_2.length c1_2]) (t := 27) ?_; intro gb104 hg w7 hbox hb; have n0_ := Aside0.mk (blk_below (bk_ BK103.out) hb); have n1_ := Aside0.mk (below_step (bw_ HB.out) hb); have n2_ := Aside0.mk (hbox); have n3_ := Aside0.mk (sz_ hg (bw_ HB.out)); have n4_ := n3_; have n5_ := Aside0.mk (ne_ hg (blk_lt (bk_ BK103.out))); have n6_ := Aside0.mk n5_.out.symm; clear BK103 HB; have BK103 := n0_; have HB := n1_; have BK104 := n2_; have GW104 := n3_; have GE104 := n4_; have NB103_104 := n5_; have NB104_103 := n6_; clear n0_ n1_ n2_ n3_ n4_ n5_ n6_; clear hb hbox hg; have hnb8 := NB103_104.out; have hnc8 := NB104_103.out; have hcz9_0 : w7.cell? ⟨gb103, 0, none⟩ = some (.int .i64 a0_0) := (blk_cell BK103.out 0).trans rfl; have hcz9_1 : w7.cell? ⟨gb103, 1, none⟩ = some (.int .i64 a0_1) := (blk_cell BK103.out 1).trans rfl; have hfz9_0 := blk_frozen BK103.out 0; have hfz9_1 := blk_frozen BK103.out 1) | ((with_reducible refine gate_callee (f := 11) rfl ?_); refine goesL_ (some 8) rfl rfl Try.func11 (by kernel_rfl) rfl #[.agg #[.int .i64 a0_0, .int .i64 a0_1]] rfl (by (try simp only [List.map_toArray, List.map_cons, List.map_nil]); first | done | rfl | (simp only [List.length_drop, List.length_take]; rfl)) ?_; (with_reducible refine (fact_Fine.calls a0_0 a0_1 t105 _ A3.out).mono ?_); rintro e w10 ⟨rfl, hb⟩; refine ⟨_, rfl, ?_⟩; have n0_ := Aside0.mk (blk_below (bk_ BK103.out) hb); have n1_ := Aside0.mk (blk_below (bk_ BK104.out) hb); have n2_ := Aside0.mk (below_step (bw_ HB.out) hb); clear BK103 BK104 HB; have BK103 := n0_; have BK104 := n1_; have HB := n2_; clear n0_ n1_ n2_; (try clear hb); (try clear hb2); (try clear hk); (try clear hi); have hcz11_0 : w10.cell? ⟨gb104, 0, none⟩ = some (.int .i64 a1_0) := (blk_cell BK104.out 0).trans rfl; have hcz11_1 : w10.cell? ⟨gb104, 1, none⟩ = some (.slice A1_1 l1_1.length c1_1) := (blk_cell BK104.out 1).trans rfl; have hcz11_2 : w10.cell? ⟨gb104, 2, none⟩ = some (.slice A1_2 l1_2.length c1_2) := (blk_cell BK104.out 2).trans rfl; have hfz11_0 := blk_frozen BK104.out 0; have hfz11_1 := blk_frozen BK104.out 1; have hfz11_2 := blk_frozen BK104.out 2))
   go_ret
   exact ⟨by first | rfl | (simp [errW_none, errW_some] <;> rfl) | (simp [*, errW_none, errW_some] <;> rfl), by repeat (first | (with_reducible first | exact HB.out | apply below_alloc | apply pw_below_drewN | apply below_drew1 | refine below_set ?_ GE103.out | refine below_set ?_ GE104.out) | exact HB.out)⟩
  ·rw [if_neg c5] at H
   have c5b0 : decide (a1_0 < 0) = false := decide_eq_false c5
   clear c5
   by_cases c12 : a1_0 ≥ 1099511627776
   ·rw [if_pos c12] at H
    have c12b0 : decide (1099511627776 ≤ a1_0) = true := decide_eq_true c12
    clear c12
    obtain rfl := Option.some.inj H
    go_enter Try.func12, Try.ntmps12
    go_wp2_with (first | ((with_reducible refine gate_dst (N := 2) rfl ?_); (try (refine gate_guard (by rfl) ?_; dsimp only)); refine bx_ (N := 2) (cs := #[.int .i64 a0_0, .int .i64 a0_1]) (t := 23) ?_; intro gb103 hg w13 hbox hb; have n0_ := Aside0.mk (below_step (bw_ HB.out) hb); have n1_ := Aside0.mk (hbox); have n2_ := Aside0.mk (sz_ hg (bw_ HB.out)); have n3_ := n2_; clear HB; have HB := n0_; have BK103 := n1_; have GW103 := n2_; have GE103 := n3_; clear n0_ n1_ n2_ n3_; clear hb hbox hg) | ((with_reducible refine gate_dst (N := 3) rfl ?_); (try (refine gate_guard (by rfl) ?_; dsimp only)); refine bx_ (N := 3) (cs := #[.int .i64 a1_0, .slice A1_1 l1_1.length c1_1, .slice A1_2 l1_2.length c1_2]) (t := 27) ?_; intro gb104 hg w14 hbox hb; have n0_ := Aside0.mk (blk_below (bk_ BK103.out) hb); have n1_ := Aside0.mk (below_step (bw_ HB.out) hb); have n2_ := Aside0.mk (hbox); have n3_ := Aside0.mk (sz_ hg (bw_ HB.out)); have n4_ := n3_; have n5_ := Aside0.mk (ne_ hg (blk_lt (bk_ BK103.out))); have n6_ := Aside0.mk n5_.out.symm; clear BK103 HB; have BK103 := n0_; have HB := n1_; have BK104 := n2_; have GW104 := n3_; have GE104 := n4_; have NB103_104 := n5_; have NB104_103 := n6_; clear n0_ n1_ n2_ n3_ n4_ n5_ n6_; clear hb hbox hg; have hnb15 := NB103_104.out; have hnc15 := NB104_103.out; have hcz16_0 : w14.cell? ⟨gb103, 0, none⟩ = some (.int .i64 a0_0) := (blk_cell BK103.out 0).trans rfl; have hcz16_1 : w14.cell? ⟨gb103, 1, none⟩ = some (.int .i64 a0_1) := (blk_cell BK103.out 1).trans rfl; have hfz16_0 := blk_frozen BK103.out 0; have hfz16_1 := blk_frozen BK103.out 1) | ((with_reducible refine gate_callee (f := 11) rfl ?_); refine goesL_ (some 8) rfl rfl Try.func11 (by kernel_rfl) rfl #[.agg #[.int .i64 a0_0, .int .i64 a0_1]] rfl (by (try simp only [List.map_toArray, List.map_cons, List.map_nil]); first | done | rfl | (simp only [List.length_drop, List.length_take]; rfl)) ?_; (with_reducible refine (fact_Fine.calls a0_0 a0_1 t105 _ A3.out).mono ?_); rintro e w17 ⟨rfl, hb⟩; refine ⟨_, rfl, ?_⟩; have n0_ := Aside0.mk (blk_below (bk_ BK103.out) hb); have n1_ := Aside0.mk (blk_below (bk_ BK104.out) hb); have n2_ := Aside0.mk (below_step (bw_ HB.out) hb); clear BK103 BK104 HB; have BK103 := n0_; have BK104 := n1_; have HB := n2_; clear n0_ n1_ n2_; (try clear hb); (try clear hb2); (try clear hk); (try clear hi); have hcz18_0 : w17.cell? ⟨gb104, 0, none⟩ = some (.int .i64 a1_0) := (blk_cell BK104.out 0).trans rfl; have hcz18_1 : w17.cell? ⟨gb104, 1, none⟩ = some (.slice A1_1 l1_1.length c1_1) := (blk_cell BK104.out 1).trans rfl; have hcz18_2 : w17.cell? ⟨gb104, 2, none⟩ = some (.slice A1_2 l1_2.length c1_2) := (blk_cell BK104.out 2).trans rfl; have hfz18_0 := blk_frozen BK104.out 0; have hfz18_1 := blk_frozen BK104.out 1; have hfz18_2 := blk_frozen BK104.out 2))
    go_ret
    exact ⟨by first | rfl | (simp [errW_none, errW_some] <;> rfl) | (simp [*, errW_none, errW_some] <;> rfl), by repeat (first | (with_reducible first | exact HB.out | apply below_alloc | apply pw_below_drewN | apply below_drew1 | refine below_set ?_ GE103.out | refine below_set ?_ GE104.out) | exact HB.out)⟩
   ·rw [if_neg c12] at H
    have c12b0 : decide (1099511627776 ≤ a1_0) = false := decide_eq_false c12
    clear c12
    by_cases c19 : (l1_1.length : Int) = a0_0
    ·rw [if_pos c19] at H
     have c19b0 : ((l1_1.length : Int) == a0_0) = true := beq_iff_eq.mpr c19
     have c19b1 : ((l1_1.length : Int) != a0_0) = false := bne_eq_false_iff_eq.mpr c19
     clear c19
     by_cases c20 : (l1_2.length : Int) = a0_1
     ·rw [if_pos c20] at H
      have c20b0 : ((l1_2.length : Int) == a0_1) = true := beq_iff_eq.mpr c20
      have c20b1 : ((l1_2.length : Int) != a0_1) = false := bne_eq_false_iff_eq.mpr c20
      clear c20
      replace H := Option.bind_eq_some_iff.mp H
      obtain ⟨t106, A210, H⟩ := H
      replace H : (if t106 = true then (some 40) else (some 0)) = some r := H
      have A21 := Aside0.mk A210
      clear A210
      by_cases c22 : t106 = true
      ·subst c22
       have H1 : (some 40) = some r := by rw [if_pos rfl] at H; exact H
       clear H
       have H := H1
       clear H1
       obtain rfl := Option.some.inj H
       go_enter Try.func12, Try.ntmps12
       go_wp2_with (first | ((with_reducible refine gate_dst (N := 2) rfl ?_); (try (refine gate_guard (by rfl) ?_; dsimp only)); refine bx_ (N := 2) (cs := #[.int .i64 a0_0, .int .i64 a0_1]) (t := 23) ?_; intro gb103 hg w23 hbox hb; have n0_ := Aside0.mk (below_step (bw_ HB.out) hb); have n1_ := Aside0.mk (hbox); have n2_ := Aside0.mk (sz_ hg (bw_ HB.out)); have n3_ := n2_; clear HB; have HB := n0_; have BK103 := n1_; have GW103 := n2_; have GE103 := n3_; clear n0_ n1_ n2_ n3_; clear hb hbox hg) | ((with_reducible refine gate_dst (N := 3) rfl ?_); (try (refine gate_guard (by rfl) ?_; dsimp only)); refine bx_ (N := 3) (cs := #[.int .i64 a1_0, .slice A1_1 l1_1.length c1_1, .slice A1_2 l1_2.length c1_2]) (t := 27) ?_; intro gb104 hg w24 hbox hb; have n0_ := Aside0.mk (blk_below (bk_ BK103.out) hb); have n1_ := Aside0.mk (below_step (bw_ HB.out) hb); have n2_ := Aside0.mk (hbox); have n3_ := Aside0.mk (sz_ hg (bw_ HB.out)); have n4_ := n3_; have n5_ := Aside0.mk (ne_ hg (blk_lt (bk_ BK103.out))); have n6_ := Aside0.mk n5_.out.symm; clear BK103 HB; have BK103 := n0_; have HB := n1_; have BK104 := n2_; have GW104 := n3_; have GE104 := n4_; have NB103_104 := n5_; have NB104_103 := n6_; clear n0_ n1_ n2_ n3_ n4_ n5_ n6_; clear hb hbox hg; have hnb25 := NB103_104.out; have hnc25 := NB104_103.out; have hcz26_0 : w24.cell? ⟨gb103, 0, none⟩ = some (.int .i64 a0_0) := (blk_cell BK103.out 0).trans rfl; have hcz26_1 : w24.cell? ⟨gb103, 1, none⟩ = some (.int .i64 a0_1) := (blk_cell BK103.out 1).trans rfl; have hfz26_0 := blk_frozen BK103.out 0; have hfz26_1 := blk_frozen BK103.out 1) | ((with_reducible refine gate_callee (f := 11) rfl ?_); refine goesL_ (some 8) rfl rfl Try.func11 (by kernel_rfl) rfl #[.agg #[.int .i64 a0_0, .int .i64 a0_1]] rfl (by (try simp only [List.map_toArray, List.map_cons, List.map_nil]); first | done | rfl | (simp only [List.length_drop, List.length_take]; rfl)) ?_; (with_reducible refine (fact_Fine.calls a0_0 a0_1 t105 _ A3.out).mono ?_); rintro e w27 ⟨rfl, hb⟩; refine ⟨_, rfl, ?_⟩; have n0_ := Aside0.mk (blk_below (bk_ BK103.out) hb); have n1_ := Aside0.mk (blk_below (bk_ BK104.out) hb); have n2_ := Aside0.mk (below_step (bw_ HB.out) hb); clear BK103 BK104 HB; have BK103 := n0_; have BK104 := n1_; have HB := n2_; clear n0_ n1_ n2_; (try clear hb); (try clear hb2); (try clear hk); (try clear hi); have hcz28_0 : w27.cell? ⟨gb104, 0, none⟩ = some (.int .i64 a1_0) := (blk_cell BK104.out 0).trans rfl; have hcz28_1 : w27.cell? ⟨gb104, 1, none⟩ = some (.slice A1_1 l1_1.length c1_1) := (blk_cell BK104.out 1).trans rfl; have hcz28_2 : w27.cell? ⟨gb104, 2, none⟩ = some (.slice A1_2 l1_2.length c1_2) := (blk_cell BK104.out 2).trans rfl; have hfz28_0 := blk_frozen BK104.out 0; have hfz28_1 := blk_frozen BK104.out 1; have hfz28_2 := blk_frozen BK104.out 2; have hcz29_0 : w27.cell? ⟨gb103, 0, none⟩ = some (.int .i64 a0_0) := (blk_cell BK103.out 0).trans rfl; have hcz29_1 : w27.cell? ⟨gb103, 1, none⟩ = some (.int .i64 a0_1) := (blk_cell BK103.out 1).trans rfl; have hfz29_0 := blk_frozen BK103.out 0; have hfz29_1 := blk_frozen BK103.out 1) | (go_at_call 28; (with_reducible refine (slices_ContainsFunc_string_string_at_fact_Check_1.calls _ _ l1_1 true _ ?side1 ?side2 A21.out).mono ?_); (case side1 => repeat (first | exact (Kd.C_below HR1_1.out HB.out) | (with_reducible refine Kd.C_alloc ?_ _) | (with_reducible refine Kd.C_drewN ?_ _) | (with_reducible refine Kd.C_drew ?_))); (case side2 => exact HC1_1.out); rintro e w' ⟨rfl, ⟨nd, rfl⟩⟩))
       go_ret
       exact ⟨by first | rfl | (simp [errW_none, errW_some] <;> rfl) | (simp [*, errW_none, errW_some] <;> rfl), by repeat (first | (with_reducible first | exact HB.out | apply below_alloc | apply pw_below_drewN | apply below_drew1 | refine below_set ?_ GE103.out | refine below_set ?_ GE104.out) | exact HB.out)⟩
      ·replace c22 := Bool.eq_false_iff.mpr c22
       subst c22
       have H1 : (some 0) = some r := by rw [if_neg (show ¬ (false = true) by decide)] at H; exact H
       clear H
       have H := H1
       clear H1
       obtain rfl := Option.some.inj H
       go_enter Try.func12, Try.ntmps12
       go_wp2_with (first | ((with_reducible refine gate_dst (N := 2) rfl ?_); (try (refine gate_guard (by rfl) ?_; dsimp only)); refine bx_ (N := 2) (cs := #[.int .i64 a0_0, .int .i64 a0_1]) (t := 23) ?_; intro gb103 hg w30 hbox hb; have n0_ := Aside0.mk (below_step (bw_ HB.out) hb); have n1_ := Aside0.mk (hbox); have n2_ := Aside0.mk (sz_ hg (bw_ HB.out)); have n3_ := n2_; clear HB; have HB := n0_; have BK103 := n1_; have GW103 := n2_; have GE103 := n3_; clear n0_ n1_ n2_ n3_; clear hb hbox hg) | ((with_reducible refine gate_dst (N := 3) rfl ?_); (try (refine gate_guard (by rfl) ?_; dsimp only)); refine bx_ (N := 3) (cs := #[.int .i64 a1_0, .slice A1_1 l1_1.length c1_1, .slice A1_2 l1_2.length c1_2]) (t := 27) ?_; intro gb104 hg w31 hbox hb; have n0_ := Aside0.mk (blk_below (bk_ BK103.out) hb); have n1_ := Aside0.mk (below_step (bw_ HB.out) hb); have n2_ := Aside0.mk (hbox); have n3_ := Aside0.mk (sz_ hg (bw_ HB.out)); have n4_ := n3_; have n5_ := Aside0.mk (ne_ hg (blk_lt (bk_ BK103.out))); have n6_ := Aside0.mk n5_.out.symm; clear BK103 HB; have BK103 := n0_; have HB := n1_; have BK104 := n2_; have GW104 := n3_; have GE104 := n4_; have NB103_104 := n5_; have NB104_103 := n6_; clear n0_ n1_ n2_ n3_ n4_ n5_ n6_; clear hb hbox hg; have hnb32 := NB103_104.out; have hnc32 := NB104_103.out; have hcz33_0 : w31.cell? ⟨gb103, 0, none⟩ = some (.int .i64 a0_0) := (blk_cell BK103.out 0).trans rfl; have hcz33_1 : w31.cell? ⟨gb103, 1, none⟩ = some (.int .i64 a0_1) := (blk_cell BK103.out 1).trans rfl; have hfz33_0 := blk_frozen BK103.out 0; have hfz33_1 := blk_frozen BK103.out 1) | ((with_reducible refine gate_callee (f := 11) rfl ?_); refine goesL_ (some 8) rfl rfl Try.func11 (by kernel_rfl) rfl #[.agg #[.int .i64 a0_0, .int .i64 a0_1]] rfl (by (try simp only [List.map_toArray, List.map_cons, List.map_nil]); first | done | rfl | (simp only [List.length_drop, List.length_take]; rfl)) ?_; (with_reducible refine (fact_Fine.calls a0_0 a0_1 t105 _ A3.out).mono ?_); rintro e w34 ⟨rfl, hb⟩; refine ⟨_, rfl, ?_⟩; have n0_ := Aside0.mk (blk_below (bk_ BK103.out) hb); have n1_ := Aside0.mk (blk_below (bk_ BK104.out) hb); have n2_ := Aside0.mk (below_step (bw_ HB.out) hb); clear BK103 BK104 HB; have BK103 := n0_; have BK104 := n1_; have HB := n2_; clear n0_ n1_ n2_; (try clear hb); (try clear hb2); (try clear hk); (try clear hi); have hcz35_0 : w34.cell? ⟨gb104, 0, none⟩ = some (.int .i64 a1_0) := (blk_cell BK104.out 0).trans rfl; have hcz35_1 : w34.cell? ⟨gb104, 1, none⟩ = some (.slice A1_1 l1_1.length c1_1) := (blk_cell BK104.out 1).trans rfl; have hcz35_2 : w34.cell? ⟨gb104, 2, none⟩ = some (.slice A1_2 l1_2.length c1_2) := (blk_cell BK104.out 2).trans rfl; have hfz35_0 := blk_frozen BK104.out 0; have hfz35_1 := blk_frozen BK104.out 1; have hfz35_2 := blk_frozen BK104.out 2; have hcz36_0 : w34.cell? ⟨gb103, 0, none⟩ = some (.int .i64 a0_0) := (blk_cell BK103.out 0).trans rfl; have hcz36_1 : w34.cell? ⟨gb103, 1, none⟩ = some (.int .i64 a0_1) := (blk_cell BK103.out 1).trans rfl; have hfz36_0 := blk_frozen BK103.out 0; have hfz36_1 := blk_frozen BK103.out 1) | (go_at_call 28; (with_reducible refine (slices_ContainsFunc_string_string_at_fact_Check_1.calls _ _ l1_1 false _ ?side1 ?side2 A21.out).mono ?_); (case side1 => repeat (first | exact (Kd.C_below HR1_1.out HB.out) | (with_reducible refine Kd.C_alloc ?_ _) | (with_reducible refine Kd.C_drewN ?_ _) | (with_reducible refine Kd.C_drew ?_))); (case side2 => exact HC1_1.out); rintro e w' ⟨rfl, ⟨nd, rfl⟩⟩))
       go_ret
       exact ⟨by first | rfl | (simp [errW_none, errW_some] <;> rfl) | (simp [*, errW_none, errW_some] <;> rfl), by repeat (first | (with_reducible first | exact HB.out | apply below_alloc | apply pw_below_drewN | apply below_drew1 | refine below_set ?_ GE103.out | refine below_set ?_ GE104.out) | exact HB.out)⟩
     ·rw [if_neg c20] at H
      have c20b0 : ((l1_2.length : Int) == a0_1) = false := beq_eq_false_iff_ne.mpr c20
      have c20b1 : ((l1_2.length : Int) != a0_1) = true := bne_iff_ne.mpr c20
      obtain rfl := Option.some.inj H
      go_enter Try.func12, Try.ntmps12
      go_wp2_with (first | ((with_reducible refine gate_dst (N := 2) rfl ?_); (try (refine gate_guard (by rfl) ?_; dsimp only)); refine bx_ (N := 2) (cs := #[.int .i64 a0_0, .int .i64 a0_1]) (t := 23) ?_; intro gb103 hg w37 hbox hb; have n0_ := Aside0.mk (below_step (bw_ HB.out) hb); have n1_ := Aside0.mk (hbox); have n2_ := Aside0.mk (sz_ hg (bw_ HB.out)); have n3_ := n2_; clear HB; have HB := n0_; have BK103 := n1_; have GW103 := n2_; have GE103 := n3_; clear n0_ n1_ n2_ n3_; clear hb hbox hg) | ((with_reducible refine gate_dst (N := 3) rfl ?_); (try (refine gate_guard (by rfl) ?_; dsimp only)); refine bx_ (N := 3) (cs := #[.int .i64 a1_0, .slice A1_1 l1_1.length c1_1, .slice A1_2 l1_2.length c1_2]) (t := 27) ?_; intro gb104 hg w38 hbox hb; have n0_ := Aside0.mk (blk_below (bk_ BK103.out) hb); have n1_ := Aside0.mk (below_step (bw_ HB.out) hb); have n2_ := Aside0.mk (hbox); have n3_ := Aside0.mk (sz_ hg (bw_ HB.out)); have n4_ := n3_; have n5_ := Aside0.mk (ne_ hg (blk_lt (bk_ BK103.out))); have n6_ := Aside0.mk n5_.out.symm; clear BK103 HB; have BK103 := n0_; have HB := n1_; have BK104 := n2_; have GW104 := n3_; have GE104 := n4_; have NB103_104 := n5_; have NB104_103 := n6_; clear n0_ n1_ n2_ n3_ n4_ n5_ n6_; clear hb hbox hg; have hnb39 := NB103_104.out; have hnc39 := NB104_103.out; have hcz40_0 : w38.cell? ⟨gb103, 0, none⟩ = some (.int .i64 a0_0) := (blk_cell BK103.out 0).trans rfl; have hcz40_1 : w38.cell? ⟨gb103, 1, none⟩ = some (.int .i64 a0_1) := (blk_cell BK103.out 1).trans rfl; have hfz40_0 := blk_frozen BK103.out 0; have hfz40_1 := blk_frozen BK103.out 1) | ((with_reducible refine gate_callee (f := 11) rfl ?_); refine goesL_ (some 8) rfl rfl Try.func11 (by kernel_rfl) rfl #[.agg #[.int .i64 a0_0, .int .i64 a0_1]] rfl (by (try simp only [List.map_toArray, List.map_cons, List.map_nil]); first | done | rfl | (simp only [List.length_drop, List.length_take]; rfl)) ?_; (with_reducible refine (fact_Fine.calls a0_0 a0_1 t105 _ A3.out).mono ?_); rintro e w41 ⟨rfl, hb⟩; refine ⟨_, rfl, ?_⟩; have n0_ := Aside0.mk (blk_below (bk_ BK103.out) hb); have n1_ := Aside0.mk (blk_below (bk_ BK104.out) hb); have n2_ := Aside0.mk (below_step (bw_ HB.out) hb); clear BK103 BK104 HB; have BK103 := n0_; have BK104 := n1_; have HB := n2_; clear n0_ n1_ n2_; (try clear hb); (try clear hb2); (try clear hk); (try clear hi); have hcz42_0 : w41.cell? ⟨gb104, 0, none⟩ = some (.int .i64 a1_0) := (blk_cell BK104.out 0).trans rfl; have hcz42_1 : w41.cell? ⟨gb104, 1, none⟩ = some (.slice A1_1 l1_1.length c1_1) := (blk_cell BK104.out 1).trans rfl; have hcz42_2 : w41.cell? ⟨gb104, 2, none⟩ = some (.slice A1_2 l1_2.length c1_2) := (blk_cell BK104.out 2).trans rfl; have hfz42_0 := blk_frozen BK104.out 0; have hfz42_1 := blk_frozen BK104.out 1; have hfz42_2 := blk_frozen BK104.out 2; have hcz43_0 : w41.cell? ⟨gb103, 0, none⟩ = some (.int .i64 a0_0) := (blk_cell BK103.out 0).trans rfl; have hcz43_1 : w41.cell? ⟨gb103, 1, none⟩ = some (.int .i64 a0_1) := (blk_cell BK103.out 1).trans rfl; have hfz43_0 := blk_frozen BK103.out 0; have hfz43_1 := blk_frozen BK103.out 1))
      go_ret
      exact ⟨by first | rfl | (simp [errW_none, errW_some] <;> rfl) | (simp [*, errW_none, errW_some] <;> rfl), by repeat (first | (with_reducible first | exact HB.out | apply below_alloc | apply pw_below_drewN | apply below_drew1 | refine below_set ?_ GE103.out | refine below_set ?_ GE104.out) | exact HB.out)⟩
    ·rw [if_neg c19] at H
     have c19b0 : ((l1_1.length : Int) == a0_0) = false := beq_eq_false_iff_ne.mpr c19
     have c19b1 : ((l1_1.length : Int) != a0_0) = true := bne_iff_ne.mpr c19
     obtain rfl := Option.some.inj H
     go_enter Try.func12, Try.ntmps12
     go_wp2_with (first | ((with_reducible refine gate_dst (N := 2) rfl ?_); (try (refine gate_guard (by rfl) ?_; dsimp only)); refine bx_ (N := 2) (cs := #[.int .i64 a0_0, .int .i64 a0_1]) (t := 23) ?_; intro gb103 hg w44 hbox hb; have n0_ := Aside0.mk (below_step (bw_ HB.out) hb); have n1_ := Aside0.mk (hbox); have n2_ := Aside0.mk (sz_ hg (bw_ HB.out)); have n3_ := n2_; clear HB; have HB := n0_; have BK103 := n1_; have GW103 := n2_; have GE103 := n3_; clear n0_ n1_ n2_ n3_; clear hb hbox hg) | ((with_reducible refine gate_dst (N := 3) rfl ?_); (try (refine gate_guard (by rfl) ?_; dsimp only)); refine bx_ (N := 3) (cs := #[.int .i64 a1_0, .slice A1_1 l1_1.length c1_1, .slice A1_2 l1_2.length c1_2]) (t := 27) ?_; intro gb104 hg w45 hbox hb; have n0_ := Aside0.mk (blk_below (bk_ BK103.out) hb); have n1_ := Aside0.mk (below_step (bw_ HB.out) hb); have n2_ := Aside0.mk (hbox); have n3_ := Aside0.mk (sz_ hg (bw_ HB.out)); have n4_ := n3_; have n5_ := Aside0.mk (ne_ hg (blk_lt (bk_ BK103.out))); have n6_ := Aside0.mk n5_.out.symm; clear BK103 HB; have BK103 := n0_; have HB := n1_; have BK104 := n2_; have GW104 := n3_; have GE104 := n4_; have NB103_104 := n5_; have NB104_103 := n6_; clear n0_ n1_ n2_ n3_ n4_ n5_ n6_; clear hb hbox hg; have hnb46 := NB103_104.out; have hnc46 := NB104_103.out; have hcz47_0 : w45.cell? ⟨gb103, 0, none⟩ = some (.int .i64 a0_0) := (blk_cell BK103.out 0).trans rfl; have hcz47_1 : w45.cell? ⟨gb103, 1, none⟩ = some (.int .i64 a0_1) := (blk_cell BK103.out 1).trans rfl; have hfz47_0 := blk_frozen BK103.out 0; have hfz47_1 := blk_frozen BK103.out 1) | ((with_reducible refine gate_callee (f := 11) rfl ?_); refine goesL_ (some 8) rfl rfl Try.func11 (by kernel_rfl) rfl #[.agg #[.int .i64 a0_0, .int .i64 a0_1]] rfl (by (try simp only [List.map_toArray, List.map_cons, List.map_nil]); first | done | rfl | (simp only [List.length_drop, List.length_take]; rfl)) ?_; (with_reducible refine (fact_Fine.calls a0_0 a0_1 t105 _ A3.out).mono ?_); rintro e w48 ⟨rfl, hb⟩; refine ⟨_, rfl, ?_⟩; have n0_ := Aside0.mk (blk_below (bk_ BK103.out) hb); have n1_ := Aside0.mk (blk_below (bk_ BK104.out) hb); have n2_ := Aside0.mk (below_step (bw_ HB.out) hb); clear BK103 BK104 HB; have BK103 := n0_; have BK104 := n1_; have HB := n2_; clear n0_ n1_ n2_; (try clear hb); (try clear hb2); (try clear hk); (try clear hi); have hcz49_0 : w48.cell? ⟨gb104, 0, none⟩ = some (.int .i64 a1_0) := (blk_cell BK104.out 0).trans rfl; have hcz49_1 : w48.cell? ⟨gb104, 1, none⟩ = some (.slice A1_1 l1_1.length c1_1) := (blk_cell BK104.out 1).trans rfl; have hcz49_2 : w48.cell? ⟨gb104, 2, none⟩ = some (.slice A1_2 l1_2.length c1_2) := (blk_cell BK104.out 2).trans rfl; have hfz49_0 := blk_frozen BK104.out 0; have hfz49_1 := blk_frozen BK104.out 1; have hfz49_2 := blk_frozen BK104.out 2; have hcz50_0 : w48.cell? ⟨gb103, 0, none⟩ = some (.int .i64 a0_0) := (blk_cell BK103.out 0).trans rfl; have hcz50_1 : w48.cell? ⟨gb103, 1, none⟩ = some (.int .i64 a0_1) := (blk_cell BK103.out 1).trans rfl; have hfz50_0 := blk_frozen BK103.out 0; have hfz50_1 := blk_frozen BK103.out 1))
     go_ret
     exact ⟨by first | rfl | (simp [errW_none, errW_some] <;> rfl) | (simp [*, errW_none, errW_some] <;> rfl), by repeat (first | (with_reducible first | exact HB.out | apply below_alloc | apply pw_below_drewN | apply below_drew1 | refine below_set ?_ GE103.out | refine below_set ?_ GE104.out) | exact HB.out)⟩
 ·rw [if_neg c4] at H
  have c4b0 : (t105 == 0) = false := beq_eq_false_iff_ne.mpr c4
  have c4b1 : (t105 != 0) = true := bne_iff_ne.mpr c4
  obtain rfl := Option.some.inj H
  go_enter Try.func12, Try.ntmps12
  go_wp2_with (first | ((with_reducible refine gate_dst (N := 2) rfl ?_); (try (refine gate_guard (by rfl) ?_; dsimp only)); refine bx_ (N := 2) (cs := #[.int .i64 a0_0, .int .i64 a0_1]) (t := 23) ?_; intro gb103 hg w51 hbox hb; have n0_ := Aside0.mk (below_step (bw_ HB.out) hb); have n1_ := Aside0.mk (hbox); have n2_ := Aside0.mk (sz_ hg (bw_ HB.out)); have n3_ := n2_; clear HB; have HB := n0_; have BK103 := n1_; have GW103 := n2_; have GE103 := n3_; clear n0_ n1_ n2_ n3_; clear hb hbox hg) | ((with_reducible refine gate_dst (N := 3) rfl ?_); (try (refine gate_guard (by rfl) ?_; dsimp only)); refine bx_ (N := 3) (cs := #[.int .i64 a1_0, .slice A1_1 l1_1.length c1_1, .slice A1_2 l1_2.length c1_2]) (t := 27) ?_; intro gb104 hg w52 hbox hb; have n0_ := Aside0.mk (blk_below (bk_ BK103.out) hb); have n1_ := Aside0.mk (below_step (bw_ HB.out) hb); have n2_ := Aside0.mk (hbox); have n3_ := Aside0.mk (sz_ hg (bw_ HB.out)); have n4_ := n3_; have n5_ := Aside0.mk (ne_ hg (blk_lt (bk_ BK103.out))); have n6_ := Aside0.mk n5_.out.symm; clear BK103 HB; have BK103 := n0_; have HB := n1_; have BK104 := n2_; have GW104 := n3_; have GE104 := n4_; have NB103_104 := n5_; have NB104_103 := n6_; clear n0_ n1_ n2_ n3_ n4_ n5_ n6_; clear hb hbox hg; have hnb53 := NB103_104.out; have hnc53 := NB104_103.out; have hcz54_0 : w52.cell? ⟨gb103, 0, none⟩ = some (.int .i64 a0_0) := (blk_cell BK103.out 0).trans rfl; have hcz54_1 : w52.cell? ⟨gb103, 1, none⟩ = some (.int .i64 a0_1) := (blk_cell BK103.out 1).trans rfl; have hfz54_0 := blk_frozen BK103.out 0; have hfz54_1 := blk_frozen BK103.out 1) | ((with_reducible refine gate_callee (f := 11) rfl ?_); refine goesL_ (some 8) rfl rfl Try.func11 (by kernel_rfl) rfl #[.agg #[.int .i64 a0_0, .int .i64 a0_1]] rfl (by (try simp only [List.map_toArray, List.map_cons, List.map_nil]); first | done | rfl | (simp only [List.length_drop, List.length_take]; rfl)) ?_; (with_reducible refine (fact_Fine.calls a0_0 a0_1 t105 _ A3.out).mono ?_); rintro e w55 ⟨rfl, hb⟩; refine ⟨_, rfl, ?_⟩; have n0_ := Aside0.mk (blk_below (bk_ BK103.out) hb); have n1_ := Aside0.mk (blk_below (bk_ BK104.out) hb); have n2_ := Aside0.mk (below_step (bw_ HB.out) hb); clear BK103 BK104 HB; have BK103 := n0_; have BK104 := n1_; have HB := n2_; clear n0_ n1_ n2_; (try clear hb); (try clear hb2); (try clear hk); (try clear hi)))
  go_ret
  exact ⟨by first | rfl | (simp [errW_none, errW_some] <;> rfl) | (simp [*, errW_none, errW_some] <;> rfl), by repeat (first | (with_reducible first | exact HB.out | apply below_alloc | apply pw_below_drewN | apply below_drew1 | refine below_set ?_ GE103.out | refine below_set ?_ GE104.out) | exact HB.out)⟩
end Go.Proofs.Ytfeeahjaeapkoaa.P
end

section
namespace Go.Proofs.Ytfeeahjaeapkoaa.P
set_option linter.unusedVariables false
set_option linter.unusedSimpArgs false
open Go.RowKit Go.Proofs.YtfeeahjaeapkoaaW.PrintWords Go.Proofs.YtfeeahjaeapkoaaW.PrintLast Go.Proofs.YtfeeahjaeapkoaaW.PrintMore Go.Proofs.Ytfeeahjaeapkoaa.Lib Go.Proofs.Ytfeeahjaeapkoaa.Ext
section
variable {P : Program} {ops : Array Oper} {o : Oper} {a : Act} {Q : Exit → Act → World → Prop}
theorem row_event {rest : List Oper} {W : World} (hgd : o.guard = none) {N : Tmp} (_hd : o.dst = some N) {cs : Array Value} {t : TypeId} {n c : Nat}
    (hrun : (execOp a.eval o).run P W = .ok (.value (.slice (some ⟨W.heap.size, 0, none⟩) n c)) (W.alloc (.cells cs t (0, 0))))
    (h : ∀ g, g = W.heap.size → ∀ w1, w1.heap[g]? = some (.cells cs t (0, 0)) → Below W.heap.size W w1 → wpList P ops Q rest (a.put o.dst (.slice (some ⟨g, 0, none⟩) n c)) w1) : wpList P ops Q (o :: rest) a W :=
  Kd.event_run hgd hrun (h _ rfl _ (blk_new W _) (below_alloc (Below.refl _ _) _))
end
theorem C_no {α : Type} {d : Kd α} {w : World} : Kd.C d w none 0 [] := ⟨rfl, by decide, fun h => absurd h (Nat.lt_irrefl 0)⟩
def strA : ByteArray := ⟨#[97]⟩
def fX : S27 := ⟨1, [strA], []⟩
def fY : S27 := ⟨2, [], []⟩
theorem C_strs1 {w : World} {g : Nat} {s : ByteArray} {E : Nat} (hb : w.heap[g]? = some (.cells #[.string s] E (0, 0))) : Kd.string.C w (some ⟨g, 0, none⟩) 1 [s] := by
  refine ⟨rfl, by simp, fun _ => ⟨_, rfl, fun q p hp => ?_⟩⟩
  match q, hp with
  | 0, hp =>
    obtain rfl : s = p := by simpa using hp
    refine ⟨[.string s], rfl, rfl, fun i u hu => ?_⟩
    match i, hu with
    | 0, hu =>
      obtain rfl : Value.string s = u := by simpa using hu
      exact (blk_cell hb 0).trans rfl
    | i + 1, hu => simp at hu
  | q + 1, hp => simp at hp
theorem C_facts3 {w : World} {g g1 : Nat} {E : Nat} (hb : w.heap[g]? = some (.cells #[.int .i64 1, .slice (some ⟨g1, 0, none⟩) 1 1, .slice none 0 0, .int .i64 2, .slice none 0 0, .slice none 0 0, .int .i64 1, .slice (some ⟨g1, 0, none⟩) 1 1, .slice none 0 0] E (0, 0))) (hs : Kd.string.C w (some ⟨g1, 0, none⟩) 1 [strA]) : Kd.C k27 w (some ⟨g, 0, none⟩) 3 [fX, fY, fX] := by
  have kX : k27.K w fX [.int .i64 1, .slice (some ⟨g1, 0, none⟩) 1 1, .slice none 0 0] := k27_mk w fX (A1 := some ⟨g1, 0, none⟩) (c1 := 1) (Nat.le_refl _) hs (A2 := none) (c2 := 0) (Nat.le_refl _) C_no
  have kY : k27.K w fY [.int .i64 2, .slice none 0 0, .slice none 0 0] := k27_mk w fY (A1 := none) (c1 := 0) (Nat.le_refl _) C_no (A2 := none) (c2 := 0) (Nat.le_refl _) C_no
  have cell : ∀ i u, (#[Value.int .i64 1, .slice (some ⟨g1, 0, none⟩) 1 1, .slice none 0 0, .int .i64 2, .slice none 0 0, .slice none 0 0, .int .i64 1, .slice (some ⟨g1, 0, none⟩) 1 1, .slice none 0 0] : Array Value)[i]? = some u → w.cell? ⟨g, i, none⟩ = some u := fun i u h => (blk_cell hb i).trans h
  have e3 : k27.sz = 3 := rfl
  refine ⟨rfl, by simp, fun _ => ⟨_, rfl, fun q p hp => ?_⟩⟩
  match q, hp with
  | 0, hp =>
    obtain rfl : fX = p := by simpa using hp
    refine ⟨_, rfl, kX, fun i u hu => ?_⟩
    rw [e3, add_at]
    match i, hu with
    | 0, hu => exact cell 0 u hu
    | 1, hu => exact cell 1 u hu
    | 2, hu => exact cell 2 u hu
    | i + 3, hu => simp at hu
  | 1, hp =>
    obtain rfl : fY = p := by simpa using hp
    refine ⟨_, rfl, kY, fun i u hu => ?_⟩
    rw [e3, add_at]
    match i, hu with
    | 0, hu => exact cell 3 u hu
    | 1, hu => exact cell 4 u hu
    | 2, hu => exact cell 5 u hu
    | i + 3, hu => simp at hu
  | 2, hp =>
    obtain rfl : fX = p := by simpa using hp
    refine ⟨_, rfl, kX, fun i u hu => ?_⟩
    rw [e3, add_at]
    match i, hu with
    | 0, hu => exact cell 6 u hu
    | 1, hu => exact cell 7 u hu
    | 2, hu => exact cell 8 u hu
    | i + 3, hu => simp at hu
  | q + 3, hp => simp at hp
theorem bagXYX : (bagOf ([fX, fY, fX].map m27)).map s40 = [⟨fX, 2⟩, ⟨fY, 1⟩] := by
  kernel_rfl
theorem countXY : fact_Count.f 10 [⟨fX, 2⟩, ⟨fY, 1⟩] = some 3 := by kernel_rfl
theorem checkX1 : fact_Check.f 1 0 1 [strA] [] = some 0 := by kernel_rfl
theorem checkX0 : fact_Check.f 0 0 1 [strA] [] = some 40 := by kernel_rfl
theorem compareXY : fact_Compare.f 20 1 [strA] [] 2 [] [] = some (-1) := by kernel_rfl
def gristmilllaw04_awake.f : Option Bool := some true
set_option maxRecDepth 100000 in
set_option maxHeartbeats 1600000 in
theorem gristmilllaw04_awake.calls (r : Bool) (w : World) (h : gristmilllaw04_awake.f = some r) :
    Calls Try.prog 9 #[] w fun e w' => e = .returned (.bool r) ∧ Below w.heap.size w w' := by
  injection h with h
  subst h
  go_enter Try.func9, Try.ntmps9
  go_upto_region 2 with (first
    | ((with_reducible refine gate_dst (N := 4) rfl ?_); refine row_event ?hg (N := 4) ?hd (cs := #[.string strA]) (t := 9) (n := 1) (c := 1) ?hr ?_; (case hd => rfl); (case hg => rfl); (case hr => first | (go_simp; done) | (go_simp; rfl)); intro g1 hg w1 hbox hb; have BK1 := Aside0.mk hbox; have HX1 := Aside0.mk hb; clear hg hbox hb)
    | (((with_reducible refine gate_dst (N := 1) rfl ?_); refine box_event ?hg (N := 1) ?hd (cs := #[.int .i64 0, .slice none 0 0, .slice none 0 0]) (t := 27) ?hr ?_; (case hd => rfl); (case hg => rfl); (case hr => first | (go_simp; done) | (go_simp; rfl)); intro g2 hg w2 hbox hb; have GE2 := Aside0.mk (Nat.le_of_eq hg.symm); have BK2 := Aside0.mk hbox; have HX2 := Aside0.mk hb; clear hg hbox hb); (have hg2_0 : w2.cell? ⟨g2, 0, none⟩ = some (.int .i64 0) := (blk_cell BK2.out 0).trans rfl; have hfg2_0 := blk_frozen BK2.out 0; have hg2_1 : w2.cell? ⟨g2, 1, none⟩ = some (.slice none 0 0) := (blk_cell BK2.out 1).trans rfl; have hfg2_1 := blk_frozen BK2.out 1; have hg2_2 : w2.cell? ⟨g2, 2, none⟩ = some (.slice none 0 0) := (blk_cell BK2.out 2).trans rfl; have hfg2_2 := blk_frozen BK2.out 2))
    | fail)
  have HX2a := Aside0.mk (show Below w1.heap.size w1 (((w2.setCell ⟨g2, 0, none⟩ (.int .i64 1)).setCell ⟨g2, 1, none⟩ (.slice (some ⟨g1, 0, none⟩) 1 1)).setCell ⟨g2, 2, none⟩ (.slice none 0 0)) from below_set (below_set (below_set HX2.out GE2.out) GE2.out) GE2.out)
  have BK2a := Aside0.mk (show (((w2.setCell ⟨g2, 0, none⟩ (.int .i64 1)).setCell ⟨g2, 1, none⟩ (.slice (some ⟨g1, 0, none⟩) 1 1)).setCell ⟨g2, 2, none⟩ (.slice none 0 0)).heap[g2]? = some (.cells #[.int .i64 1, .slice (some ⟨g1, 0, none⟩) 1 1, .slice none 0 0] 27 (0, 0)) from (blk_set (blk_set (blk_set BK2.out 0 _) 1 _) 2 _))
  clear hg2_0 hfg2_0 hg2_1 hfg2_1 hg2_2 hfg2_2 BK2 HX2
  generalize (((w2.setCell ⟨g2, 0, none⟩ (.int .i64 1)).setCell ⟨g2, 1, none⟩ (.slice (some ⟨g1, 0, none⟩) 1 1)).setCell ⟨g2, 2, none⟩ (.slice none 0 0)) = w3 at *
  have BK1a := Aside0.mk (blk_below BK1.out HX2a.out)
  have HB3 := Aside0.mk (below_then HX1.out HX1.out.size HX2a.out)
  clear BK1 HX1 HX2a GE2
  go_upto_region 3 with (first
    | (((with_reducible refine gate_dst (N := 2) rfl ?_); refine box_event ?hg (N := 2) ?hd (cs := #[.int .i64 0, .slice none 0 0, .slice none 0 0]) (t := 27) ?hr ?_; (case hd => rfl); (case hg => rfl); (case hr => first | (go_simp; done) | (go_simp; rfl)); intro g4 hg w4 hbox hb; have GE4 := Aside0.mk (Nat.le_of_eq hg.symm); have BK4 := Aside0.mk hbox; have HX4 := Aside0.mk hb; clear hg hbox hb); (have hg4_0 : w4.cell? ⟨g4, 0, none⟩ = some (.int .i64 0) := (blk_cell BK4.out 0).trans rfl; have hfg4_0 := blk_frozen BK4.out 0; have hg4_1 : w4.cell? ⟨g4, 1, none⟩ = some (.slice none 0 0) := (blk_cell BK4.out 1).trans rfl; have hfg4_1 := blk_frozen BK4.out 1; have hg4_2 : w4.cell? ⟨g4, 2, none⟩ = some (.slice none 0 0) := (blk_cell BK4.out 2).trans rfl; have hfg4_2 := blk_frozen BK4.out 2))
    | fail)
  have HX4a := Aside0.mk (show Below w3.heap.size w3 (((w4.setCell ⟨g4, 0, none⟩ (.int .i64 2)).setCell ⟨g4, 1, none⟩ (.slice none 0 0)).setCell ⟨g4, 2, none⟩ (.slice none 0 0)) from below_set (below_set (below_set HX4.out GE4.out) GE4.out) GE4.out)
  have BK4a := Aside0.mk (show (((w4.setCell ⟨g4, 0, none⟩ (.int .i64 2)).setCell ⟨g4, 1, none⟩ (.slice none 0 0)).setCell ⟨g4, 2, none⟩ (.slice none 0 0)).heap[g4]? = some (.cells #[.int .i64 2, .slice none 0 0, .slice none 0 0] 27 (0, 0)) from (blk_set (blk_set (blk_set BK4.out 0 _) 1 _) 2 _))
  clear hg4_0 hfg4_0 hg4_1 hfg4_1 hg4_2 hfg4_2 BK4 HX4
  generalize (((w4.setCell ⟨g4, 0, none⟩ (.int .i64 2)).setCell ⟨g4, 1, none⟩ (.slice none 0 0)).setCell ⟨g4, 2, none⟩ (.slice none 0 0)) = w5 at *
  have BK1b := Aside0.mk (blk_below BK1a.out HX4a.out)
  have BK2b := Aside0.mk (blk_below BK2a.out HX4a.out)
  have HB5 := Aside0.mk (below_then HB3.out HB3.out.size HX4a.out)
  clear BK1a BK2a HB3 HX4a GE4
  (have hg2_0 : w5.cell? ⟨g2, 0, none⟩ = some (.int .i64 1) := (blk_cell BK2b.out 0).trans rfl; have hfg2_0 := blk_frozen BK2b.out 0; have hg2_1 : w5.cell? ⟨g2, 1, none⟩ = some (.slice (some ⟨g1, 0, none⟩) 1 1) := (blk_cell BK2b.out 1).trans rfl; have hfg2_1 := blk_frozen BK2b.out 1; have hg2_2 : w5.cell? ⟨g2, 2, none⟩ = some (.slice none 0 0) := (blk_cell BK2b.out 2).trans rfl; have hfg2_2 := blk_frozen BK2b.out 2)
  (have hg4_0 : w5.cell? ⟨g4, 0, none⟩ = some (.int .i64 2) := (blk_cell BK4a.out 0).trans rfl; have hfg4_0 := blk_frozen BK4a.out 0; have hg4_1 : w5.cell? ⟨g4, 1, none⟩ = some (.slice none 0 0) := (blk_cell BK4a.out 1).trans rfl; have hfg4_1 := blk_frozen BK4a.out 1; have hg4_2 : w5.cell? ⟨g4, 2, none⟩ = some (.slice none 0 0) := (blk_cell BK4a.out 2).trans rfl; have hfg4_2 := blk_frozen BK4a.out 2)
  go_upto_region 4 with (first
    | ((with_reducible refine gate_dst (N := 10) rfl ?_); refine row_event ?hg (N := 10) ?hd (cs := #[.int .i64 1, .slice (some ⟨g1, 0, none⟩) 1 1, .slice none 0 0, .int .i64 2, .slice none 0 0, .slice none 0 0, .int .i64 1, .slice (some ⟨g1, 0, none⟩) 1 1, .slice none 0 0]) (t := 27) (n := 3) (c := 3) ?hr ?_; (case hd => rfl); (case hg => rfl); (case hr => first | (go_simp; done) | (go_simp; rfl)); intro g6 hg w6 hbox hb; have BK6 := Aside0.mk hbox; have HX6 := Aside0.mk hb; clear hg hbox hb)
    | (go_at_call 16; refine (fact_Bag.calls (some ⟨g6, 0, none⟩) 3 [fX, fY, fX] _ w6 (C_facts3 BK6.out (C_strs1 (blk_below BK1b.out HX6.out))) (Nat.le_refl _) (by unfold fact_Bag.f; rw [if_pos ⟨by decide, by decide⟩, bagXYX])).mono ?_; rintro e w7 ⟨v7, rfl, hr7, hb7⟩; rcases R_cases hr7 with ⟨-, h0⟩ | ⟨g7, c7, rfl, -, -⟩; (case inl => cases h0); have HR7 := Aside0.mk hr7; have HX7 := Aside0.mk (below_then HX6.out HX6.out.size hb7); clear hr7 hb7)
    | fail)
  have BK1p := Aside0.mk (blk_below BK1b.out HX7.out)
  have BK2p := Aside0.mk (blk_below BK2b.out HX7.out)
  have BK4p := Aside0.mk (blk_below BK4a.out HX7.out)
  have HBp := Aside0.mk (below_then HB5.out HB5.out.size HX7.out)
  have HRp := HR7
  clear BK1b BK2b BK4a HB5 HX7 HR7
  clear hg2_0 hfg2_0 hg2_1 hfg2_1 hg2_2 hfg2_2
  clear hg4_0 hfg4_0 hg4_1 hfg4_1 hg4_2 hfg4_2
  (have hg2_0 : w7.cell? ⟨g2, 0, none⟩ = some (.int .i64 1) := (blk_cell BK2p.out 0).trans rfl; have hfg2_0 := blk_frozen BK2p.out 0; have hg2_1 : w7.cell? ⟨g2, 1, none⟩ = some (.slice (some ⟨g1, 0, none⟩) 1 1) := (blk_cell BK2p.out 1).trans rfl; have hfg2_1 := blk_frozen BK2p.out 1; have hg2_2 : w7.cell? ⟨g2, 2, none⟩ = some (.slice none 0 0) := (blk_cell BK2p.out 2).trans rfl; have hfg2_2 := blk_frozen BK2p.out 2)
  (have hg4_0 : w7.cell? ⟨g4, 0, none⟩ = some (.int .i64 2) := (blk_cell BK4p.out 0).trans rfl; have hfg4_0 := blk_frozen BK4p.out 0; have hg4_1 : w7.cell? ⟨g4, 1, none⟩ = some (.slice none 0 0) := (blk_cell BK4p.out 1).trans rfl; have hfg4_1 := blk_frozen BK4p.out 1; have hg4_2 : w7.cell? ⟨g4, 2, none⟩ = some (.slice none 0 0) := (blk_cell BK4p.out 2).trans rfl; have hfg4_2 := blk_frozen BK4p.out 2)
  have hC7 : Kd.C k40 w7 (some ⟨g7, 0, none⟩) 2 [⟨fX, 2⟩, ⟨fY, 1⟩] := (Kd.R_reads' HRp.out).2.2
  have n0 : w7.cell? ⟨g7, 3, none⟩ = some (.int .u64 2) := by
    obtain ⟨ad, A1, c1, A2, c2, e, -, -, -, d3, -⟩ := at_T40 hC7 0 (by decide) (by decide)
    injection e with e
    subst e
    exact d3
  have n1 : w7.cell? ⟨g7, 7, none⟩ = some (.int .u64 1) := by
    obtain ⟨ad, A1, c1, A2, c2, e, -, -, -, d3, -⟩ := at_T40 hC7 1 (by decide) (by decide)
    injection e with e
    subst e
    exact d3
  clear hC7
  go_wp2_with (first
    | (go_at_call 14; refine (fact_Compare.calls 20 1 (some ⟨g1, 0, none⟩) 1 [strA] none 0 [] 2 none 0 [] none 0 [] (-1) w7 (C_strs1 BK1p.out) (Nat.le_refl _) C_no (Nat.le_refl _) C_no (Nat.le_refl _) C_no (Nat.le_refl _) compareXY).mono ?_; rintro e w8 ⟨rfl, hb⟩; have BK1q := Aside0.mk (blk_below BK1p.out hb); have BK2q := Aside0.mk (blk_below BK2p.out hb); have BK4q := Aside0.mk (blk_below BK4p.out hb); have HRq := Aside0.mk (Kd.R_below HRp.out hb); have HBq := Aside0.mk (below_then HBp.out HBp.out.size hb); replace n0 := pw_cell_below hb n0; replace n1 := pw_cell_below hb n1; clear hg2_0 hfg2_0 hg2_1 hfg2_1 hg2_2 hfg2_2; clear hg4_0 hfg4_0 hg4_1 hfg4_1 hg4_2 hfg4_2; (have hg2_0 : w8.cell? ⟨g2, 0, none⟩ = some (.int .i64 1) := (blk_cell BK2q.out 0).trans rfl; have hfg2_0 := blk_frozen BK2q.out 0; have hg2_1 : w8.cell? ⟨g2, 1, none⟩ = some (.slice (some ⟨g1, 0, none⟩) 1 1) := (blk_cell BK2q.out 1).trans rfl; have hfg2_1 := blk_frozen BK2q.out 1; have hg2_2 : w8.cell? ⟨g2, 2, none⟩ = some (.slice none 0 0) := (blk_cell BK2q.out 2).trans rfl; have hfg2_2 := blk_frozen BK2q.out 2); (have hg4_0 : w8.cell? ⟨g4, 0, none⟩ = some (.int .i64 2) := (blk_cell BK4q.out 0).trans rfl; have hfg4_0 := blk_frozen BK4q.out 0; have hg4_1 : w8.cell? ⟨g4, 1, none⟩ = some (.slice none 0 0) := (blk_cell BK4q.out 1).trans rfl; have hfg4_1 := blk_frozen BK4q.out 1; have hg4_2 : w8.cell? ⟨g4, 2, none⟩ = some (.slice none 0 0) := (blk_cell BK4q.out 2).trans rfl; have hfg4_2 := blk_frozen BK4q.out 2); clear hb)
    | (go_at_call 17; refine (fact_Count.calls 10 (some ⟨g7, 0, none⟩) c7 [⟨fX, 2⟩, ⟨fY, 1⟩] 3 w8 (Kd.R_reads' HRq.out).2.2 (Kd.R_reads' HRq.out).2.1 countXY).mono ?_; rintro e w9 ⟨rfl, hb⟩; have BK1r := Aside0.mk (blk_below BK1q.out hb); have BK2r := Aside0.mk (blk_below BK2q.out hb); have BK4r := Aside0.mk (blk_below BK4q.out hb); have HRr := Aside0.mk (Kd.R_below HRq.out hb); have HBr := Aside0.mk (below_then HBq.out HBq.out.size hb); replace n0 := pw_cell_below hb n0; replace n1 := pw_cell_below hb n1; clear hg2_0 hfg2_0 hg2_1 hfg2_1 hg2_2 hfg2_2; clear hg4_0 hfg4_0 hg4_1 hfg4_1 hg4_2 hfg4_2; (have hg2_0 : w9.cell? ⟨g2, 0, none⟩ = some (.int .i64 1) := (blk_cell BK2r.out 0).trans rfl; have hfg2_0 := blk_frozen BK2r.out 0; have hg2_1 : w9.cell? ⟨g2, 1, none⟩ = some (.slice (some ⟨g1, 0, none⟩) 1 1) := (blk_cell BK2r.out 1).trans rfl; have hfg2_1 := blk_frozen BK2r.out 1; have hg2_2 : w9.cell? ⟨g2, 2, none⟩ = some (.slice none 0 0) := (blk_cell BK2r.out 2).trans rfl; have hfg2_2 := blk_frozen BK2r.out 2); (have hg4_0 : w9.cell? ⟨g4, 0, none⟩ = some (.int .i64 2) := (blk_cell BK4r.out 0).trans rfl; have hfg4_0 := blk_frozen BK4r.out 0; have hg4_1 : w9.cell? ⟨g4, 1, none⟩ = some (.slice none 0 0) := (blk_cell BK4r.out 1).trans rfl; have hfg4_1 := blk_frozen BK4r.out 1; have hg4_2 : w9.cell? ⟨g4, 2, none⟩ = some (.slice none 0 0) := (blk_cell BK4r.out 2).trans rfl; have hfg4_2 := blk_frozen BK4r.out 2); clear hb)
    | (go_at_call 12; (fail_if_success (have := HBs)); refine (fact_Check.calls 1 0 1 (some ⟨g1, 0, none⟩) 1 [strA] none 0 [] 0 w9 (C_strs1 BK1r.out) (Nat.le_refl _) C_no (Nat.le_refl _) checkX1).mono ?_; rintro e w10 ⟨rfl, hb⟩; have BK1s := Aside0.mk (blk_below BK1r.out hb); have BK2s := Aside0.mk (blk_below BK2r.out hb); have BK4s := Aside0.mk (blk_below BK4r.out hb); have HRs := Aside0.mk (Kd.R_below HRr.out hb); have HBs := Aside0.mk (below_then HBr.out HBr.out.size hb); replace n0 := pw_cell_below hb n0; replace n1 := pw_cell_below hb n1; clear hg2_0 hfg2_0 hg2_1 hfg2_1 hg2_2 hfg2_2; clear hg4_0 hfg4_0 hg4_1 hfg4_1 hg4_2 hfg4_2; (have hg2_0 : w10.cell? ⟨g2, 0, none⟩ = some (.int .i64 1) := (blk_cell BK2s.out 0).trans rfl; have hfg2_0 := blk_frozen BK2s.out 0; have hg2_1 : w10.cell? ⟨g2, 1, none⟩ = some (.slice (some ⟨g1, 0, none⟩) 1 1) := (blk_cell BK2s.out 1).trans rfl; have hfg2_1 := blk_frozen BK2s.out 1; have hg2_2 : w10.cell? ⟨g2, 2, none⟩ = some (.slice none 0 0) := (blk_cell BK2s.out 2).trans rfl; have hfg2_2 := blk_frozen BK2s.out 2); (have hg4_0 : w10.cell? ⟨g4, 0, none⟩ = some (.int .i64 2) := (blk_cell BK4s.out 0).trans rfl; have hfg4_0 := blk_frozen BK4s.out 0; have hg4_1 : w10.cell? ⟨g4, 1, none⟩ = some (.slice none 0 0) := (blk_cell BK4s.out 1).trans rfl; have hfg4_1 := blk_frozen BK4s.out 1; have hg4_2 : w10.cell? ⟨g4, 2, none⟩ = some (.slice none 0 0) := (blk_cell BK4s.out 2).trans rfl; have hfg4_2 := blk_frozen BK4s.out 2); clear hb)
    | (go_at_call 12; refine (fact_Check.calls 0 0 1 (some ⟨g1, 0, none⟩) 1 [strA] none 0 [] 40 w10 (C_strs1 BK1s.out) (Nat.le_refl _) C_no (Nat.le_refl _) checkX0).mono ?_; rintro e w11 ⟨rfl, hb⟩; have BK1t := Aside0.mk (blk_below BK1s.out hb); have BK2t := Aside0.mk (blk_below BK2s.out hb); have BK4t := Aside0.mk (blk_below BK4s.out hb); have HRt := Aside0.mk (Kd.R_below HRs.out hb); have HBt := Aside0.mk (below_then HBs.out HBs.out.size hb); replace n0 := pw_cell_below hb n0; replace n1 := pw_cell_below hb n1; clear hg2_0 hfg2_0 hg2_1 hfg2_1 hg2_2 hfg2_2; clear hg4_0 hfg4_0 hg4_1 hfg4_1 hg4_2 hfg4_2; (have hg2_0 : w11.cell? ⟨g2, 0, none⟩ = some (.int .i64 1) := (blk_cell BK2t.out 0).trans rfl; have hfg2_0 := blk_frozen BK2t.out 0; have hg2_1 : w11.cell? ⟨g2, 1, none⟩ = some (.slice (some ⟨g1, 0, none⟩) 1 1) := (blk_cell BK2t.out 1).trans rfl; have hfg2_1 := blk_frozen BK2t.out 1; have hg2_2 : w11.cell? ⟨g2, 2, none⟩ = some (.slice none 0 0) := (blk_cell BK2t.out 2).trans rfl; have hfg2_2 := blk_frozen BK2t.out 2); (have hg4_0 : w11.cell? ⟨g4, 0, none⟩ = some (.int .i64 2) := (blk_cell BK4t.out 0).trans rfl; have hfg4_0 := blk_frozen BK4t.out 0; have hg4_1 : w11.cell? ⟨g4, 1, none⟩ = some (.slice none 0 0) := (blk_cell BK4t.out 1).trans rfl; have hfg4_1 := blk_frozen BK4t.out 1; have hg4_2 : w11.cell? ⟨g4, 2, none⟩ = some (.slice none 0 0) := (blk_cell BK4t.out 2).trans rfl; have hfg4_2 := blk_frozen BK4t.out 2); clear hb)
    | fail)
  go_ret
  exact ⟨rfl, HBt.out⟩
end Go.Proofs.Ytfeeahjaeapkoaa.P
end

section
namespace Go.Proofs.Ytfeeahjaeapkoaa.P
set_option linter.unusedVariables false
set_option linter.unusedSimpArgs false
open Go.RowKit Go.Proofs.YtfeeahjaeapkoaaW.PrintWords Go.Proofs.YtfeeahjaeapkoaaW.PrintLast Go.Proofs.YtfeeahjaeapkoaaW.PrintMore Go.Proofs.Ytfeeahjaeapkoaa.Lib Go.Proofs.Ytfeeahjaeapkoaa.Ext
def small40 (x : S40) : Bool := decide (x.f0.f1.length ≤ 8796093022208) && decide (x.f0.f2.length ≤ 17592186044416)
theorem small40_of {l : List S40} (h : l.all small40 = true) : ∀ x ∈ l, Small (m40 x) := fun x hx => by
  have := List.all_eq_true.1 h x hx
  unfold small40 at this
  simp only [Bool.and_eq_true, decide_eq_true_eq] at this
  exact this
def bag40 (l : List S40) (tk : F → Bool) : List S40 := (bagOf ((l.map m40).filter fun x => tk x.1)).map s40
theorem bag40_calls (n c : Nat) (A : Option Addr) (l : List S40) (f : FuncId) (cap : Array Value) (tk : F → Bool) (w : World) (hC : Kd.C k40 w A n l) (hn : n ≤ sortK) (hs : l.all small40 = true)
    (hf : ∃ fn, Try.prog.funcs[f]? = some fn ∧ (fn.name == "runtime.NumGoroutine") = false ∧ fn.body.isSome = true)
    (htk : ∀ w', Below w.heap.size w w' → ∀ q x, Fl w' q x → Calls Try.prog f (#[] ++ #[qV q] ++ cap) w' fun e w'' => e = .returned (.bool (tk x)) ∧ Below w'.heap.size w' w'') :
    Calls Try.prog 33 #[.slice A n c, .func (.func f) #[] cap] w fun e w' => ∃ v, e = .returned v ∧ Kd.R k40 40 w' w.heap.size (fun _ => True) v (bag40 l tk) ∧ Below w.heap.size w w' := by
  obtain ⟨qs, h1, h2⟩ := flat40 hC (small40_of hs)
  exact bag_known sortK sortK_le sort_ok n c A qs (l.map m40) f cap tk w h1 hn h2 hf htk
end Go.Proofs.Ytfeeahjaeapkoaa.P
end

section
namespace Go.Proofs.Ytfeeahjaeapkoaa.P
set_option linter.unusedVariables false
set_option linter.unusedSimpArgs false
open Go.RowKit Go.Proofs.YtfeeahjaeapkoaaW.PrintWords Go.Proofs.YtfeeahjaeapkoaaW.PrintLast Go.Proofs.YtfeeahjaeapkoaaW.PrintMore Go.Proofs.Ytfeeahjaeapkoaa.Lib Go.Proofs.Ytfeeahjaeapkoaa.Ext
set_option maxRecDepth 100000 in
set_option maxHeartbeats 400000 in
theorem within1_calls (q : Q) (gs : Nat) (a b : Int) (w : World) (hb : w.heap[gs]? = some (.cells #[.int .i64 a, .int .i64 b] 44 (0, 0))) :
    Calls Try.prog 35 (#[] ++ #[.agg #[.int .i64 q.1, .slice q.2.1.1 q.2.1.2.1 q.2.1.2.2, .slice q.2.2.1.1 q.2.2.1.2.1 q.2.2.1.2.2]] ++ #[.pointer (some ⟨gs, 0, none⟩)]) w fun e w' => e = .returned (.bool (decide (a ≤ q.1) && decide (q.1 < b))) ∧ Below w.heap.size w w' := by
  show Calls Try.prog 35 #[.agg #[.int .i64 q.1, .slice q.2.1.1 q.2.1.2.1 q.2.1.2.2, .slice q.2.2.1.1 q.2.2.1.2.1 q.2.2.1.2.2], .pointer (some ⟨gs, 0, none⟩)] w fun e w' => e = .returned (.bool (decide (a ≤ q.1) && decide (q.1 < b))) ∧ Below w.heap.size w w'
  have HS := Aside0.mk hb
  clear hb
  by_cases h1 : a ≤ q.1
  · by_cases h2 : q.1 < b
    · have D1 := decide_eq_true h1
      have D2 := decide_eq_true h2
      have HD := Aside0.mk (And.intro D1 D2)
      clear D1 D2
      go_enter Try.func35, Try.ntmps35
      go_wp2_with (first | (((with_reducible refine gate_dst (N := 2) rfl ?_); refine box_event ?hg (N := 2) ?hd (cs := #[.int .i64 q.1, .slice q.2.1.1 q.2.1.2.1 q.2.1.2.2, .slice q.2.2.1.1 q.2.2.1.2.1 q.2.2.1.2.2]) (t := 27) ?hr ?_; (case hd => rfl); (case hg => rfl); (case hr => first | (go_simp; done) | (go_simp; rfl)); intro g1 hg w1 hbox hb; have GE1 := Aside0.mk (Nat.le_of_eq hg.symm); have BK1 := Aside0.mk hbox; have HX1 := Aside0.mk hb; clear hg hbox hb); have BKs := Aside0.mk (blk_below HS.out HX1.out); (have hg1_0 : w1.cell? ⟨g1, 0, none⟩ = some (.int .i64 q.1) := (blk_cell BK1.out 0).trans rfl; have hfg1_0 := blk_frozen BK1.out 0; have hg1_1 : w1.cell? ⟨g1, 1, none⟩ = some (.slice q.2.1.1 q.2.1.2.1 q.2.1.2.2) := (blk_cell BK1.out 1).trans rfl; have hfg1_1 := blk_frozen BK1.out 1; have hg1_2 : w1.cell? ⟨g1, 2, none⟩ = some (.slice q.2.2.1.1 q.2.2.1.2.1 q.2.2.1.2.2) := (blk_cell BK1.out 2).trans rfl; have hfg1_2 := blk_frozen BK1.out 2); (have hgs_0 : w1.cell? ⟨gs, 0, none⟩ = some (.int .i64 a) := (blk_cell BKs.out 0).trans rfl; have hfgs_0 := blk_frozen BKs.out 0; have hgs_1 : w1.cell? ⟨gs, 1, none⟩ = some (.int .i64 b) := (blk_cell BKs.out 1).trans rfl; have hfgs_1 := blk_frozen BKs.out 1)) | fail)
      go_ret
      refine ⟨?_, HX1.out⟩
      have h1 := HD.out.1
      have h2 := HD.out.2
      simp [h1, h2] at *
      all_goals (simp [*])
    · have D1 := decide_eq_true h1
      have D2 := decide_eq_false h2
      have HD := Aside0.mk (And.intro D1 D2)
      have h2' := Int.not_lt.1 h2
      clear D1
      go_enter Try.func35, Try.ntmps35
      go_wp2_with (first | (((with_reducible refine gate_dst (N := 2) rfl ?_); refine box_event ?hg (N := 2) ?hd (cs := #[.int .i64 q.1, .slice q.2.1.1 q.2.1.2.1 q.2.1.2.2, .slice q.2.2.1.1 q.2.2.1.2.1 q.2.2.1.2.2]) (t := 27) ?hr ?_; (case hd => rfl); (case hg => rfl); (case hr => first | (go_simp; done) | (go_simp; rfl)); intro g1 hg w1 hbox hb; have GE1 := Aside0.mk (Nat.le_of_eq hg.symm); have BK1 := Aside0.mk hbox; have HX1 := Aside0.mk hb; clear hg hbox hb); have BKs := Aside0.mk (blk_below HS.out HX1.out); (have hg1_0 : w1.cell? ⟨g1, 0, none⟩ = some (.int .i64 q.1) := (blk_cell BK1.out 0).trans rfl; have hfg1_0 := blk_frozen BK1.out 0; have hg1_1 : w1.cell? ⟨g1, 1, none⟩ = some (.slice q.2.1.1 q.2.1.2.1 q.2.1.2.2) := (blk_cell BK1.out 1).trans rfl; have hfg1_1 := blk_frozen BK1.out 1; have hg1_2 : w1.cell? ⟨g1, 2, none⟩ = some (.slice q.2.2.1.1 q.2.2.1.2.1 q.2.2.1.2.2) := (blk_cell BK1.out 2).trans rfl; have hfg1_2 := blk_frozen BK1.out 2); (have hgs_0 : w1.cell? ⟨gs, 0, none⟩ = some (.int .i64 a) := (blk_cell BKs.out 0).trans rfl; have hfgs_0 := blk_frozen BKs.out 0; have hgs_1 : w1.cell? ⟨gs, 1, none⟩ = some (.int .i64 b) := (blk_cell BKs.out 1).trans rfl; have hfgs_1 := blk_frozen BKs.out 1)) | fail)
      go_ret
      refine ⟨?_, HX1.out⟩
      have h1 := HD.out.1
      have h2 := HD.out.2
      simp [h1, h2] at *
      all_goals (simp [*])
  · have D1 := decide_eq_false h1
    have HD := Aside0.mk D1
    have h1' := Int.not_le.1 h1
    go_enter Try.func35, Try.ntmps35
    go_wp2_with (first | (((with_reducible refine gate_dst (N := 2) rfl ?_); refine box_event ?hg (N := 2) ?hd (cs := #[.int .i64 q.1, .slice q.2.1.1 q.2.1.2.1 q.2.1.2.2, .slice q.2.2.1.1 q.2.2.1.2.1 q.2.2.1.2.2]) (t := 27) ?hr ?_; (case hd => rfl); (case hg => rfl); (case hr => first | (go_simp; done) | (go_simp; rfl)); intro g1 hg w1 hbox hb; have GE1 := Aside0.mk (Nat.le_of_eq hg.symm); have BK1 := Aside0.mk hbox; have HX1 := Aside0.mk hb; clear hg hbox hb); have BKs := Aside0.mk (blk_below HS.out HX1.out); (have hg1_0 : w1.cell? ⟨g1, 0, none⟩ = some (.int .i64 q.1) := (blk_cell BK1.out 0).trans rfl; have hfg1_0 := blk_frozen BK1.out 0; have hg1_1 : w1.cell? ⟨g1, 1, none⟩ = some (.slice q.2.1.1 q.2.1.2.1 q.2.1.2.2) := (blk_cell BK1.out 1).trans rfl; have hfg1_1 := blk_frozen BK1.out 1; have hg1_2 : w1.cell? ⟨g1, 2, none⟩ = some (.slice q.2.2.1.1 q.2.2.1.2.1 q.2.2.1.2.2) := (blk_cell BK1.out 2).trans rfl; have hfg1_2 := blk_frozen BK1.out 2); (have hgs_0 : w1.cell? ⟨gs, 0, none⟩ = some (.int .i64 a) := (blk_cell BKs.out 0).trans rfl; have hfgs_0 := blk_frozen BKs.out 0; have hgs_1 : w1.cell? ⟨gs, 1, none⟩ = some (.int .i64 b) := (blk_cell BKs.out 1).trans rfl; have hfgs_1 := blk_frozen BKs.out 1)) | fail)
    go_ret
    refine ⟨?_, HX1.out⟩
    have h1 := HD.out
    simp [h1] at *
    all_goals (simp [*])
set_option maxRecDepth 100000 in
set_option maxHeartbeats 400000 in
theorem without1_calls (q : Q) (gs : Nat) (a b : Int) (w : World) (hb : w.heap[gs]? = some (.cells #[.int .i64 a, .int .i64 b] 44 (0, 0))) :
    Calls Try.prog 36 (#[] ++ #[.agg #[.int .i64 q.1, .slice q.2.1.1 q.2.1.2.1 q.2.1.2.2, .slice q.2.2.1.1 q.2.2.1.2.1 q.2.2.1.2.2]] ++ #[.pointer (some ⟨gs, 0, none⟩)]) w fun e w' => e = .returned (.bool (decide (q.1 < a) || decide (q.1 ≥ b))) ∧ Below w.heap.size w w' := by
  show Calls Try.prog 36 #[.agg #[.int .i64 q.1, .slice q.2.1.1 q.2.1.2.1 q.2.1.2.2, .slice q.2.2.1.1 q.2.2.1.2.1 q.2.2.1.2.2], .pointer (some ⟨gs, 0, none⟩)] w fun e w' => e = .returned (.bool (decide (q.1 < a) || decide (q.1 ≥ b))) ∧ Below w.heap.size w w'
  have HS := Aside0.mk hb
  clear hb
  by_cases h1 : q.1 < a
  · by_cases h2 : q.1 ≥ b
    · have D1 := decide_eq_true h1
      have D2 := decide_eq_true h2
      have HD := Aside0.mk (And.intro D1 D2)
      clear D1 D2
      go_enter Try.func36, Try.ntmps36
      go_wp2_with (first | (((with_reducible refine gate_dst (N := 2) rfl ?_); refine box_event ?hg (N := 2) ?hd (cs := #[.int .i64 q.1, .slice q.2.1.1 q.2.1.2.1 q.2.1.2.2, .slice q.2.2.1.1 q.2.2.1.2.1 q.2.2.1.2.2]) (t := 27) ?hr ?_; (case hd => rfl); (case hg => rfl); (case hr => first | (go_simp; done) | (go_simp; rfl)); intro g1 hg w1 hbox hb; have GE1 := Aside0.mk (Nat.le_of_eq hg.symm); have BK1 := Aside0.mk hbox; have HX1 := Aside0.mk hb; clear hg hbox hb); have BKs := Aside0.mk (blk_below HS.out HX1.out); (have hg1_0 : w1.cell? ⟨g1, 0, none⟩ = some (.int .i64 q.1) := (blk_cell BK1.out 0).trans rfl; have hfg1_0 := blk_frozen BK1.out 0; have hg1_1 : w1.cell? ⟨g1, 1, none⟩ = some (.slice q.2.1.1 q.2.1.2.1 q.2.1.2.2) := (blk_cell BK1.out 1).trans rfl; have hfg1_1 := blk_frozen BK1.out 1; have hg1_2 : w1.cell? ⟨g1, 2, none⟩ = some (.slice q.2.2.1.1 q.2.2.1.2.1 q.2.2.1.2.2) := (blk_cell BK1.out 2).trans rfl; have hfg1_2 := blk_frozen BK1.out 2); (have hgs_0 : w1.cell? ⟨gs, 0, none⟩ = some (.int .i64 a) := (blk_cell BKs.out 0).trans rfl; have hfgs_0 := blk_frozen BKs.out 0; have hgs_1 : w1.cell? ⟨gs, 1, none⟩ = some (.int .i64 b) := (blk_cell BKs.out 1).trans rfl; have hfgs_1 := blk_frozen BKs.out 1)) | fail)
      go_ret
      refine ⟨?_, HX1.out⟩
      have h1 := HD.out.1
      have h2 := HD.out.2
      simp [h1, h2] at *
      all_goals (simp [*])
    · have D1 := decide_eq_true h1
      have D2 := decide_eq_false h2
      have HD := Aside0.mk (And.intro D1 D2)
      have h2' := Int.not_le.1 h2
      clear D1
      go_enter Try.func36, Try.ntmps36
      go_wp2_with (first | (((with_reducible refine gate_dst (N := 2) rfl ?_); refine box_event ?hg (N := 2) ?hd (cs := #[.int .i64 q.1, .slice q.2.1.1 q.2.1.2.1 q.2.1.2.2, .slice q.2.2.1.1 q.2.2.1.2.1 q.2.2.1.2.2]) (t := 27) ?hr ?_; (case hd => rfl); (case hg => rfl); (case hr => first | (go_simp; done) | (go_simp; rfl)); intro g1 hg w1 hbox hb; have GE1 := Aside0.mk (Nat.le_of_eq hg.symm); have BK1 := Aside0.mk hbox; have HX1 := Aside0.mk hb; clear hg hbox hb); have BKs := Aside0.mk (blk_below HS.out HX1.out); (have hg1_0 : w1.cell? ⟨g1, 0, none⟩ = some (.int .i64 q.1) := (blk_cell BK1.out 0).trans rfl; have hfg1_0 := blk_frozen BK1.out 0; have hg1_1 : w1.cell? ⟨g1, 1, none⟩ = some (.slice q.2.1.1 q.2.1.2.1 q.2.1.2.2) := (blk_cell BK1.out 1).trans rfl; have hfg1_1 := blk_frozen BK1.out 1; have hg1_2 : w1.cell? ⟨g1, 2, none⟩ = some (.slice q.2.2.1.1 q.2.2.1.2.1 q.2.2.1.2.2) := (blk_cell BK1.out 2).trans rfl; have hfg1_2 := blk_frozen BK1.out 2); (have hgs_0 : w1.cell? ⟨gs, 0, none⟩ = some (.int .i64 a) := (blk_cell BKs.out 0).trans rfl; have hfgs_0 := blk_frozen BKs.out 0; have hgs_1 : w1.cell? ⟨gs, 1, none⟩ = some (.int .i64 b) := (blk_cell BKs.out 1).trans rfl; have hfgs_1 := blk_frozen BKs.out 1)) | fail)
      go_ret
      refine ⟨?_, HX1.out⟩
      have h1 := HD.out.1
      have h2 := HD.out.2
      simp [h1, h2] at *
      all_goals (simp [*])
  · have D1 := decide_eq_false h1
    have HD := Aside0.mk D1
    have h1' := Int.not_lt.1 h1
    go_enter Try.func36, Try.ntmps36
    go_wp2_with (first | (((with_reducible refine gate_dst (N := 2) rfl ?_); refine box_event ?hg (N := 2) ?hd (cs := #[.int .i64 q.1, .slice q.2.1.1 q.2.1.2.1 q.2.1.2.2, .slice q.2.2.1.1 q.2.2.1.2.1 q.2.2.1.2.2]) (t := 27) ?hr ?_; (case hd => rfl); (case hg => rfl); (case hr => first | (go_simp; done) | (go_simp; rfl)); intro g1 hg w1 hbox hb; have GE1 := Aside0.mk (Nat.le_of_eq hg.symm); have BK1 := Aside0.mk hbox; have HX1 := Aside0.mk hb; clear hg hbox hb); have BKs := Aside0.mk (blk_below HS.out HX1.out); (have hg1_0 : w1.cell? ⟨g1, 0, none⟩ = some (.int .i64 q.1) := (blk_cell BK1.out 0).trans rfl; have hfg1_0 := blk_frozen BK1.out 0; have hg1_1 : w1.cell? ⟨g1, 1, none⟩ = some (.slice q.2.1.1 q.2.1.2.1 q.2.1.2.2) := (blk_cell BK1.out 1).trans rfl; have hfg1_1 := blk_frozen BK1.out 1; have hg1_2 : w1.cell? ⟨g1, 2, none⟩ = some (.slice q.2.2.1.1 q.2.2.1.2.1 q.2.2.1.2.2) := (blk_cell BK1.out 2).trans rfl; have hfg1_2 := blk_frozen BK1.out 2); (have hgs_0 : w1.cell? ⟨gs, 0, none⟩ = some (.int .i64 a) := (blk_cell BKs.out 0).trans rfl; have hfgs_0 := blk_frozen BKs.out 0; have hgs_1 : w1.cell? ⟨gs, 1, none⟩ = some (.int .i64 b) := (blk_cell BKs.out 1).trans rfl; have hfgs_1 := blk_frozen BKs.out 1)) | fail)
    go_ret
    refine ⟨?_, HX1.out⟩
    have h1 := HD.out
    simp [h1] at *
    all_goals (simp [*])
def withinT (a b : Int) (x : F) : Bool := decide (a ≤ x.1) && decide (x.1 < b)
def fact_Within.f (l0 : List (S40)) (a1_0 : Int) (a1_1 : Int) : Option (List (S40)) := if l0.length ≤ sortK ∧ l0.all small40 = true then some (bag40 l0 (withinT a1_0 a1_1)) else none
set_option maxRecDepth 100000 in
set_option maxHeartbeats 400000 in
theorem fact_Within.calls (A0 : Option Addr) (c0 : Nat) (l0 : List (S40)) (a1_0 : Int) (a1_1 : Int) (r : List (S40)) (w : World) (hr0 : Kd.C k40 w A0 l0.length l0) (hc0 : l0.length ≤ c0) (h : fact_Within.f l0 a1_0 a1_1 = some r) :
    Calls Try.prog 19 #[.slice A0 l0.length c0, .agg #[.int .i64 a1_0, .int .i64 a1_1]] w fun e w' => ∃ v0_ : Value, e = .returned v0_ ∧ Kd.R k40 40 w' w.heap.size (fun _ => True) v0_ r ∧ Below w.heap.size w w' := by
  unfold fact_Within.f at h
  split at h
  · rename_i hh
    injection h with h
    subst h
    have HH := Aside0.mk hh
    have HR := Aside0.mk hr0
    clear hh hr0 hc0
    generalize l0.length = n at *
    go_enter Try.func19, Try.ntmps19
    go_wp2_with (first
      | (((with_reducible refine gate_dst (N := 3) rfl ?_); refine box_event ?hg (N := 3) ?hd (cs := #[.int .i64 a1_0, .int .i64 a1_1]) (t := 44) ?hr ?_; (case hd => rfl); (case hg => rfl); (case hr => first | (go_simp; done) | (go_simp; rfl)); intro g1 hg w1 hbox hb; have GE1 := Aside0.mk (Nat.le_of_eq hg.symm); have BK1 := Aside0.mk hbox; have HX1 := Aside0.mk hb; clear hg hbox hb))
      | (go_at_call 33; refine (bag40_calls n c0 A0 l0 35 #[.pointer (some ⟨g1, 0, none⟩)] (withinT a1_0 a1_1) w1 (Kd.C_below HR.out HX1.out) HH.out.1 HH.out.2 ⟨_, Try.func35, rfl, rfl⟩ (fun w' hb q x hq => by have h := within1_calls q g1 a1_0 a1_1 w' (blk_below BK1.out hb); rw [show (decide (a1_0 ≤ q.1) && decide (q.1 < a1_1)) = withinT a1_0 a1_1 x by unfold withinT; rw [hq.t]] at h; exact h)).mono ?_; rintro e w2 ⟨v2, rfl, hr2, hb2⟩; have HR2 := Aside0.mk hr2; have HB2 := Aside0.mk (below_then HX1.out HX1.out.size hb2); clear hr2 hb2)
      | fail)
    go_ret
    exact ⟨v2, rfl, Kd.R_lower HR2.out HX1.out.size, HB2.out⟩
  · cases h
def withoutT (a b : Int) (x : F) : Bool := decide (x.1 < a) || decide (x.1 ≥ b)
def fact_Without.f (l0 : List (S40)) (a1_0 : Int) (a1_1 : Int) : Option (List (S40)) := if l0.length ≤ sortK ∧ l0.all small40 = true then some (bag40 l0 (withoutT a1_0 a1_1)) else none
set_option maxRecDepth 100000 in
set_option maxHeartbeats 400000 in
theorem fact_Without.calls (A0 : Option Addr) (c0 : Nat) (l0 : List (S40)) (a1_0 : Int) (a1_1 : Int) (r : List (S40)) (w : World) (hr0 : Kd.C k40 w A0 l0.length l0) (hc0 : l0.length ≤ c0) (h : fact_Without.f l0 a1_0 a1_1 = some r) :
    Calls Try.prog 21 #[.slice A0 l0.length c0, .agg #[.int .i64 a1_0, .int .i64 a1_1]] w fun e w' => ∃ v0_ : Value, e = .returned v0_ ∧ Kd.R k40 40 w' w.heap.size (fun _ => True) v0_ r ∧ Below w.heap.size w w' := by
  unfold fact_Without.f at h
  split at h
  · rename_i hh
    injection h with h
    subst h
    have HH := Aside0.mk hh
    have HR := Aside0.mk hr0
    clear hh hr0 hc0
    generalize l0.length = n at *
    go_enter Try.func21, Try.ntmps21
    go_wp2_with (first
      | (((with_reducible refine gate_dst (N := 3) rfl ?_); refine box_event ?hg (N := 3) ?hd (cs := #[.int .i64 a1_0, .int .i64 a1_1]) (t := 44) ?hr ?_; (case hd => rfl); (case hg => rfl); (case hr => first | (go_simp; done) | (go_simp; rfl)); intro g1 hg w1 hbox hb; have GE1 := Aside0.mk (Nat.le_of_eq hg.symm); have BK1 := Aside0.mk hbox; have HX1 := Aside0.mk hb; clear hg hbox hb))
      | (go_at_call 33; refine (bag40_calls n c0 A0 l0 36 #[.pointer (some ⟨g1, 0, none⟩)] (withoutT a1_0 a1_1) w1 (Kd.C_below HR.out HX1.out) HH.out.1 HH.out.2 ⟨_, Try.func36, rfl, rfl⟩ (fun w' hb q x hq => by have h := without1_calls q g1 a1_0 a1_1 w' (blk_below BK1.out hb); rw [show (decide (q.1 < a1_0) || decide (q.1 ≥ a1_1)) = withoutT a1_0 a1_1 x by unfold withoutT; rw [hq.t]] at h; exact h)).mono ?_; rintro e w2 ⟨v2, rfl, hr2, hb2⟩; have HR2 := Aside0.mk hr2; have HB2 := Aside0.mk (below_then HX1.out HX1.out.size hb2); clear hr2 hb2)
      | fail)
    go_ret
    exact ⟨v2, rfl, Kd.R_lower HR2.out HX1.out.size, HB2.out⟩
  · cases h
end Go.Proofs.Ytfeeahjaeapkoaa.P
end

section
namespace Go.Proofs.Ytfeeahjaeapkoaa.P
open Go.RowKit Go.Proofs.YtfeeahjaeapkoaaW.PrintWords Go.Proofs.YtfeeahjaeapkoaaW.PrintLast Go.Proofs.YtfeeahjaeapkoaaW.PrintMore
attribute [local go_sem] max2_int min2_int max_two min_two max_three min_three max_four min_four   -- for this text's walks alone
set_option linter.unusedVariables false
set_option linter.unusedSimpArgs false
open Go.Proofs.Ytfeeahjaeapkoaa.Ext (q1_ q2_ q3_ bk_ bw_ sz_ ne_ bx_)
attribute [local go_sem high] Go.Proofs.Ytfeeahjaeapkoaa.Ext.gtr_str Go.Proofs.Ytfeeahjaeapkoaa.Ext.leq_str Go.Proofs.Ytfeeahjaeapkoaa.Ext.geq_str
def gristmilllaw04_FactSpans.l0 : Nat → List (S40) → Int → Int → Int → Int → Option (Bool)
 | 0, _, _, _, _, _ => none
 | k + 1, x0, x6, x7, x261000, x261001 => if x7 < (x0.length : Int) then (if 0 ≤ x7 then (gristmilllaw04_FactSpans.l0 k x0 (IntKind.u64.wrap (x6 + ((rd_T40 x0 x7).f1))) (wrap64 (x7 + 1)) x261000 x261001) else (none)) else ((fact_Within.f x0 x261000 x261001).bind fun t263 => ((gristmillref04_Within.f k x0 x261000 x261001 true).bind fun t266 => ((gristmillref04_Is.f k t263 t266).bind fun t269 => ((fact_Without.f x0 x261000 x261001).bind fun t270 => ((gristmillref04_Within.f k x0 x261000 x261001 false).bind fun t273 => ((gristmillref04_Is.f k t270 t273).bind fun t276 => (if t269 = true then (if t276 = true then ((fact_Count.f k x0).bind fun t277 => (some (t277 == x6))) else (some false)) else (some false))))))))
def gristmilllaw04_FactSpans.f (k : Nat) (l0 : List (S40)) (a1_0 : Int) (a1_1 : Int) : Option (Bool) := (gristmilllaw04_awake.f).bind fun t261 => (if t261 = true then (if (l0.length : Int) > 300 then (some true) else (gristmilllaw04_FactSpans.l0 k l0 0 0 a1_0 a1_1)) else (some false))
def gristmilllaw04_FactSpans.T11 : Bool × List (List Nat × List Nat) := (true, [([], []), ([], []), ([0, 1], [0, 1]), ([], []), ([], []), ([3, 4, 2], [3, 4]), ([2, 5, 5], [2, 5]), ([6, 6, 0, 1, 2, 3, 4, 5, 6], [6])])
def gristmilllaw04_FactSpans.B11 : List Nat := [0, 0, 3, 0, 0, 31, 63, 127]
theorem gristmilllaw04_FactSpans.tab11 : rtab .any (opsOf Try.f5 11) = gristmilllaw04_FactSpans.T11 := by kernel_rfl
theorem gristmilllaw04_FactSpans.bits11 : waitsOk gristmilllaw04_FactSpans.T11.2 gristmilllaw04_FactSpans.B11 = true := by kernel_rfl
def gristmilllaw04_FactSpans.T12 : Bool × List (List Nat × List Nat) := (true, [([], []), ([], []), ([0, 1], [0, 1]), ([], []), ([], []), ([3, 4, 2], [3, 4]), ([2, 5, 5], [2, 5]), ([6, 6, 0, 1, 2, 3, 4, 5, 6], [6])])
def gristmilllaw04_FactSpans.B12 : List Nat := [0, 0, 3, 0, 0, 31, 63, 127]
theorem gristmilllaw04_FactSpans.tab12 : rtab .any (opsOf Try.f5 12) = gristmilllaw04_FactSpans.T12 := by kernel_rfl
theorem gristmilllaw04_FactSpans.bits12 : waitsOk gristmilllaw04_FactSpans.T12.2 gristmilllaw04_FactSpans.B12 = true := by kernel_rfl
set_option maxHeartbeats 8000000 in
set_option maxRecDepth 100000 in
theorem gristmilllaw04_FactSpans.calls (k : Nat) (A0 : Option Addr) (c0 : Nat) (l0 : List (S40)) (a1_0 : Int) (a1_1 : Int) (r : Bool) (w : World) (hr0 : Kd.C k40 w A0 l0.length l0) (hc0 : l0.length ≤ c0) (h : gristmilllaw04_FactSpans.f k l0 a1_0 a1_1 = some r) :
  Calls Try.prog 5 #[.slice A0 l0.length c0, .agg #[.int .i64 a1_0, .int .i64 a1_1]] w fun e w' => e = .returned (.bool r) ∧ Below w.heap.size w w' := by
 have hu44 := Try.underlying44
 have HR0 := Aside0.mk hr0
 have HC0 := Aside0.mk hc0
 clear hr0 hc0
 have HB := Aside0.mk (Below.refl w.heap.size w)
 have H : ((gristmilllaw04_awake.f).bind fun t261 => (if t261 = true then (if (l0.length : Int) > 300 then (some true) else (gristmilllaw04_FactSpans.l0 k l0 0 0 a1_0 a1_1)) else (some false))) = some r := h
 clear h
 replace H := Option.bind_eq_some_iff.mp H
 obtain ⟨t261, A30, H⟩ := H
 replace H : (if t261 = true then (if (l0.length : Int) > 300 then (some true) else (gristmilllaw04_FactSpans.l0 k l0 0 0 a1_0 a1_1)) else (some false)) = some r := H
 have A3 := Aside0.mk A30
 clear A30
 by_cases c4 : t261 = true
 ·subst c4
  have H1 : (if (l0.length : Int) > 300 then (some true) else (gristmilllaw04_FactSpans.l0 k l0 0 0 a1_0 a1_1)) = some r := by rw [if_pos rfl] at H; exact H
  clear H
  have H := H1
  clear H1
  by_cases c5 : (l0.length : Int) > 300
  ·rw [if_pos c5] at H
   have c5b0 : decide (300 < (l0.length : Int)) = true := decide_eq_true c5
   have c5b1 : decide (300 < l0.length) = true := decide_eq_true (by omega)
   clear c5
   obtain rfl := Option.some.inj H
   go_enter Try.func5, Try.ntmps5
   go_wp2_with (first | ((with_reducible refine gate_dst (N := 3) rfl ?_); refine bx_ (N := 3) (cs := #[.int .i64 a1_0, .int .i64 a1_1]) (t := 44) ?_; intro gb260 hg w6 hbox hb; have n0_ := Aside0.mk (below_step (bw_ HB.out) hb); have n1_ := Aside0.mk (hbox); have n2_ := Aside0.mk (sz_ hg (bw_ HB.out)); have n3_ := n2_; clear HB; have HB := n0_; have BK260 := n1_; have GW260 := n2_; have GE260 := n3_; clear n0_ n1_ n2_ n3_; clear hb hbox hg) | ((with_reducible refine gate_callee (f := 9) rfl ?_); refine goesL_ (some 10) rfl rfl Try.func9 (by kernel_rfl) rfl #[] rfl (by (try simp only [List.map_toArray, List.map_cons, List.map_nil]); first | done | rfl | (simp only [List.length_drop, List.length_take]; rfl)) ?_; (with_reducible refine (gristmilllaw04_awake.calls  true _ A3.out).mono ?_); rintro e w7 ⟨rfl, hb⟩; refine ⟨_, rfl, ?_⟩; have n0_ := Aside0.mk (blk_below (bk_ BK260.out) hb); have n1_ := Aside0.mk (below_step (bw_ HB.out) hb); clear BK260 HB; have BK260 := n0_; have HB := n1_; clear n0_ n1_; (try clear hb); (try clear hb2); (try clear hk); (try clear hi)))
   go_ret
   exact ⟨by first | rfl | (simp [errW_none, errW_some] <;> rfl) | (simp [*, errW_none, errW_some] <;> rfl), by repeat (first | (with_reducible first | exact HB.out | apply below_alloc | apply pw_below_drewN | apply below_drew1 | refine below_set ?_ GE260.out) | exact HB.out)⟩
  ·rw [if_neg c5] at H
   have c5b0 : decide (300 < (l0.length : Int)) = false := decide_eq_false c5
   have c5b1 : decide (300 < l0.length) = false := decide_eq_false (by omega)
   clear c5
   have H' := Aside0.mk H
   clear H
   go_enter Try.func5, Try.ntmps5
   go_wp2_with (first | ((with_reducible refine gate_dst (N := 3) rfl ?_); refine bx_ (N := 3) (cs := #[.int .i64 a1_0, .int .i64 a1_1]) (t := 44) ?_; intro gb260 hg w8 hbox hb; have n0_ := Aside0.mk (below_step (bw_ HB.out) hb); have n1_ := Aside0.mk (hbox); have n2_ := Aside0.mk (sz_ hg (bw_ HB.out)); have n3_ := n2_; clear HB; have HB := n0_; have BK260 := n1_; have GW260 := n2_; have GE260 := n3_; clear n0_ n1_ n2_ n3_; clear hb hbox hg) | ((with_reducible refine gate_callee (f := 9) rfl ?_); refine goesL_ (some 10) rfl rfl Try.func9 (by kernel_rfl) rfl #[] rfl (by (try simp only [List.map_toArray, List.map_cons, List.map_nil]); first | done | rfl | (simp only [List.length_drop, List.length_take]; rfl)) ?_; (with_reducible refine (gristmilllaw04_awake.calls  true _ A3.out).mono ?_); rintro e w9 ⟨rfl, hb⟩; refine ⟨_, rfl, ?_⟩; have n0_ := Aside0.mk (blk_below (bk_ BK260.out) hb); have n1_ := Aside0.mk (below_step (bw_ HB.out) hb); clear BK260 HB; have BK260 := n0_; have HB := n1_; clear n0_ n1_; (try clear hb); (try clear hb2); (try clear hk); (try clear hi)))
   go_loopg [6, 7] k (fun kq v6 v7 w' => ∃ (x6_1 : Int) (x7_1 : Int), v6 = .int .u64 x6_1 ∧ v7 = .int .i64 x7_1 ∧ Aside0 (gristmilllaw04_FactSpans.l0 kq l0 x6_1 x7_1 a1_0 a1_1 = some r) ∧ Aside0 (kq ≤ k) ∧ Aside0 (w'.heap[gb260]? = some (.cells #[.int .i64 a1_0, .int .i64 a1_1] 44 (0, 0))) ∧ Aside0 (Below w.heap.size w w'))
   case atStart => exact ⟨(0), (0), (by first | rfl | (simp; done) | (simp [*]; done)), (by first | rfl | (simp; done) | (simp [*]; done)), H', ⟨Nat.le_refl _⟩, ⟨by (with_reducible repeat (first | refine blk_drewN ?_ _ | refine blk_drew ?_ | refine blk_alloc ?_ _)); exact BK260.out⟩, ⟨by repeat (first | (with_reducible first | exact HB.out | apply below_alloc | apply pw_below_drewN | apply below_drew1 | refine below_set ?_ GE260.out) | exact HB.out)⟩⟩
   case round =>
    clear H'
    try clear p2
    try clear c4
    try clear c5
    try clear c5b0
    try clear c5b1
    try clear c9
    obtain ⟨x6_1, x7_1, rfl, rfl, HA, HK1, BK260, HB⟩ := hrel
    cases gk with
    | zero => exact absurd HA.out (by simp [gristmilllaw04_FactSpans.l0])
    | succ k1 =>
     have H := HA.out
     clear HA
     simp only [gristmilllaw04_FactSpans.l0] at H
     by_cases c10 : x7_1 < (l0.length : Int)
     ·rw [if_pos c10] at H
      have c10b0 : decide (x7_1 < (l0.length : Int)) = true := decide_eq_true c10
      clear c10
      by_cases c11 : 0 ≤ x7_1
      ·rw [if_pos c11] at H
       have c11b0 : decide (0 ≤ x7_1) = true := decide_eq_true c11
       clear c11
       have H' := Aside0.mk H
       clear H
       have p262 : 0 ≤ (x7_1 : Int) := of_decide_eq_true (by assumption)
       have q262 : x7_1 < (l0.length : Int) := of_decide_eq_true (by assumption)
       obtain ⟨ad262, A262_1, c262_1, A262_2, c262_2, e262, hx262_0, hx262_1, hx262_2, hx262_3, hl262_1, hi262_1, hl262_2, hi262_2⟩ := at_T40 HR0.out x7_1 p262 q262
       cases e262
       replace hx262_0 := pw_cell_below HB.out hx262_0
       replace hx262_1 := pw_cell_below HB.out hx262_1
       replace hx262_2 := pw_cell_below HB.out hx262_2
       replace hx262_3 := pw_cell_below HB.out hx262_3
       have HR262_1 := Aside0.mk hi262_1
       have HC262_1 := Aside0.mk hl262_1
       clear hi262_1 hl262_1
       have HR262_2 := Aside0.mk hi262_2
       have HC262_2 := Aside0.mk hl262_2
       clear hi262_2 hl262_2
       replace p262 := eq_true p262
       replace q262 := eq_true q262
       go_wp2
       go_roundg k1
       case measure => have := HK1.out; omega
       case rel => exact ⟨(IntKind.u64.wrap (x6_1 + ((rd_T40 l0 x7_1).f1))), (wrap64 (x7_1 + 1)), (by first | rfl | (simp; done) | (simp [*]; done)), (by first | rfl | (simp; done) | (simp [*]; done)), H', ⟨by have := HK1.out; omega⟩, ⟨by (with_reducible repeat (first | refine blk_drewN ?_ _ | refine blk_drew ?_ | refine blk_alloc ?_ _)); exact BK260.out⟩, ⟨by repeat (first | (with_reducible first | exact HB.out | apply below_alloc | apply pw_below_drewN | apply below_drew1 | refine below_set ?_ GE260.out) | exact HB.out)⟩⟩
      ·rw [if_neg c11] at H
       exact absurd H (by simp)
     ·rw [if_neg c10] at H
      have c10b0 : decide (x7_1 < (l0.length : Int)) = false := decide_eq_false c10
      clear c10
      replace H := Option.bind_eq_some_iff.mp H
      obtain ⟨t263, A120, H⟩ := H
      replace H : ((gristmillref04_Within.f k1 l0 a1_0 a1_1 true).bind fun t266 => ((gristmillref04_Is.f k1 t263 t266).bind fun t269 => ((fact_Without.f l0 a1_0 a1_1).bind fun t270 => ((gristmillref04_Within.f k1 l0 a1_0 a1_1 false).bind fun t273 => ((gristmillref04_Is.f k1 t270 t273).bind fun t276 => (if t269 = true then (if t276 = true then ((fact_Count.f k1 l0).bind fun t277 => (some (t277 == x6_1))) else (some false)) else (some false))))))) = some r := H
      have A12 := Aside0.mk A120
      clear A120
      replace H := Option.bind_eq_some_iff.mp H
      obtain ⟨t266, A130, H⟩ := H
      replace H : ((gristmillref04_Is.f k1 t263 t266).bind fun t269 => ((fact_Without.f l0 a1_0 a1_1).bind fun t270 => ((gristmillref04_Within.f k1 l0 a1_0 a1_1 false).bind fun t273 => ((gristmillref04_Is.f k1 t270 t273).bind fun t276 => (if t269 = true then (if t276 = true then ((fact_Count.f k1 l0).bind fun t277 => (some (t277 == x6_1))) else (some false)) else (some false)))))) = some r := H
      have A13 := Aside0.mk A130
      clear A130
      replace H := Option.bind_eq_some_iff.mp H
      obtain ⟨t269, A140, H⟩ := H
      replace H : ((fact_Without.f l0 a1_0 a1_1).bind fun t270 => ((gristmillref04_Within.f k1 l0 a1_0 a1_1 false).bind fun t273 => ((gristmillref04_Is.f k1 t270 t273).bind fun t276 => (if t269 = true then (if t276 = true then ((fact_Count.f k1 l0).bind fun t277 => (some (t277 == x6_1))) else (some false)) else (some false))))) = some r := H
      have A14 := Aside0.mk A140
      clear A140
      replace H := Option.bind_eq_some_iff.mp H
      obtain ⟨t270, A150, H⟩ := H
      replace H : ((gristmillref04_Within.f k1 l0 a1_0 a1_1 false).bind fun t273 => ((gristmillref04_Is.f k1 t270 t273).bind fun t276 => (if t269 = true then (if t276 = true then ((fact_Count.f k1 l0).bind fun t277 => (some (t277 == x6_1))) else (some false)) else (some false)))) = some r := H
      have A15 := Aside0.mk A150
      clear A150
      replace H := Option.bind_eq_some_iff.mp H
      obtain ⟨t273, A160, H⟩ := H
      replace H : ((gristmillref04_Is.f k1 t270 t273).bind fun t276 => (if t269 = true then (if t276 = true then ((fact_Count.f k1 l0).bind fun t277 => (some (t277 == x6_1))) else (some false)) else (some false))) = some r := H
      have A16 := Aside0.mk A160
      clear A160
      replace H := Option.bind_eq_some_iff.mp H
      obtain ⟨t276, A170, H⟩ := H
      replace H : (if t269 = true then (if t276 = true then ((fact_Count.f k1 l0).bind fun t277 => (some (t277 == x6_1))) else (some false)) else (some false)) = some r := H
      have A17 := Aside0.mk A170
      clear A170
      by_cases c18 : t269 = true
      ·subst c18
       have H1 : (if t276 = true then ((fact_Count.f k1 l0).bind fun t277 => (some (t277 == x6_1))) else (some false)) = some r := by rw [if_pos rfl] at H; exact H
       clear H
       have H := H1
       clear H1
       by_cases c19 : t276 = true
       ·subst c19
        have H1 : ((fact_Count.f k1 l0).bind fun t277 => (some (t277 == x6_1))) = some r := by rw [if_pos rfl] at H; exact H
        clear H
        have H := H1
        clear H1
        replace H := Option.bind_eq_some_iff.mp H
        obtain ⟨t277, A200, H⟩ := H
        replace H : (some (t277 == x6_1)) = some r := H
        have A20 := Aside0.mk A200
        clear A200
        obtain rfl := Option.some.inj H
        try go_wp2
        have n0_ := Aside0.mk (blk_drew BK260.out)
        have n1_ := Aside0.mk (below_drew1 HB.out)
        clear BK260
        clear HB
        have BK260 := n0_
        have HB := n1_
        clear n0_ n1_
        refine start_ (n := 8) (S := fun w' => w'.cell? ⟨gb260, 0, none⟩ = some (.int .i64 a1_0) ∧ w'.cell? ⟨gb260, 1, none⟩ = some (.int .i64 a1_1)) (ds := []) #[false, false, false, false, false, false, false, false] (by kernel_rfl) rfl rfl ⟨(blk_cell BK260.out 0).trans rfl, (blk_cell BK260.out 1).trans rfl⟩ (fun hHeld => ?_); refine with_tabW gristmilllaw04_FactSpans.tab11 gristmilllaw04_FactSpans.bits11 (fun HT_ HW_ => ?_)
        generalize wr.drew = w21 at BK260 HB hHeld ⊢
        refine pure_ (i := 0) (N := some 29) (v := ?_) (a' := ?_) #[true, false, false, false, false, false, false, false] rfl rfl (any_of HT_.out (by kernel_rfl)) (fun _ _ _ h => h) (Or.inl ⟨by rfl, ?_⟩) ?_ ?_
        rotate_left
        ·intro w'
         go_simp
         with_reducible rfl
        rotate_left
        ·simp only [Act.put, q1_, q2_, q3_, i64_w, i32_w]
         rfl
        refine pure_ (i := 3) (N := some 32) (v := ?_) (a' := ?_) #[true, false, false, true, false, false, false, false] rfl rfl (any_of HT_.out (by kernel_rfl)) (fun _ _ _ h => h) (Or.inl ⟨by rfl, ?_⟩) ?_ ?_
        rotate_left
        ·intro w'
         go_simp
         with_reducible rfl
        rotate_left
        ·simp only [Act.put, q1_, q2_, q3_, i64_w, i32_w]
         rfl
        refine take_ (i := 1) (N := some 30) (v := ?_) (a' := ?_) #[true, true, false, true, false, false, false, false] rfl rfl (take_ofW HT_.out HW_.out (by kernel_rfl)) (fun _ _ _ h => h) (Or.inl ⟨by rfl, ?_⟩) hHeld ?_ ?_
        rotate_left
        ·rintro w' ⟨s0, s1⟩
         go_simp
         with_reducible rfl
        rotate_left
        ·simp only [Act.put, q1_, q2_, q3_, i64_w, i32_w]
         rfl
        refine take_ (i := 4) (N := some 33) (v := ?_) (a' := ?_) #[true, true, false, true, true, false, false, false] rfl rfl (take_ofW HT_.out HW_.out (by kernel_rfl)) (fun _ _ _ h => h) (Or.inl ⟨by rfl, ?_⟩) hHeld ?_ ?_
        rotate_left
        ·rintro w' ⟨s0, s1⟩
         go_simp
         with_reducible rfl
        rotate_left
        ·simp only [Act.put, q1_, q2_, q3_, i64_w, i32_w]
         rfl
        refine one_ (i := 2) (N := some 31) #[true, true, true, true, true, false, false, false] rfl rfl (one_of HT_.out (by kernel_rfl)) (by decide) (fun K hK => ?_)
        refine goes_ Try.func19 (by kernel_rfl) rfl #[.slice A0 l0.length c0, .agg #[.int .i64 a1_0, .int .i64 a1_1]] (by rfl) rfl rfl (by (try simp only [List.map_toArray, List.map_cons, List.map_nil]); first | done | rfl | (simp only [List.length_drop, List.length_take]; rfl)) ?_
        with_reducible refine (fact_Within.calls _ _ l0 a1_0 a1_1 t263 _ ?side1 ?side2 A12.out).mono ?_
        (case side1 => repeat (first | exact (Kd.C_below HR0.out HB.out) | (with_reducible refine Kd.C_alloc ?_ _) | (with_reducible refine Kd.C_drewN ?_ _) | (with_reducible refine Kd.C_drew ?_)))
        (case side2 => exact HC0.out)
        rintro e w22 ⟨v264, rfl, ho0, hb⟩
        refine ⟨_, rfl, ?_⟩
        have n0_ := Aside0.mk (Kd.N_lower (Kd.N_mono (ok' := fun k_ => k_ ≠ gb260) (Kd.R_N (Kd.R_bound ho0)) (fun k_ hk_ => (Kd.freshB (g := gb260) (o := .cells #[.int .i64 a1_0, .int .i64 a1_1] 44 (0, 0)) (bk_ BK260.out) k_ hk_.2.1))) (below_size (bw_ HB.out)))
        have n1_ := Aside0.mk (blk_below (bk_ BK260.out) hb)
        have n2_ := Aside0.mk (below_step (bw_ HB.out) hb)
        clear BK260
        clear HB
        have HO265 := n0_
        have BK260 := n1_
        have HB := n2_
        clear n0_ n1_ n2_
        (try clear hb)
        (try clear hb2)
        (try clear hk)
        (try clear hi)
        (try clear ho0)
        refine hK.out _ _ ⟨(blk_cell BK260.out 0).trans rfl, (blk_cell BK260.out 1).trans rfl⟩ (fun hHeld => ?_)
        clear hK K
        refine norm_ (a' := ?_) ?_ ?_
        rotate_left
        ·show Act.put _ (some 31) _ = _
         simp only [Act.put, q1_, q2_, q3_, i64_w, i32_w]
         rfl
        refine one_ (i := 5) (N := some 34) #[true, true, true, true, true, true, false, false] rfl rfl (one_of HT_.out (by kernel_rfl)) (by decide) (fun K hK => ?_)
        refine goes_ Try.func20 (by kernel_rfl) rfl #[.slice A0 l0.length c0, .agg #[.int .i64 a1_0, .int .i64 a1_1], .bool true] (by rfl) rfl rfl (by (try simp only [List.map_toArray, List.map_cons, List.map_nil]); first | done | rfl | (simp only [List.length_drop, List.length_take]; rfl)) ?_
        with_reducible refine (gristmillref04_Within.calls k1 (fun k_ => k_ < w.heap.size) _ _ l0 a1_0 a1_1 true t266 _ ?side1 A13.out).mono ?_
        (case side1 => exact Kd.V_mk HC0.out (Kd.F_below (Kd.C_F k40_heap HR0.out) (bw_ HB.out)))
        rintro e w23 ⟨v267, rfl, ho0, hb⟩
        refine ⟨_, rfl, ?_⟩
        have n0_ := Aside0.mk (Kd.N_elder' (by (with_reducible repeat (first | apply Kd.N_alloc | apply Kd.N_drewN | apply Kd.N_drew)); exact HO265.out) (by first | exact Kd.N_base ho0 | exact Kd.R_base ho0 | exact Kd.S_base ho0) hb)
        have n1_ := Aside0.mk (Kd.N_lower (Kd.N_mono (ok' := fun k_ => some k_ ≠ (v264 : Value).ownBlock ∧ k_ ≠ gb260) ho0 (fun k_ hk_ => ⟨Or.elim hk_ (fun hs_ => fun e_ => Nat.not_le.2 hs_ (Kd.N_base HO265.out k_ e_.symm)) (fun hn_ => (Kd.fresh' (Kd.N_lt (by (with_reducible repeat (first | apply Kd.N_alloc | apply Kd.N_drewN | apply Kd.N_drew)); exact HO265.out)) k_ hn_)), Or.elim hk_ (fun hs_ => fun e_ => Nat.not_le.2 hs_ (by rw [e_]; exact GW260.out)) (fun hn_ => (Kd.freshB (g := gb260) (o := .cells #[.int .i64 a1_0, .int .i64 a1_1] 44 (0, 0)) (bk_ BK260.out) k_ hn_))⟩)) (below_size (bw_ HB.out)))
        have n2_ := Aside0.mk (blk_below (bk_ BK260.out) hb)
        have n3_ := Aside0.mk (below_step (bw_ HB.out) hb)
        clear HO265
        clear BK260
        clear HB
        have HO265 := n0_
        have HO268 := n1_
        have BK260 := n2_
        have HB := n3_
        clear n0_ n1_ n2_ n3_
        (try clear hb)
        (try clear hb2)
        (try clear hk)
        (try clear hi)
        (try clear ho0)
        obtain ⟨Ao24, co24, eo24⟩ := Kd.N_slice HO265.out
        (first | subst eo24 | (injection eo24 with f1_ f2_ f3_; have f4_ := f1_.symm; have f5_ := f3_.symm; clear f1_ f2_ f3_; subst f4_; subst f5_))
        obtain ⟨Ao25, co25, eo25⟩ := Kd.N_slice HO268.out
        (first | subst eo25 | (injection eo25 with f1_ f2_ f3_; have f4_ := f1_.symm; have f5_ := f3_.symm; clear f1_ f2_ f3_; subst f4_; subst f5_))
        refine hK.out _ _ ⟨(blk_cell BK260.out 0).trans rfl, (blk_cell BK260.out 1).trans rfl⟩ (fun hHeld => ?_)
        clear hK K
        refine norm_ (a' := ?_) ?_ ?_
        rotate_left
        ·show Act.put _ (some 34) _ = _
         simp only [Act.put, q1_, q2_, q3_, i64_w, i32_w]
         rfl
        refine one_ (i := 6) (N := some 35) #[true, true, true, true, true, true, true, false] rfl rfl (one_of HT_.out (by kernel_rfl)) (by decide) (fun K hK => ?_)
        refine goes_ Try.func18 (by kernel_rfl) rfl #[.slice Ao24 t263.length co24, .slice Ao25 t266.length co25] (by rfl) rfl rfl (by (try simp only [List.map_toArray, List.map_cons, List.map_nil]); first | done | rfl | (simp only [List.length_drop, List.length_take]; rfl)) ?_
        with_reducible refine (gristmillref04_Is.calls k1 _ _ t263 _ _ t266 true _ ?side1 ?side2 ?side3 ?side4 A14.out).mono ?_
        (case side1 => repeat (first | exact (Kd.N_reads' HO265.out).2.2 | (with_reducible refine Kd.C_alloc ?_ _) | (with_reducible refine Kd.C_drewN ?_ _) | (with_reducible refine Kd.C_drew ?_)))
        (case side2 => exact (Kd.N_reads' HO265.out).2.1)
        (case side3 => repeat (first | exact (Kd.N_reads' HO268.out).2.2 | (with_reducible refine Kd.C_alloc ?_ _) | (with_reducible refine Kd.C_drewN ?_ _) | (with_reducible refine Kd.C_drew ?_)))
        (case side4 => exact (Kd.N_reads' HO268.out).2.1)
        rintro e w26 ⟨rfl, hb⟩
        refine ⟨_, rfl, ?_⟩
        have n0_ := Aside0.mk (Kd.N_below (by (with_reducible repeat (first | apply Kd.N_alloc | apply Kd.N_drewN | apply Kd.N_drew)); exact HO265.out) hb)
        have n1_ := Aside0.mk (Kd.N_below (by (with_reducible repeat (first | apply Kd.N_alloc | apply Kd.N_drewN | apply Kd.N_drew)); exact HO268.out) hb)
        have n2_ := Aside0.mk (blk_below (bk_ BK260.out) hb)
        have n3_ := Aside0.mk (below_step (bw_ HB.out) hb)
        clear HO265
        clear HO268
        clear BK260
        clear HB
        have HO265 := n0_
        have HO268 := n1_
        have BK260 := n2_
        have HB := n3_
        clear n0_ n1_ n2_ n3_
        (try clear hb)
        (try clear hb2)
        (try clear hk)
        (try clear hi)
        refine hK.out _ _ ⟨(blk_cell BK260.out 0).trans rfl, (blk_cell BK260.out 1).trans rfl⟩ (fun hHeld => ?_)
        clear hK K
        refine norm_ (a' := ?_) ?_ ?_
        rotate_left
        ·show Act.put _ (some 35) _ = _
         simp only [Act.put, q1_, q2_, q3_, i64_w, i32_w]
         rfl
        refine pure_ (i := 7) (N := some 8) (v := ?_) (a' := ?_) #[true, true, true, true, true, true, true, true] rfl rfl (any_of HT_.out (by kernel_rfl)) (fun _ _ _ h => h) (Or.inl ⟨by rfl, ?_⟩) ?_ ?_
        rotate_left
        ·intro w'
         go_simp
         with_reducible rfl
        rotate_left
        ·simp only [Act.put, q1_, q2_, q3_, i64_w, i32_w]
         rfl
        refine done_ (done_of HT_.out (by kernel_rfl)) ?_
        try go_wp2
        have n0_ := Aside0.mk (Kd.N_drew HO265.out)
        have n1_ := Aside0.mk (Kd.N_drew HO268.out)
        have n2_ := Aside0.mk (blk_drew BK260.out)
        have n3_ := Aside0.mk (below_drew1 HB.out)
        clear HO265
        clear HO268
        clear BK260
        clear HB
        have HO265 := n0_
        have HO268 := n1_
        have BK260 := n2_
        have HB := n3_
        clear n0_ n1_ n2_ n3_
        refine start_ (n := 8) (S := fun w' => w'.cell? ⟨gb260, 0, none⟩ = some (.int .i64 a1_0) ∧ w'.cell? ⟨gb260, 1, none⟩ = some (.int .i64 a1_1)) (ds := []) #[false, false, false, false, false, false, false, false] (by kernel_rfl) rfl rfl ⟨(blk_cell BK260.out 0).trans rfl, (blk_cell BK260.out 1).trans rfl⟩ (fun hHeld => ?_); refine with_tabW gristmilllaw04_FactSpans.tab12 gristmilllaw04_FactSpans.bits12 (fun HT_ HW_ => ?_)
        generalize w26.drew = w27 at HO265 HO268 BK260 HB hHeld ⊢
        refine pure_ (i := 0) (N := some 36) (v := ?_) (a' := ?_) #[true, false, false, false, false, false, false, false] rfl rfl (any_of HT_.out (by kernel_rfl)) (fun _ _ _ h => h) (Or.inl ⟨by rfl, ?_⟩) ?_ ?_
        rotate_left
        ·intro w'
         go_simp
         with_reducible rfl
        rotate_left
        ·simp only [Act.put, q1_, q2_, q3_, i64_w, i32_w]
         rfl
        refine pure_ (i := 3) (N := some 39) (v := ?_) (a' := ?_) #[true, false, false, true, false, false, false, false] rfl rfl (any_of HT_.out (by kernel_rfl)) (fun _ _ _ h => h) (Or.inl ⟨by rfl, ?_⟩) ?_ ?_
        rotate_left
        ·intro w'
         go_simp
         with_reducible rfl
        rotate_left
        ·simp only [Act.put, q1_, q2_, q3_, i64_w, i32_w]
         rfl
        refine take_ (i := 1) (N := some 37) (v := ?_) (a' := ?_) #[true, true, false, true, false, false, false, false] rfl rfl (take_ofW HT_.out HW_.out (by kernel_rfl)) (fun _ _ _ h => h) (Or.inl ⟨by rfl, ?_⟩) hHeld ?_ ?_
        rotate_left
        ·rintro w' ⟨s0, s1⟩
         go_simp
         with_reducible rfl
        rotate_left
        ·simp only [Act.put, q1_, q2_, q3_, i64_w, i32_w]
         rfl
        refine take_ (i := 4) (N := some 40) (v := ?_) (a' := ?_) #[true, true, false, true, true, false, false, false] rfl rfl (take_ofW HT_.out HW_.out (by kernel_rfl)) (fun _ _ _ h => h) (Or.inl ⟨by rfl, ?_⟩) hHeld ?_ ?_
        rotate_left
        ·rintro w' ⟨s0, s1⟩
         go_simp
         with_reducible rfl
        rotate_left
        ·simp only [Act.put, q1_, q2_, q3_, i64_w, i32_w]
         rfl
        refine one_ (i := 2) (N := some 38) #[true, true, true, true, true, false, false, false] rfl rfl (one_of HT_.out (by kernel_rfl)) (by decide) (fun K hK => ?_)
        refine goes_ Try.func21 (by kernel_rfl) rfl #[.slice A0 l0.length c0, .agg #[.int .i64 a1_0, .int .i64 a1_1]] (by rfl) rfl rfl (by (try simp only [List.map_toArray, List.map_cons, List.map_nil]); first | done | rfl | (simp only [List.length_drop, List.length_take]; rfl)) ?_
        with_reducible refine (fact_Without.calls _ _ l0 a1_0 a1_1 t270 _ ?side1 ?side2 A15.out).mono ?_
        (case side1 => repeat (first | exact (Kd.C_below HR0.out HB.out) | (with_reducible refine Kd.C_alloc ?_ _) | (with_reducible refine Kd.C_drewN ?_ _) | (with_reducible refine Kd.C_drew ?_)))
        (case side2 => exact HC0.out)
        rintro e w28 ⟨v271, rfl, ho0, hb⟩
        refine ⟨_, rfl, ?_⟩
        have n0_ := Aside0.mk (Kd.N_elder' (by (with_reducible repeat (first | apply Kd.N_alloc | apply Kd.N_drewN | apply Kd.N_drew)); exact HO265.out) (by first | exact Kd.N_base ho0 | exact Kd.R_base ho0 | exact Kd.S_base ho0) hb)
        have n1_ := Aside0.mk (Kd.N_elder' (by (with_reducible repeat (first | apply Kd.N_alloc | apply Kd.N_drewN | apply Kd.N_drew)); exact HO268.out) (by first | exact Kd.N_base ho0 | exact Kd.R_base ho0 | exact Kd.S_base ho0) hb)
        have n2_ := Aside0.mk (Kd.N_lower (Kd.N_mono (ok' := fun k_ => some k_ ≠ (.slice Ao24 t263.length co24 : Value).ownBlock ∧ some k_ ≠ (.slice Ao25 t266.length co25 : Value).ownBlock ∧ k_ ≠ gb260) (Kd.R_N (Kd.R_bound ho0)) (fun k_ hk_ => ⟨(Kd.fresh' (Kd.N_lt (by (with_reducible repeat (first | apply Kd.N_alloc | apply Kd.N_drewN | apply Kd.N_drew)); exact HO265.out)) k_ hk_.2.1), (Kd.fresh' (Kd.N_lt (by (with_reducible repeat (first | apply Kd.N_alloc | apply Kd.N_drewN | apply Kd.N_drew)); exact HO268.out)) k_ hk_.2.1), (Kd.freshB (g := gb260) (o := .cells #[.int .i64 a1_0, .int .i64 a1_1] 44 (0, 0)) (bk_ BK260.out) k_ hk_.2.1)⟩)) (below_size (bw_ HB.out)))
        have n3_ := Aside0.mk (blk_below (bk_ BK260.out) hb)
        have n4_ := Aside0.mk (below_step (bw_ HB.out) hb)
        clear HO265
        clear HO268
        clear BK260
        clear HB
        have HO265 := n0_
        have HO268 := n1_
        have HO272 := n2_
        have BK260 := n3_
        have HB := n4_
        clear n0_ n1_ n2_ n3_ n4_
        (try clear hb)
        (try clear hb2)
        (try clear hk)
        (try clear hi)
        (try clear ho0)
        refine hK.out _ _ ⟨(blk_cell BK260.out 0).trans rfl, (blk_cell BK260.out 1).trans rfl⟩ (fun hHeld => ?_)
        clear hK K
        refine norm_ (a' := ?_) ?_ ?_
        rotate_left
        ·show Act.put _ (some 38) _ = _
         simp only [Act.put, q1_, q2_, q3_, i64_w, i32_w]
         rfl
        refine one_ (i := 5) (N := some 41) #[true, true, true, true, true, true, false, false] rfl rfl (one_of HT_.out (by kernel_rfl)) (by decide) (fun K hK => ?_)
        refine goes_ Try.func20 (by kernel_rfl) rfl #[.slice A0 l0.length c0, .agg #[.int .i64 a1_0, .int .i64 a1_1], .bool false] (by rfl) rfl rfl (by (try simp only [List.map_toArray, List.map_cons, List.map_nil]); first | done | rfl | (simp only [List.length_drop, List.length_take]; rfl)) ?_
        with_reducible refine (gristmillref04_Within.calls k1 (fun k_ => k_ < w.heap.size) _ _ l0 a1_0 a1_1 false t273 _ ?side1 A16.out).mono ?_
        (case side1 => exact Kd.V_mk HC0.out (Kd.F_below (Kd.C_F k40_heap HR0.out) (bw_ HB.out)))
        rintro e w29 ⟨v274, rfl, ho0, hb⟩
        refine ⟨_, rfl, ?_⟩
        have n0_ := Aside0.mk (Kd.N_elder' (by (with_reducible repeat (first | apply Kd.N_alloc | apply Kd.N_drewN | apply Kd.N_drew)); exact HO265.out) (by first | exact Kd.N_base ho0 | exact Kd.R_base ho0 | exact Kd.S_base ho0) hb)
        have n1_ := Aside0.mk (Kd.N_elder' (by (with_reducible repeat (first | apply Kd.N_alloc | apply Kd.N_drewN | apply Kd.N_drew)); exact HO268.out) (by first | exact Kd.N_base ho0 | exact Kd.R_base ho0 | exact Kd.S_base ho0) hb)
        have n2_ := Aside0.mk (Kd.N_elder' (by (with_reducible repeat (first | apply Kd.N_alloc | apply Kd.N_drewN | apply Kd.N_drew)); exact HO272.out) (by first | exact Kd.N_base ho0 | exact Kd.R_base ho0 | exact Kd.S_base ho0) hb)
        have n3_ := Aside0.mk (Kd.N_lower (Kd.N_mono (ok' := fun k_ => some k_ ≠ (.slice Ao24 t263.length co24 : Value).ownBlock ∧ some k_ ≠ (.slice Ao25 t266.length co25 : Value).ownBlock ∧ some k_ ≠ (v271 : Value).ownBlock ∧ k_ ≠ gb260) ho0 (fun k_ hk_ => ⟨Or.elim hk_ (fun hs_ => fun e_ => Nat.not_le.2 hs_ (Kd.N_base HO265.out k_ e_.symm)) (fun hn_ => (Kd.fresh' (Kd.N_lt (by (with_reducible repeat (first | apply Kd.N_alloc | apply Kd.N_drewN | apply Kd.N_drew)); exact HO265.out)) k_ hn_)), Or.elim hk_ (fun hs_ => fun e_ => Nat.not_le.2 hs_ (Kd.N_base HO268.out k_ e_.symm)) (fun hn_ => (Kd.fresh' (Kd.N_lt (by (with_reducible repeat (first | apply Kd.N_alloc | apply Kd.N_drewN | apply Kd.N_drew)); exact HO268.out)) k_ hn_)), Or.elim hk_ (fun hs_ => fun e_ => Nat.not_le.2 hs_ (Kd.N_base HO272.out k_ e_.symm)) (fun hn_ => (Kd.fresh' (Kd.N_lt (by (with_reducible repeat (first | apply Kd.N_alloc | apply Kd.N_drewN | apply Kd.N_drew)); exact HO272.out)) k_ hn_)), Or.elim hk_ (fun hs_ => fun e_ => Nat.not_le.2 hs_ (by rw [e_]; exact GW260.out)) (fun hn_ => (Kd.freshB (g := gb260) (o := .cells #[.int .i64 a1_0, .int .i64 a1_1] 44 (0, 0)) (bk_ BK260.out) k_ hn_))⟩)) (below_size (bw_ HB.out)))
        have n4_ := Aside0.mk (blk_below (bk_ BK260.out) hb)
        have n5_ := Aside0.mk (below_step (bw_ HB.out) hb)
        clear HO265
        clear HO268
        clear HO272
        clear BK260
        clear HB
        have HO265 := n0_
        have HO268 := n1_
        have HO272 := n2_
        have HO275 := n3_
        have BK260 := n4_
        have HB := n5_
        clear n0_ n1_ n2_ n3_ n4_ n5_
        (try clear hb)
        (try clear hb2)
        (try clear hk)
        (try clear hi)
        (try clear ho0)
        obtain ⟨Ao30, co30, eo30⟩ := Kd.N_slice HO272.out
        (first | subst eo30 | (injection eo30 with f1_ f2_ f3_; have f4_ := f1_.symm; have f5_ := f3_.symm; clear f1_ f2_ f3_; subst f4_; subst f5_))
        obtain ⟨Ao31, co31, eo31⟩ := Kd.N_slice HO275.out
        (first | subst eo31 | (injection eo31 with f1_ f2_ f3_; have f4_ := f1_.symm; have f5_ := f3_.symm; clear f1_ f2_ f3_; subst f4_; subst f5_))
        refine hK.out _ _ ⟨(blk_cell BK260.out 0).trans rfl, (blk_cell BK260.out 1).trans rfl⟩ (fun hHeld => ?_)
        clear hK K
        refine norm_ (a' := ?_) ?_ ?_
        rotate_left
        ·show Act.put _ (some 41) _ = _
         simp only [Act.put, q1_, q2_, q3_, i64_w, i32_w]
         rfl
        refine one_ (i := 6) (N := some 42) #[true, true, true, true, true, true, true, false] rfl rfl (one_of HT_.out (by kernel_rfl)) (by decide) (fun K hK => ?_)
        refine goes_ Try.func18 (by kernel_rfl) rfl #[.slice Ao30 t270.length co30, .slice Ao31 t273.length co31] (by rfl) rfl rfl (by (try simp only [List.map_toArray, List.map_cons, List.map_nil]); first | done | rfl | (simp only [List.length_drop, List.length_take]; rfl)) ?_
        with_reducible refine (gristmillref04_Is.calls k1 _ _ t270 _ _ t273 true _ ?side1 ?side2 ?side3 ?side4 A17.out).mono ?_
        (case side1 => repeat (first | exact (Kd.N_reads' HO272.out).2.2 | (with_reducible refine Kd.C_alloc ?_ _) | (with_reducible refine Kd.C_drewN ?_ _) | (with_reducible refine Kd.C_drew ?_)))
        (case side2 => exact (Kd.N_reads' HO272.out).2.1)
        (case side3 => repeat (first | exact (Kd.N_reads' HO275.out).2.2 | (with_reducible refine Kd.C_alloc ?_ _) | (with_reducible refine Kd.C_drewN ?_ _) | (with_reducible refine Kd.C_drew ?_)))
        (case side4 => exact (Kd.N_reads' HO275.out).2.1)
        rintro e w32 ⟨rfl, hb⟩
        refine ⟨_, rfl, ?_⟩
        have n0_ := Aside0.mk (Kd.N_below (by (with_reducible repeat (first | apply Kd.N_alloc | apply Kd.N_drewN | apply Kd.N_drew)); exact HO265.out) hb)
        have n1_ := Aside0.mk (Kd.N_below (by (with_reducible repeat (first | apply Kd.N_alloc | apply Kd.N_drewN | apply Kd.N_drew)); exact HO268.out) hb)
        have n2_ := Aside0.mk (Kd.N_below (by (with_reducible repeat (first | apply Kd.N_alloc | apply Kd.N_drewN | apply Kd.N_drew)); exact HO272.out) hb)
        have n3_ := Aside0.mk (Kd.N_below (by (with_reducible repeat (first | apply Kd.N_alloc | apply Kd.N_drewN | apply Kd.N_drew)); exact HO275.out) hb)
        have n4_ := Aside0.mk (blk_below (bk_ BK260.out) hb)
        have n5_ := Aside0.mk (below_step (bw_ HB.out) hb)
        clear HO265
        clear HO268
        clear HO272
        clear HO275
        clear BK260
        clear HB
        have HO265 := n0_
        have HO268 := n1_
        have HO272 := n2_
        have HO275 := n3_
        have BK260 := n4_
        have HB := n5_
        clear n0_ n1_ n2_ n3_ n4_ n5_
        (try clear hb)
        (try clear hb2)
        (try clear hk)
        (try clear hi)
        refine hK.out _ _ ⟨(blk_cell BK260.out 0).trans rfl, (blk_cell BK260.out 1).trans rfl⟩ (fun hHeld => ?_)
        clear hK K
        refine norm_ (a' := ?_) ?_ ?_
        rotate_left
        ·show Act.put _ (some 42) _ = _
         simp only [Act.put, q1_, q2_, q3_, i64_w, i32_w]
         rfl
        refine pure_ (i := 7) (N := some 9) (v := ?_) (a' := ?_) #[true, true, true, true, true, true, true, true] rfl rfl (any_of HT_.out (by kernel_rfl)) (fun _ _ _ h => h) (Or.inl ⟨by rfl, ?_⟩) ?_ ?_
        rotate_left
        ·intro w'
         go_simp
         with_reducible rfl
        rotate_left
        ·simp only [Act.put, q1_, q2_, q3_, i64_w, i32_w]
         rfl
        refine done_ (done_of HT_.out (by kernel_rfl)) ?_
        try go_wp2_with (first | (go_at_call 17; (with_reducible refine (fact_Count.calls k1 _ _ l0 t277 _ ?side1 ?side2 A20.out).mono ?_); (case side1 => repeat (first | exact (Kd.C_below HR0.out HB.out) | (with_reducible refine Kd.C_alloc ?_ _) | (with_reducible refine Kd.C_drewN ?_ _) | (with_reducible refine Kd.C_drew ?_))); (case side2 => exact HC0.out); rintro e w33 ⟨rfl, hb⟩; have n0_ := Aside0.mk (Kd.N_below (by (with_reducible repeat (first | apply Kd.N_alloc | apply Kd.N_drewN | apply Kd.N_drew)); exact HO265.out) hb); have n1_ := Aside0.mk (Kd.N_below (by (with_reducible repeat (first | apply Kd.N_alloc | apply Kd.N_drewN | apply Kd.N_drew)); exact HO268.out) hb); have n2_ := Aside0.mk (Kd.N_below (by (with_reducible repeat (first | apply Kd.N_alloc | apply Kd.N_drewN | apply Kd.N_drew)); exact HO272.out) hb); have n3_ := Aside0.mk (Kd.N_below (by (with_reducible repeat (first | apply Kd.N_alloc | apply Kd.N_drewN | apply Kd.N_drew)); exact HO275.out) hb); have n4_ := Aside0.mk (blk_below (bk_ BK260.out) hb); have n5_ := Aside0.mk (below_step (bw_ HB.out) hb); clear HO265 HO268 HO272 HO275 BK260 HB; have HO265 := n0_; have HO268 := n1_; have HO272 := n2_; have HO275 := n3_; have BK260 := n4_; have HB := n5_; clear n0_ n1_ n2_ n3_ n4_ n5_; (try clear hb); (try clear hb2); (try clear hk); (try clear hi)))
        go_ret
        exact ⟨by first | rfl | (simp [errW_none, errW_some] <;> rfl) | (simp [*, errW_none, errW_some] <;> rfl), by repeat (first | (with_reducible first | exact HB.out | apply below_alloc | apply pw_below_drewN | apply below_drew1 | refine below_set ?_ GE260.out) | exact HB.out)⟩
       ·replace c19 := Bool.eq_false_iff.mpr c19
        subst c19
        have H1 : (some false) = some r := by rw [if_neg (show ¬ (false = true) by decide)] at H; exact H
        clear H
        have H := H1
        clear H1
        obtain rfl := Option.some.inj H
        try go_wp2
        have n0_ := Aside0.mk (blk_drew BK260.out)
        have n1_ := Aside0.mk (below_drew1 HB.out)
        clear BK260
        clear HB
        have BK260 := n0_
        have HB := n1_
        clear n0_ n1_
        refine start_ (n := 8) (S := fun w' => w'.cell? ⟨gb260, 0, none⟩ = some (.int .i64 a1_0) ∧ w'.cell? ⟨gb260, 1, none⟩ = some (.int .i64 a1_1)) (ds := []) #[false, false, false, false, false, false, false, false] (by kernel_rfl) rfl rfl ⟨(blk_cell BK260.out 0).trans rfl, (blk_cell BK260.out 1).trans rfl⟩ (fun hHeld => ?_); refine with_tabW gristmilllaw04_FactSpans.tab11 gristmilllaw04_FactSpans.bits11 (fun HT_ HW_ => ?_)
        generalize wr.drew = w34 at BK260 HB hHeld ⊢
        refine pure_ (i := 0) (N := some 29) (v := ?_) (a' := ?_) #[true, false, false, false, false, false, false, false] rfl rfl (any_of HT_.out (by kernel_rfl)) (fun _ _ _ h => h) (Or.inl ⟨by rfl, ?_⟩) ?_ ?_
        rotate_left
        ·intro w'
         go_simp
         with_reducible rfl
        rotate_left
        ·simp only [Act.put, q1_, q2_, q3_, i64_w, i32_w]
         rfl
        refine pure_ (i := 3) (N := some 32) (v := ?_) (a' := ?_) #[true, false, false, true, false, false, false, false] rfl rfl (any_of HT_.out (by kernel_rfl)) (fun _ _ _ h => h) (Or.inl ⟨by rfl, ?_⟩) ?_ ?_
        rotate_left
        ·intro w'
         go_simp
         with_reducible rfl
        rotate_left
        ·simp only [Act.put, q1_, q2_, q3_, i64_w, i32_w]
         rfl
        refine take_ (i := 1) (N := some 30) (v := ?_) (a' := ?_) #[true, true, false, true, false, false, false, false] rfl rfl (take_ofW HT_.out HW_.out (by kernel_rfl)) (fun _ _ _ h => h) (Or.inl ⟨by rfl, ?_⟩) hHeld ?_ ?_
        rotate_left
        ·rintro w' ⟨s0, s1⟩
         go_simp
         with_reducible rfl
        rotate_left
        ·simp only [Act.put, q1_, q2_, q3_, i64_w, i32_w]
         rfl
        refine take_ (i := 4) (N := some 33) (v := ?_) (a' := ?_) #[true, true, false, true, true, false, false, false] rfl rfl (take_ofW HT_.out HW_.out (by kernel_rfl)) (fun _ _ _ h => h) (Or.inl ⟨by rfl, ?_⟩) hHeld ?_ ?_
        rotate_left
        ·rintro w' ⟨s0, s1⟩
         go_simp
         with_reducible rfl
        rotate_left
        ·simp only [Act.put, q1_, q2_, q3_, i64_w, i32_w]
         rfl
        refine one_ (i := 2) (N := some 31) #[true, true, true, true, true, false, false, false] rfl rfl (one_of HT_.out (by kernel_rfl)) (by decide) (fun K hK => ?_)
        refine goes_ Try.func19 (by kernel_rfl) rfl #[.slice A0 l0.length c0, .agg #[.int .i64 a1_0, .int .i64 a1_1]] (by rfl) rfl rfl (by (try simp only [List.map_toArray, List.map_cons, List.map_nil]); first | done | rfl | (simp only [List.length_drop, List.length_take]; rfl)) ?_
        with_reducible refine (fact_Within.calls _ _ l0 a1_0 a1_1 t263 _ ?side1 ?side2 A12.out).mono ?_
        (case side1 => repeat (first | exact (Kd.C_below HR0.out HB.out) | (with_reducible refine Kd.C_alloc ?_ _) | (with_reducible refine Kd.C_drewN ?_ _) | (with_reducible refine Kd.C_drew ?_)))
        (case side2 => exact HC0.out)
        rintro e w35 ⟨v264, rfl, ho0, hb⟩
        refine ⟨_, rfl, ?_⟩
        have n0_ := Aside0.mk (Kd.N_lower (Kd.N_mono (ok' := fun k_ => k_ ≠ gb260) (Kd.R_N (Kd.R_bound ho0)) (fun k_ hk_ => (Kd.freshB (g := gb260) (o := .cells #[.int .i64 a1_0, .int .i64 a1_1] 44 (0, 0)) (bk_ BK260.out) k_ hk_.2.1))) (below_size (bw_ HB.out)))
        have n1_ := Aside0.mk (blk_below (bk_ BK260.out) hb)
        have n2_ := Aside0.mk (below_step (bw_ HB.out) hb)
        clear BK260
        clear HB
        have HO265 := n0_
        have BK260 := n1_
        have HB := n2_
        clear n0_ n1_ n2_
        (try clear hb)
        (try clear hb2)
        (try clear hk)
        (try clear hi)
        (try clear ho0)
        refine hK.out _ _ ⟨(blk_cell BK260.out 0).trans rfl, (blk_cell BK260.out 1).trans rfl⟩ (fun hHeld => ?_)
        clear hK K
        refine norm_ (a' := ?_) ?_ ?_
        rotate_left
        ·show Act.put _ (some 31) _ = _
         simp only [Act.put, q1_, q2_, q3_, i64_w, i32_w]
         rfl
        refine one_ (i := 5) (N := some 34) #[true, true, true, true, true, true, false, false] rfl rfl (one_of HT_.out (by kernel_rfl)) (by decide) (fun K hK => ?_)
        refine goes_ Try.func20 (by kernel_rfl) rfl #[.slice A0 l0.length c0, .agg #[.int .i64 a1_0, .int .i64 a1_1], .bool true] (by rfl) rfl rfl (by (try simp only [List.map_toArray, List.map_cons, List.map_nil]); first | done | rfl | (simp only [List.length_drop, List.length_take]; rfl)) ?_
        with_reducible refine (gristmillref04_Within.calls k1 (fun k_ => k_ < w.heap.size) _ _ l0 a1_0 a1_1 true t266 _ ?side1 A13.out).mono ?_
        (case side1 => exact Kd.V_mk HC0.out (Kd.F_below (Kd.C_F k40_heap HR0.out) (bw_ HB.out)))
        rintro e w36 ⟨v267, rfl, ho0, hb⟩
        refine ⟨_, rfl, ?_⟩
        have n0_ := Aside0.mk (Kd.N_elder' (by (with_reducible repeat (first | apply Kd.N_alloc | apply Kd.N_drewN | apply Kd.N_drew)); exact HO265.out) (by first | exact Kd.N_base ho0 | exact Kd.R_base ho0 | exact Kd.S_base ho0) hb)
        have n1_ := Aside0.mk (Kd.N_lower (Kd.N_mono (ok' := fun k_ => some k_ ≠ (v264 : Value).ownBlock ∧ k_ ≠ gb260) ho0 (fun k_ hk_ => ⟨Or.elim hk_ (fun hs_ => fun e_ => Nat.not_le.2 hs_ (Kd.N_base HO265.out k_ e_.symm)) (fun hn_ => (Kd.fresh' (Kd.N_lt (by (with_reducible repeat (first | apply Kd.N_alloc | apply Kd.N_drewN | apply Kd.N_drew)); exact HO265.out)) k_ hn_)), Or.elim hk_ (fun hs_ => fun e_ => Nat.not_le.2 hs_ (by rw [e_]; exact GW260.out)) (fun hn_ => (Kd.freshB (g := gb260) (o := .cells #[.int .i64 a1_0, .int .i64 a1_1] 44 (0, 0)) (bk_ BK260.out) k_ hn_))⟩)) (below_size (bw_ HB.out)))
        have n2_ := Aside0.mk (blk_below (bk_ BK260.out) hb)
        have n3_ := Aside0.mk (below_step (bw_ HB.out) hb)
        clear HO265
        clear BK260
        clear HB
        have HO265 := n0_
        have HO268 := n1_
        have BK260 := n2_
        have HB := n3_
        clear n0_ n1_ n2_ n3_
        (try clear hb)
        (try clear hb2)
        (try clear hk)
        (try clear hi)
        (try clear ho0)
        obtain ⟨Ao37, co37, eo37⟩ := Kd.N_slice HO265.out
        (first | subst eo37 | (injection eo37 with f1_ f2_ f3_; have f4_ := f1_.symm; have f5_ := f3_.symm; clear f1_ f2_ f3_; subst f4_; subst f5_))
        obtain ⟨Ao38, co38, eo38⟩ := Kd.N_slice HO268.out
        (first | subst eo38 | (injection eo38 with f1_ f2_ f3_; have f4_ := f1_.symm; have f5_ := f3_.symm; clear f1_ f2_ f3_; subst f4_; subst f5_))
        refine hK.out _ _ ⟨(blk_cell BK260.out 0).trans rfl, (blk_cell BK260.out 1).trans rfl⟩ (fun hHeld => ?_)
        clear hK K
        refine norm_ (a' := ?_) ?_ ?_
        rotate_left
        ·show Act.put _ (some 34) _ = _
         simp only [Act.put, q1_, q2_, q3_, i64_w, i32_w]
         rfl
        refine one_ (i := 6) (N := some 35) #[true, true, true, true, true, true, true, false] rfl rfl (one_of HT_.out (by kernel_rfl)) (by decide) (fun K hK => ?_)
        refine goes_ Try.func18 (by kernel_rfl) rfl #[.slice Ao37 t263.length co37, .slice Ao38 t266.length co38] (by rfl) rfl rfl (by (try simp only [List.map_toArray, List.map_cons, List.map_nil]); first | done | rfl | (simp only [List.length_drop, List.length_take]; rfl)) ?_
        with_reducible refine (gristmillref04_Is.calls k1 _ _ t263 _ _ t266 true _ ?side1 ?side2 ?side3 ?side4 A14.out).mono ?_
        (case side1 => repeat (first | exact (Kd.N_reads' HO265.out).2.2 | (with_reducible refine Kd.C_alloc ?_ _) | (with_reducible refine Kd.C_drewN ?_ _) | (with_reducible refine Kd.C_drew ?_)))
        (case side2 => exact (Kd.N_reads' HO265.out).2.1)
        (case side3 => repeat (first | exact (Kd.N_reads' HO268.out).2.2 | (with_reducible refine Kd.C_alloc ?_ _) | (with_reducible refine Kd.C_drewN ?_ _) | (with_reducible refine Kd.C_drew ?_)))
        (case side4 => exact (Kd.N_reads' HO268.out).2.1)
        rintro e w39 ⟨rfl, hb⟩
        refine ⟨_, rfl, ?_⟩
        have n0_ := Aside0.mk (Kd.N_below (by (with_reducible repeat (first | apply Kd.N_alloc | apply Kd.N_drewN | apply Kd.N_drew)); exact HO265.out) hb)
        have n1_ := Aside0.mk (Kd.N_below (by (with_reducible repeat (first | apply Kd.N_alloc | apply Kd.N_drewN | apply Kd.N_drew)); exact HO268.out) hb)
        have n2_ := Aside0.mk (blk_below (bk_ BK260.out) hb)
        have n3_ := Aside0.mk (below_step (bw_ HB.out) hb)
        clear HO265
        clear HO268
        clear BK260
        clear HB
        have HO265 := n0_
        have HO268 := n1_
        have BK260 := n2_
        have HB := n3_
        clear n0_ n1_ n2_ n3_
        (try clear hb)
        (try clear hb2)
        (try clear hk)
        (try clear hi)
        refine hK.out _ _ ⟨(blk_cell BK260.out 0).trans rfl, (blk_cell BK260.out 1).trans rfl⟩ (fun hHeld => ?_)
        clear hK K
        refine norm_ (a' := ?_) ?_ ?_
        rotate_left
        ·show Act.put _ (some 35) _ = _
         simp only [Act.put, q1_, q2_, q3_, i64_w, i32_w]
         rfl
        refine pure_ (i := 7) (N := some 8) (v := ?_) (a' := ?_) #[true, true, true, true, true, true, true, true] rfl rfl (any_of HT_.out (by kernel_rfl)) (fun _ _ _ h => h) (Or.inl ⟨by rfl, ?_⟩) ?_ ?_
        rotate_left
        ·intro w'
         go_simp
         with_reducible rfl
        rotate_left
        ·simp only [Act.put, q1_, q2_, q3_, i64_w, i32_w]
         rfl
        refine done_ (done_of HT_.out (by kernel_rfl)) ?_
        try go_wp2
        have n0_ := Aside0.mk (Kd.N_drew HO265.out)
        have n1_ := Aside0.mk (Kd.N_drew HO268.out)
        have n2_ := Aside0.mk (blk_drew BK260.out)
        have n3_ := Aside0.mk (below_drew1 HB.out)
        clear HO265
        clear HO268
        clear BK260
        clear HB
        have HO265 := n0_
        have HO268 := n1_
        have BK260 := n2_
        have HB := n3_
        clear n0_ n1_ n2_ n3_
        refine start_ (n := 8) (S := fun w' => w'.cell? ⟨gb260, 0, none⟩ = some (.int .i64 a1_0) ∧ w'.cell? ⟨gb260, 1, none⟩ = some (.int .i64 a1_1)) (ds := []) #[false, false, false, false, false, false, false, false] (by kernel_rfl) rfl rfl ⟨(blk_cell BK260.out 0).trans rfl, (blk_cell BK260.out 1).trans rfl⟩ (fun hHeld => ?_); refine with_tabW gristmilllaw04_FactSpans.tab12 gristmilllaw04_FactSpans.bits12 (fun HT_ HW_ => ?_)
        generalize w39.drew = w40 at HO265 HO268 BK260 HB hHeld ⊢
        refine pure_ (i := 0) (N := some 36) (v := ?_) (a' := ?_) #[true, false, false, false, false, false, false, false] rfl rfl (any_of HT_.out (by kernel_rfl)) (fun _ _ _ h => h) (Or.inl ⟨by rfl, ?_⟩) ?_ ?_
        rotate_left
        ·intro w'
         go_simp
         with_reducible rfl
        rotate_left
        ·simp only [Act.put, q1_, q2_, q3_, i64_w, i32_w]
         rfl
        refine pure_ (i := 3) (N := some 39) (v := ?_) (a' := ?_) #[true, false, false, true, false, false, false, false] rfl rfl (any_of HT_.out (by kernel_rfl)) (fun _ _ _ h => h) (Or.inl ⟨by rfl, ?_⟩) ?_ ?_
        rotate_left
        ·intro w'
         go_simp
         with_reducible rfl
        rotate_left
        ·simp only [Act.put, q1_, q2_, q3_, i64_w, i32_w]
         rfl
        refine take_ (i := 1) (N := some 37) (v := ?_) (a' := ?_) #[true, true, false, true, false, false, false, false] rfl rfl (take_ofW HT_.out HW_.out (by kernel_rfl)) (fun _ _ _ h => h) (Or.inl ⟨by rfl, ?_⟩) hHeld ?_ ?_
        rotate_left
        ·rintro w' ⟨s0, s1⟩
         go_simp
         with_reducible rfl
        rotate_left
        ·simp only [Act.put, q1_, q2_, q3_, i64_w, i32_w]
         rfl
        refine take_ (i := 4) (N := some 40) (v := ?_) (a' := ?_) #[true, true, false, true, true, false, false, false] rfl rfl (take_ofW HT_.out HW_.out (by kernel_rfl)) (fun _ _ _ h => h) (Or.inl ⟨by rfl, ?_⟩) hHeld ?_ ?_
        rotate_left
        ·rintro w' ⟨s0, s1⟩
         go_simp
         with_reducible rfl
        rotate_left
        ·simp only [Act.put, q1_, q2_, q3_, i64_w, i32_w]
         rfl
        refine one_ (i := 2) (N := some 38) #[true, true, true, true, true, false, false, false] rfl rfl (one_of HT_.out (by kernel_rfl)) (by decide) (fun K hK => ?_)
        refine goes_ Try.func21 (by kernel_rfl) rfl #[.slice A0 l0.length c0, .agg #[.int .i64 a1_0, .int .i64 a1_1]] (by rfl) rfl rfl (by (try simp only [List.map_toArray, List.map_cons, List.map_nil]); first | done | rfl | (simp only [List.length_drop, List.length_take]; rfl)) ?_
        with_reducible refine (fact_Without.calls _ _ l0 a1_0 a1_1 t270 _ ?side1 ?side2 A15.out).mono ?_
        (case side1 => repeat (first | exact (Kd.C_below HR0.out HB.out) | (with_reducible refine Kd.C_alloc ?_ _) | (with_reducible refine Kd.C_drewN ?_ _) | (with_reducible refine Kd.C_drew ?_)))
        (case side2 => exact HC0.out)
        rintro e w41 ⟨v271, rfl, ho0, hb⟩
        refine ⟨_, rfl, ?_⟩
        have n0_ := Aside0.mk (Kd.N_elder' (by (with_reducible repeat (first | apply Kd.N_alloc | apply Kd.N_drewN | apply Kd.N_drew)); exact HO265.out) (by first | exact Kd.N_base ho0 | exact Kd.R_base ho0 | exact Kd.S_base ho0) hb)
        have n1_ := Aside0.mk (Kd.N_elder' (by (with_reducible repeat (first | apply Kd.N_alloc | apply Kd.N_drewN | apply Kd.N_drew)); exact HO268.out) (by first | exact Kd.N_base ho0 | exact Kd.R_base ho0 | exact Kd.S_base ho0) hb)
        have n2_ := Aside0.mk (Kd.N_lower (Kd.N_mono (ok' := fun k_ => some k_ ≠ (.slice Ao37 t263.length co37 : Value).ownBlock ∧ some k_ ≠ (.slice Ao38 t266.length co38 : Value).ownBlock ∧ k_ ≠ gb260) (Kd.R_N (Kd.R_bound ho0)) (fun k_ hk_ => ⟨(Kd.fresh' (Kd.N_lt (by (with_reducible repeat (first | apply Kd.N_alloc | apply Kd.N_drewN | apply Kd.N_drew)); exact HO265.out)) k_ hk_.2.1), (Kd.fresh' (Kd.N_lt (by (with_reducible repeat (first | apply Kd.N_alloc | apply Kd.N_drewN | apply Kd.N_drew)); exact HO268.out)) k_ hk_.2.1), (Kd.freshB (g := gb260) (o := .cells #[.int .i64 a1_0, .int .i64 a1_1] 44 (0, 0)) (bk_ BK260.out) k_ hk_.2.1)⟩)) (below_size (bw_ HB.out)))
        have n3_ := Aside0.mk (blk_below (bk_ BK260.out) hb)
        have n4_ := Aside0.mk (below_step (bw_ HB.out) hb)
        clear HO265
        clear HO268
        clear BK260
        clear HB
        have HO265 := n0_
        have HO268 := n1_
        have HO272 := n2_
        have BK260 := n3_
        have HB := n4_
        clear n0_ n1_ n2_ n3_ n4_
        (try clear hb)
        (try clear hb2)
        (try clear hk)
        (try clear hi)
        (try clear ho0)
        refine hK.out _ _ ⟨(blk_cell BK260.out 0).trans rfl, (blk_cell BK260.out 1).trans rfl⟩ (fun hHeld => ?_)
        clear hK K
        refine norm_ (a' := ?_) ?_ ?_
        rotate_left
        ·show Act.put _ (some 38) _ = _
         simp only [Act.put, q1_, q2_, q3_, i64_w, i32_w]
         rfl
        refine one_ (i := 5) (N := some 41) #[true, true, true, true, true, true, false, false] rfl rfl (one_of HT_.out (by kernel_rfl)) (by decide) (fun K hK => ?_)
        refine goes_ Try.func20 (by kernel_rfl) rfl #[.slice A0 l0.length c0, .agg #[.int .i64 a1_0, .int .i64 a1_1], .bool false] (by rfl) rfl rfl (by (try simp only [List.map_toArray, List.map_cons, List.map_nil]); first | done | rfl | (simp only [List.length_drop, List.length_take]; rfl)) ?_
        with_reducible refine (gristmillref04_Within.calls k1 (fun k_ => k_ < w.heap.size) _ _ l0 a1_0 a1_1 false t273 _ ?side1 A16.out).mono ?_
        (case side1 => exact Kd.V_mk HC0.out (Kd.F_below (Kd.C_F k40_heap HR0.out) (bw_ HB.out)))
        rintro e w42 ⟨v274, rfl, ho0, hb⟩
        refine ⟨_, rfl, ?_⟩
        have n0_ := Aside0.mk (Kd.N_elder' (by (with_reducible repeat (first | apply Kd.N_alloc | apply Kd.N_drewN | apply Kd.N_drew)); exact HO265.out) (by first | exact Kd.N_base ho0 | exact Kd.R_base ho0 | exact Kd.S_base ho0) hb)
        have n1_ := Aside0.mk (Kd.N_elder' (by (with_reducible repeat (first | apply Kd.N_alloc | apply Kd.N_drewN | apply Kd.N_drew)); exact HO268.out) (by first | exact Kd.N_base ho0 | exact Kd.R_base ho0 | exact Kd.S_base ho0) hb)
        have n2_ := Aside0.mk (Kd.N_elder' (by (with_reducible repeat (first | apply Kd.N_alloc | apply Kd.N_drewN | apply Kd.N_drew)); exact HO272.out) (by first | exact Kd.N_base ho0 | exact Kd.R_base ho0 | exact Kd.S_base ho0) hb)
        have n3_ := Aside0.mk (Kd.N_lower (Kd.N_mono (ok' := fun k_ => some k_ ≠ (.slice Ao37 t263.length co37 : Value).ownBlock ∧ some k_ ≠ (.slice Ao38 t266.length co38 : Value).ownBlock ∧ some k_ ≠ (v271 : Value).ownBlock ∧ k_ ≠ gb260) ho0 (fun k_ hk_ => ⟨Or.elim hk_ (fun hs_ => fun e_ => Nat.not_le.2 hs_ (Kd.N_base HO265.out k_ e_.symm)) (fun hn_ => (Kd.fresh' (Kd.N_lt (by (with_reducible repeat (first | apply Kd.N_alloc | apply Kd.N_drewN | apply Kd.N_drew)); exact HO265.out)) k_ hn_)), Or.elim hk_ (fun hs_ => fun e_ => Nat.not_le.2 hs_ (Kd.N_base HO268.out k_ e_.symm)) (fun hn_ => (Kd.fresh' (Kd.N_lt (by (with_reducible repeat (first | apply Kd.N_alloc | apply Kd.N_drewN | apply Kd.N_drew)); exact HO268.out)) k_ hn_)), Or.elim hk_ (fun hs_ => fun e_ => Nat.not_le.2 hs_ (Kd.N_base HO272.out k_ e_.symm)) (fun hn_ => (Kd.fresh' (Kd.N_lt (by (with_reducible repeat (first | apply Kd.N_alloc | apply Kd.N_drewN | apply Kd.N_drew)); exact HO272.out)) k_ hn_)), Or.elim hk_ (fun hs_ => fun e_ => Nat.not_le.2 hs_ (by rw [e_]; exact GW260.out)) (fun hn_ => (Kd.freshB (g := gb260) (o := .cells #[.int .i64 a1_0, .int .i64 a1_1] 44 (0, 0)) (bk_ BK260.out) k_ hn_))⟩)) (below_size (bw_ HB.out)))
        have n4_ := Aside0.mk (blk_below (bk_ BK260.out) hb)
        have n5_ := Aside0.mk (below_step (bw_ HB.out) hb)
        clear HO265
        clear HO268
        clear HO272
        clear BK260
        clear HB
        have HO265 := n0_
        have HO268 := n1_
        have HO272 := n2_
        have HO275 := n3_
        have BK260 := n4_
        have HB := n5_
        clear n0_ n1_ n2_ n3_ n4_ n5_
        (try clear hb)
        (try clear hb2)
        (try clear hk)
        (try clear hi)
        (try clear ho0)
        obtain ⟨Ao43, co43, eo43⟩ := Kd.N_slice HO272.out
        (first | subst eo43 | (injection eo43 with f1_ f2_ f3_; have f4_ := f1_.symm; have f5_ := f3_.symm; clear f1_ f2_ f3_; subst f4_; subst f5_))
        obtain ⟨Ao44, co44, eo44⟩ := Kd.N_slice HO275.out
        (first | subst eo44 | (injection eo44 with f1_ f2_ f3_; have f4_ := f1_.symm; have f5_ := f3_.symm; clear f1_ f2_ f3_; subst f4_; subst f5_))
        refine hK.out _ _ ⟨(blk_cell BK260.out 0).trans rfl, (blk_cell BK260.out 1).trans rfl⟩ (fun hHeld => ?_)
        clear hK K
        refine norm_ (a' := ?_) ?_ ?_
        rotate_left
        ·show Act.put _ (some 41) _ = _
         simp only [Act.put, q1_, q2_, q3_, i64_w, i32_w]
         rfl
        refine one_ (i := 6) (N := some 42) #[true, true, true, true, true, true, true, false] rfl rfl (one_of HT_.out (by kernel_rfl)) (by decide) (fun K hK => ?_)
        refine goes_ Try.func18 (by kernel_rfl) rfl #[.slice Ao43 t270.length co43, .slice Ao44 t273.length co44] (by rfl) rfl rfl (by (try simp only [List.map_toArray, List.map_cons, List.map_nil]); first | done | rfl | (simp only [List.length_drop, List.length_take]; rfl)) ?_
        with_reducible refine (gristmillref04_Is.calls k1 _ _ t270 _ _ t273 false _ ?side1 ?side2 ?side3 ?side4 A17.out).mono ?_
        (case side1 => repeat (first | exact (Kd.N_reads' HO272.out).2.2 | (with_reducible refine Kd.C_alloc ?_ _) | (with_reducible refine Kd.C_drewN ?_ _) | (with_reducible refine Kd.C_drew ?_)))
        (case side2 => exact (Kd.N_reads' HO272.out).2.1)
        (case side3 => repeat (first | exact (Kd.N_reads' HO275.out).2.2 | (with_reducible refine Kd.C_alloc ?_ _) | (with_reducible refine Kd.C_drewN ?_ _) | (with_reducible refine Kd.C_drew ?_)))
        (case side4 => exact (Kd.N_reads' HO275.out).2.1)
        rintro e w45 ⟨rfl, hb⟩
        refine ⟨_, rfl, ?_⟩
        have n0_ := Aside0.mk (Kd.N_below (by (with_reducible repeat (first | apply Kd.N_alloc | apply Kd.N_drewN | apply Kd.N_drew)); exact HO265.out) hb)
        have n1_ := Aside0.mk (Kd.N_below (by (with_reducible repeat (first | apply Kd.N_alloc | apply Kd.N_drewN | apply Kd.N_drew)); exact HO268.out) hb)
        have n2_ := Aside0.mk (Kd.N_below (by (with_reducible repeat (first | apply Kd.N_alloc | apply Kd.N_drewN | apply Kd.N_drew)); exact HO272.out) hb)
        have n3_ := Aside0.mk (Kd.N_below (by (with_reducible repeat (first | apply Kd.N_alloc | apply Kd.N_drewN | apply Kd.N_drew)); exact HO275.out) hb)
        have n4_ := Aside0.mk (blk_below (bk_ BK260.out) hb)
        have n5_ := Aside0.mk (below_step (bw_ HB.out) hb)
        clear HO265
        clear HO268
        clear HO272
        clear HO275
        clear BK260
        clear HB
        have HO265 := n0_
        have HO268 := n1_
        have HO272 := n2_
        have HO275 := n3_
        have BK260 := n4_
        have HB := n5_
        clear n0_ n1_ n2_ n3_ n4_ n5_
        (try clear hb)
        (try clear hb2)
        (try clear hk)
        (try clear hi)
        refine hK.out _ _ ⟨(blk_cell BK260.out 0).trans rfl, (blk_cell BK260.out 1).trans rfl⟩ (fun hHeld => ?_)
        clear hK K
        refine norm_ (a' := ?_) ?_ ?_
        rotate_left
        ·show Act.put _ (some 42) _ = _
         simp only [Act.put, q1_, q2_, q3_, i64_w, i32_w]
         rfl
        refine pure_ (i := 7) (N := some 9) (v := ?_) (a' := ?_) #[true, true, true, true, true, true, true, true] rfl rfl (any_of HT_.out (by kernel_rfl)) (fun _ _ _ h => h) (Or.inl ⟨by rfl, ?_⟩) ?_ ?_
        rotate_left
        ·intro w'
         go_simp
         with_reducible rfl
        rotate_left
        ·simp only [Act.put, q1_, q2_, q3_, i64_w, i32_w]
         rfl
        refine done_ (done_of HT_.out (by kernel_rfl)) ?_
        try go_wp2
        go_ret
        exact ⟨by first | rfl | (simp [errW_none, errW_some] <;> rfl) | (simp [*, errW_none, errW_some] <;> rfl), by repeat (first | (with_reducible first | exact HB.out | apply below_alloc | apply pw_below_drewN | apply below_drew1 | refine below_set ?_ GE260.out) | exact HB.out)⟩
      ·replace c18 := Bool.eq_false_iff.mpr c18
       subst c18
       have H1 : (some false) = some r := by rw [if_neg (show ¬ (false = true) by decide)] at H; exact H
       clear H
       have H := H1
       clear H1
       obtain rfl := Option.some.inj H
       try go_wp2
       have n0_ := Aside0.mk (blk_drew BK260.out)
       have n1_ := Aside0.mk (below_drew1 HB.out)
       clear BK260
       clear HB
       have BK260 := n0_
       have HB := n1_
       clear n0_ n1_
       refine start_ (n := 8) (S := fun w' => w'.cell? ⟨gb260, 0, none⟩ = some (.int .i64 a1_0) ∧ w'.cell? ⟨gb260, 1, none⟩ = some (.int .i64 a1_1)) (ds := []) #[false, false, false, false, false, false, false, false] (by kernel_rfl) rfl rfl ⟨(blk_cell BK260.out 0).trans rfl, (blk_cell BK260.out 1).trans rfl⟩ (fun hHeld => ?_); refine with_tabW gristmilllaw04_FactSpans.tab11 gristmilllaw04_FactSpans.bits11 (fun HT_ HW_ => ?_)
       generalize wr.drew = w46 at BK260 HB hHeld ⊢
       refine pure_ (i := 0) (N := some 29) (v := ?_) (a' := ?_) #[true, false, false, false, false, false, false, false] rfl rfl (any_of HT_.out (by kernel_rfl)) (fun _ _ _ h => h) (Or.inl ⟨by rfl, ?_⟩) ?_ ?_
       rotate_left
       ·intro w'
        go_simp
        with_reducible rfl
       rotate_left
       ·simp only [Act.put, q1_, q2_, q3_, i64_w, i32_w]
        rfl
       refine pure_ (i := 3) (N := some 32) (v := ?_) (a' := ?_) #[true, false, false, true, false, false, false, false] rfl rfl (any_of HT_.out (by kernel_rfl)) (fun _ _ _ h => h) (Or.inl ⟨by rfl, ?_⟩) ?_ ?_
       rotate_left
       ·intro w'
        go_simp
        with_reducible rfl
       rotate_left
       ·simp only [Act.put, q1_, q2_, q3_, i64_w, i32_w]
        rfl
       refine take_ (i := 1) (N := some 30) (v := ?_) (a' := ?_) #[true, true, false, true, false, false, false, false] rfl rfl (take_ofW HT_.out HW_.out (by kernel_rfl)) (fun _ _ _ h => h) (Or.inl ⟨by rfl, ?_⟩) hHeld ?_ ?_
       rotate_left
       ·rintro w' ⟨s0, s1⟩
        go_simp
        with_reducible rfl
       rotate_left
       ·simp only [Act.put, q1_, q2_, q3_, i64_w, i32_w]
        rfl
       refine take_ (i := 4) (N := some 33) (v := ?_) (a' := ?_) #[true, true, false, true, true, false, false, false] rfl rfl (take_ofW HT_.out HW_.out (by kernel_rfl)) (fun _ _ _ h => h) (Or.inl ⟨by rfl, ?_⟩) hHeld ?_ ?_
       rotate_left
       ·rintro w' ⟨s0, s1⟩
        go_simp
        with_reducible rfl
       rotate_left
       ·simp only [Act.put, q1_, q2_, q3_, i64_w, i32_w]
        rfl
       refine one_ (i := 2) (N := some 31) #[true, true, true, true, true, false, false, false] rfl rfl (one_of HT_.out (by kernel_rfl)) (by decide) (fun K hK => ?_)
       refine goes_ Try.func19 (by kernel_rfl) rfl #[.slice A0 l0.length c0, .agg #[.int .i64 a1_0, .int .i64 a1_1]] (by rfl) rfl rfl (by (try simp only [List.map_toArray, List.map_cons, List.map_nil]); first | done | rfl | (simp only [List.length_drop, List.length_take]; rfl)) ?_
       with_reducible refine (fact_Within.calls _ _ l0 a1_0 a1_1 t263 _ ?side1 ?side2 A12.out).mono ?_
       (case side1 => repeat (first | exact (Kd.C_below HR0.out HB.out) | (with_reducible refine Kd.C_alloc ?_ _) | (with_reducible refine Kd.C_drewN ?_ _) | (with_reducible refine Kd.C_drew ?_)))
       (case side2 => exact HC0.out)
       rintro e w47 ⟨v264, rfl, ho0, hb⟩
       refine ⟨_, rfl, ?_⟩
       have n0_ := Aside0.mk (Kd.N_lower (Kd.N_mono (ok' := fun k_ => k_ ≠ gb260) (Kd.R_N (Kd.R_bound ho0)) (fun k_ hk_ => (Kd.freshB (g := gb260) (o := .cells #[.int .i64 a1_0, .int .i64 a1_1] 44 (0, 0)) (bk_ BK260.out) k_ hk_.2.1))) (below_size (bw_ HB.out)))
       have n1_ := Aside0.mk (blk_below (bk_ BK260.out) hb)
       have n2_ := Aside0.mk (below_step (bw_ HB.out) hb)
       clear BK260
       clear HB
       have HO265 := n0_
       have BK260 := n1_
       have HB := n2_
       clear n0_ n1_ n2_
       (try clear hb)
       (try clear hb2)
       (try clear hk)
       (try clear hi)
       (try clear ho0)
       refine hK.out _ _ ⟨(blk_cell BK260.out 0).trans rfl, (blk_cell BK260.out 1).trans rfl⟩ (fun hHeld => ?_)
       clear hK K
       refine norm_ (a' := ?_) ?_ ?_
       rotate_left
       ·show Act.put _ (some 31) _ = _
        simp only [Act.put, q1_, q2_, q3_, i64_w, i32_w]
        rfl
       refine one_ (i := 5) (N := some 34) #[true, true, true, true, true, true, false, false] rfl rfl (one_of HT_.out (by kernel_rfl)) (by decide) (fun K hK => ?_)
       refine goes_ Try.func20 (by kernel_rfl) rfl #[.slice A0 l0.length c0, .agg #[.int .i64 a1_0, .int .i64 a1_1], .bool true] (by rfl) rfl rfl (by (try simp only [List.map_toArray, List.map_cons, List.map_nil]); first | done | rfl | (simp only [List.length_drop, List.length_take]; rfl)) ?_
       with_reducible refine (gristmillref04_Within.calls k1 (fun k_ => k_ < w.heap.size) _ _ l0 a1_0 a1_1 true t266 _ ?side1 A13.out).mono ?_
       (case side1 => exact Kd.V_mk HC0.out (Kd.F_below (Kd.C_F k40_heap HR0.out) (bw_ HB.out)))
       rintro e w48 ⟨v267, rfl, ho0, hb⟩
       refine ⟨_, rfl, ?_⟩
       have n0_ := Aside0.mk (Kd.N_elder' (by (with_reducible repeat (first | apply Kd.N_alloc | apply Kd.N_drewN | apply Kd.N_drew)); exact HO265.out) (by first | exact Kd.N_base ho0 | exact Kd.R_base ho0 | exact Kd.S_base ho0) hb)
       have n1_ := Aside0.mk (Kd.N_lower (Kd.N_mono (ok' := fun k_ => some k_ ≠ (v264 : Value).ownBlock ∧ k_ ≠ gb260) ho0 (fun k_ hk_ => ⟨Or.elim hk_ (fun hs_ => fun e_ => Nat.not_le.2 hs_ (Kd.N_base HO265.out k_ e_.symm)) (fun hn_ => (Kd.fresh' (Kd.N_lt (by (with_reducible repeat (first | apply Kd.N_alloc | apply Kd.N_drewN | apply Kd.N_drew)); exact HO265.out)) k_ hn_)), Or.elim hk_ (fun hs_ => fun e_ => Nat.not_le.2 hs_ (by rw [e_]; exact GW260.out)) (fun hn_ => (Kd.freshB (g := gb260) (o := .cells #[.int .i64 a1_0, .int .i64 a1_1] 44 (0, 0)) (bk_ BK260.out) k_ hn_))⟩)) (below_size (bw_ HB.out)))
       have n2_ := Aside0.mk (blk_below (bk_ BK260.out) hb)
       have n3_ := Aside0.mk (below_step (bw_ HB.out) hb)
       clear HO265
       clear BK260
       clear HB
       have HO265 := n0_
       have HO268 := n1_
       have BK260 := n2_
       have HB := n3_
       clear n0_ n1_ n2_ n3_
       (try clear hb)
       (try clear hb2)
       (try clear hk)
       (try clear hi)
       (try clear ho0)
       obtain ⟨Ao49, co49, eo49⟩ := Kd.N_slice HO265.out
       (first | subst eo49 | (injection eo49 with f1_ f2_ f3_; have f4_ := f1_.symm; have f5_ := f3_.symm; clear f1_ f2_ f3_; subst f4_; subst f5_))
       obtain ⟨Ao50, co50, eo50⟩ := Kd.N_slice HO268.out
       (first | subst eo50 | (injection eo50 with f1_ f2_ f3_; have f4_ := f1_.symm; have f5_ := f3_.symm; clear f1_ f2_ f3_; subst f4_; subst f5_))
       refine hK.out _ _ ⟨(blk_cell BK260.out 0).trans rfl, (blk_cell BK260.out 1).trans rfl⟩ (fun hHeld => ?_)
       clear hK K
       refine norm_ (a' := ?_) ?_ ?_
       rotate_left
       ·show Act.put _ (some 34) _ = _
        simp only [Act.put, q1_, q2_, q3_, i64_w, i32_w]
        rfl
       refine one_ (i := 6) (N := some 35) #[true, true, true, true, true, true, true, false] rfl rfl (one_of HT_.out (by kernel_rfl)) (by decide) (fun K hK => ?_)
       refine goes_ Try.func18 (by kernel_rfl) rfl #[.slice Ao49 t263.length co49, .slice Ao50 t266.length co50] (by rfl) rfl rfl (by (try simp only [List.map_toArray, List.map_cons, List.map_nil]); first | done | rfl | (simp only [List.length_drop, List.length_take]; rfl)) ?_
       with_reducible refine (gristmillref04_Is.calls k1 _ _ t263 _ _ t266 false _ ?side1 ?side2 ?side3 ?side4 A14.out).mono ?_
       (case side1 => repeat (first | exact (Kd.N_reads' HO265.out).2.2 | (with_reducible refine Kd.C_alloc ?_ _) | (with_reducible refine Kd.C_drewN ?_ _) | (with_reducible refine Kd.C_drew ?_)))
       (case side2 => exact (Kd.N_reads' HO265.out).2.1)
       (case side3 => repeat (first | exact (Kd.N_reads' HO268.out).2.2 | (with_reducible refine Kd.C_alloc ?_ _) | (with_reducible refine Kd.C_drewN ?_ _) | (with_reducible refine Kd.C_drew ?_)))
       (case side4 => exact (Kd.N_reads' HO268.out).2.1)
       rintro e w51 ⟨rfl, hb⟩
       refine ⟨_, rfl, ?_⟩
       have n0_ := Aside0.mk (Kd.N_below (by (with_reducible repeat (first | apply Kd.N_alloc | apply Kd.N_drewN | apply Kd.N_drew)); exact HO265.out) hb)
       have n1_ := Aside0.mk (Kd.N_below (by (with_reducible repeat (first | apply Kd.N_alloc | apply Kd.N_drewN | apply Kd.N_drew)); exact HO268.out) hb)
       have n2_ := Aside0.mk (blk_below (bk_ BK260.out) hb)
       have n3_ := Aside0.mk (below_step (bw_ HB.out) hb)
       clear HO265
       clear HO268
       clear BK260
       clear HB
       have HO265 := n0_
       have HO268 := n1_
       have BK260 := n2_
       have HB := n3_
       clear n0_ n1_ n2_ n3_
       (try clear hb)
       (try clear hb2)
       (try clear hk)
       (try clear hi)
       refine hK.out _ _ ⟨(blk_cell BK260.out 0).trans rfl, (blk_cell BK260.out 1).trans rfl⟩ (fun hHeld => ?_)
       clear hK K
       refine norm_ (a' := ?_) ?_ ?_
       rotate_left
       ·show Act.put _ (some 35) _ = _
        simp only [Act.put, q1_, q2_, q3_, i64_w, i32_w]
        rfl
       refine pure_ (i := 7) (N := some 8) (v := ?_) (a' := ?_) #[true, true, true, true, true, true, true, true] rfl rfl (any_of HT_.out (by kernel_rfl)) (fun _ _ _ h => h) (Or.inl ⟨by rfl, ?_⟩) ?_ ?_
       rotate_left
       ·intro w'
        go_simp
        with_reducible rfl
       rotate_left
       ·simp only [Act.put, q1_, q2_, q3_, i64_w, i32_w]
        rfl
       refine done_ (done_of HT_.out (by kernel_rfl)) ?_
       try go_wp2
       have n0_ := Aside0.mk (Kd.N_drew HO265.out)
       have n1_ := Aside0.mk (Kd.N_drew HO268.out)
       have n2_ := Aside0.mk (blk_drew BK260.out)
       have n3_ := Aside0.mk (below_drew1 HB.out)
       clear HO265
       clear HO268
       clear BK260
       clear HB
       have HO265 := n0_
       have HO268 := n1_
       have BK260 := n2_
       have HB := n3_
       clear n0_ n1_ n2_ n3_
       refine start_ (n := 8) (S := fun w' => w'.cell? ⟨gb260, 0, none⟩ = some (.int .i64 a1_0) ∧ w'.cell? ⟨gb260, 1, none⟩ = some (.int .i64 a1_1)) (ds := []) #[false, false, false, false, false, false, false, false] (by kernel_rfl) rfl rfl ⟨(blk_cell BK260.out 0).trans rfl, (blk_cell BK260.out 1).trans rfl⟩ (fun hHeld => ?_); refine with_tabW gristmilllaw04_FactSpans.tab12 gristmilllaw04_FactSpans.bits12 (fun HT_ HW_ => ?_)
       generalize w51.drew = w52 at HO265 HO268 BK260 HB hHeld ⊢
       refine pure_ (i := 0) (N := some 36) (v := ?_) (a' := ?_) #[true, false, false, false, false, false, false, false] rfl rfl (any_of HT_.out (by kernel_rfl)) (fun _ _ _ h => h) (Or.inl ⟨by rfl, ?_⟩) ?_ ?_
       rotate_left
       ·intro w'
        go_simp
        with_reducible rfl
       rotate_left
       ·simp only [Act.put, q1_, q2_, q3_, i64_w, i32_w]
        rfl
       refine pure_ (i := 3) (N := some 39) (v := ?_) (a' := ?_) #[true, false, false, true, false, false, false, false] rfl rfl (any_of HT_.out (by kernel_rfl)) (fun _ _ _ h => h) (Or.inl ⟨by rfl, ?_⟩) ?_ ?_
       rotate_left
       ·intro w'
        go_simp
        with_reducible rfl
       rotate_left
       ·simp only [Act.put, q1_, q2_, q3_, i64_w, i32_w]
        rfl
       refine take_ (i := 1) (N := some 37) (v := ?_) (a' := ?_) #[true, true, false, true, false, false, false, false] rfl rfl (take_ofW HT_.out HW_.out (by kernel_rfl)) (fun _ _ _ h => h) (Or.inl ⟨by rfl, ?_⟩) hHeld ?_ ?_
       rotate_left
       ·rintro w' ⟨s0, s1⟩
        go_simp
        with_reducible rfl
       rotate_left
       ·simp only [Act.put, q1_, q2_, q3_, i64_w, i32_w]
        rfl
       refine take_ (i := 4) (N := some 40) (v := ?_) (a' := ?_) #[true, true, false, true, true, false, false, false] rfl rfl (take_ofW HT_.out HW_.out (by kernel_rfl)) (fun _ _ _ h => h) (Or.inl ⟨by rfl, ?_⟩) hHeld ?_ ?_
       rotate_left
       ·rintro w' ⟨s0, s1⟩
        go_simp
        with_reducible rfl
       rotate_left
       ·simp only [Act.put, q1_, q2_, q3_, i64_w, i32_w]
        rfl
       refine one_ (i := 2) (N := some 38) #[true, true, true, true, true, false, false, false] rfl rfl (one_of HT_.out (by kernel_rfl)) (by decide) (fun K hK => ?_)
       refine goes_ Try.func21 (by kernel_rfl) rfl #[.slice A0 l0.length c0, .agg #[.int .i64 a1_0, .int .i64 a1_1]] (by rfl) rfl rfl (by (try simp only [List.map_toArray, List.map_cons, List.map_nil]); first | done | rfl | (simp only [List.length_drop, List.length_take]; rfl)) ?_
       with_reducible refine (fact_Without.calls _ _ l0 a1_0 a1_1 t270 _ ?side1 ?side2 A15.out).mono ?_
       (case side1 => repeat (first | exact (Kd.C_below HR0.out HB.out) | (with_reducible refine Kd.C_alloc ?_ _) | (with_reducible refine Kd.C_drewN ?_ _) | (with_reducible refine Kd.C_drew ?_)))
       (case side2 => exact HC0.out)
       rintro e w53 ⟨v271, rfl, ho0, hb⟩
       refine ⟨_, rfl, ?_⟩
       have n0_ := Aside0.mk (Kd.N_elder' (by (with_reducible repeat (first | apply Kd.N_alloc | apply Kd.N_drewN | apply Kd.N_drew)); exact HO265.out) (by first | exact Kd.N_base ho0 | exact Kd.R_base ho0 | exact Kd.S_base ho0) hb)
       have n1_ := Aside0.mk (Kd.N_elder' (by (with_reducible repeat (first | apply Kd.N_alloc | apply Kd.N_drewN | apply Kd.N_drew)); exact HO268.out) (by first | exact Kd.N_base ho0 | exact Kd.R_base ho0 | exact Kd.S_base ho0) hb)
       have n2_ := Aside0.mk (Kd.N_lower (Kd.N_mono (ok' := fun k_ => some k_ ≠ (.slice Ao49 t263.length co49 : Value).ownBlock ∧ some k_ ≠ (.slice Ao50 t266.length co50 : Value).ownBlock ∧ k_ ≠ gb260) (Kd.R_N (Kd.R_bound ho0)) (fun k_ hk_ => ⟨(Kd.fresh' (Kd.N_lt (by (with_reducible repeat (first | apply Kd.N_alloc | apply Kd.N_drewN | apply Kd.N_drew)); exact HO265.out)) k_ hk_.2.1), (Kd.fresh' (Kd.N_lt (by (with_reducible repeat (first | apply Kd.N_alloc | apply Kd.N_drewN | apply Kd.N_drew)); exact HO268.out)) k_ hk_.2.1), (Kd.freshB (g := gb260) (o := .cells #[.int .i64 a1_0, .int .i64 a1_1] 44 (0, 0)) (bk_ BK260.out) k_ hk_.2.1)⟩)) (below_size (bw_ HB.out)))
       have n3_ := Aside0.mk (blk_below (bk_ BK260.out) hb)
       have n4_ := Aside0.mk (below_step (bw_ HB.out) hb)
       clear HO265
       clear HO268
       clear BK260
       clear HB
       have HO265 := n0_
       have HO268 := n1_
       have HO272 := n2_
       have BK260 := n3_
       have HB := n4_
       clear n0_ n1_ n2_ n3_ n4_
       (try clear hb)
       (try clear hb2)
       (try clear hk)
       (try clear hi)
       (try clear ho0)
       refine hK.out _ _ ⟨(blk_cell BK260.out 0).trans rfl, (blk_cell BK260.out 1).trans rfl⟩ (fun hHeld => ?_)
       clear hK K
       refine norm_ (a' := ?_) ?_ ?_
       rotate_left
       ·show Act.put _ (some 38) _ = _
        simp only [Act.put, q1_, q2_, q3_, i64_w, i32_w]
        rfl
       refine one_ (i := 5) (N := some 41) #[true, true, true, true, true, true, false, false] rfl rfl (one_of HT_.out (by kernel_rfl)) (by decide) (fun K hK => ?_)
       refine goes_ Try.func20 (by kernel_rfl) rfl #[.slice A0 l0.length c0, .agg #[.int .i64 a1_0, .int .i64 a1_1], .bool false] (by rfl) rfl rfl (by (try simp only [List.map_toArray, List.map_cons, List.map_nil]); first | done | rfl | (simp only [List.length_drop, List.length_take]; rfl)) ?_
       with_reducible refine (gristmillref04_Within.calls k1 (fun k_ => k_ < w.heap.size) _ _ l0 a1_0 a1_1 false t273 _ ?side1 A16.out).mono ?_
       (case side1 => exact Kd.V_mk HC0.out (Kd.F_below (Kd.C_F k40_heap HR0.out) (bw_ HB.out)))
       rintro e w54 ⟨v274, rfl, ho0, hb⟩
       refine ⟨_, rfl, ?_⟩
       have n0_ := Aside0.mk (Kd.N_elder' (by (with_reducible repeat (first | apply Kd.N_alloc | apply Kd.N_drewN | apply Kd.N_drew)); exact HO265.out) (by first | exact Kd.N_base ho0 | exact Kd.R_base ho0 | exact Kd.S_base ho0) hb)
       have n1_ := Aside0.mk (Kd.N_elder' (by (with_reducible repeat (first | apply Kd.N_alloc | apply Kd.N_drewN | apply Kd.N_drew)); exact HO268.out) (by first | exact Kd.N_base ho0 | exact Kd.R_base ho0 | exact Kd.S_base ho0) hb)
       have n2_ := Aside0.mk (Kd.N_elder' (by (with_reducible repeat (first | apply Kd.N_alloc | apply Kd.N_drewN | apply Kd.N_drew)); exact HO272.out) (by first | exact Kd.N_base ho0 | exact Kd.R_base ho0 | exact Kd.S_base ho0) hb)
       have n3_ := Aside0.mk (Kd.N_lower (Kd.N_mono (ok' := fun k_ => some k_ ≠ (.slice Ao49 t263.length co49 : Value).ownBlock ∧ some k_ ≠ (.slice Ao50 t266.length co50 : Value).ownBlock ∧ some k_ ≠ (v271 : Value).ownBlock ∧ k_ ≠ gb260) ho0 (fun k_ hk_ => ⟨Or.elim hk_ (fun hs_ => fun e_ => Nat.not_le.2 hs_ (Kd.N_base HO265.out k_ e_.symm)) (fun hn_ => (Kd.fresh' (Kd.N_lt (by (with_reducible repeat (first | apply Kd.N_alloc | apply Kd.N_drewN | apply Kd.N_drew)); exact HO265.out)) k_ hn_)), Or.elim hk_ (fun hs_ => fun e_ => Nat.not_le.2 hs_ (Kd.N_base HO268.out k_ e_.symm)) (fun hn_ => (Kd.fresh' (Kd.N_lt (by (with_reducible repeat (first | apply Kd.N_alloc | apply Kd.N_drewN | apply Kd.N_drew)); exact HO268.out)) k_ hn_)), Or.elim hk_ (fun hs_ => fun e_ => Nat.not_le.2 hs_ (Kd.N_base HO272.out k_ e_.symm)) (fun hn_ => (Kd.fresh' (Kd.N_lt (by (with_reducible repeat (first | apply Kd.N_alloc | apply Kd.N_drewN | apply Kd.N_drew)); exact HO272.out)) k_ hn_)), Or.elim hk_ (fun hs_ => fun e_ => Nat.not_le.2 hs_ (by rw [e_]; exact GW260.out)) (fun hn_ => (Kd.freshB (g := gb260) (o := .cells #[.int .i64 a1_0, .int .i64 a1_1] 44 (0, 0)) (bk_ BK260.out) k_ hn_))⟩)) (below_size (bw_ HB.out)))
       have n4_ := Aside0.mk (blk_below (bk_ BK260.out) hb)
       have n5_ := Aside0.mk (below_step (bw_ HB.out) hb)
       clear HO265
       clear HO268
       clear HO272
       clear BK260
       clear HB
       have HO265 := n0_
       have HO268 := n1_
       have HO272 := n2_
       have HO275 := n3_
       have BK260 := n4_
       have HB := n5_
       clear n0_ n1_ n2_ n3_ n4_ n5_
       (try clear hb)
       (try clear hb2)
       (try clear hk)
       (try clear hi)
       (try clear ho0)
       obtain ⟨Ao55, co55, eo55⟩ := Kd.N_slice HO272.out
       (first | subst eo55 | (injection eo55 with f1_ f2_ f3_; have f4_ := f1_.symm; have f5_ := f3_.symm; clear f1_ f2_ f3_; subst f4_; subst f5_))
       obtain ⟨Ao56, co56, eo56⟩ := Kd.N_slice HO275.out
       (first | subst eo56 | (injection eo56 with f1_ f2_ f3_; have f4_ := f1_.symm; have f5_ := f3_.symm; clear f1_ f2_ f3_; subst f4_; subst f5_))
       refine hK.out _ _ ⟨(blk_cell BK260.out 0).trans rfl, (blk_cell BK260.out 1).trans rfl⟩ (fun hHeld => ?_)
       clear hK K
       refine norm_ (a' := ?_) ?_ ?_
       rotate_left
       ·show Act.put _ (some 41) _ = _
        simp only [Act.put, q1_, q2_, q3_, i64_w, i32_w]
        rfl
       refine one_ (i := 6) (N := some 42) #[true, true, true, true, true, true, true, false] rfl rfl (one_of HT_.out (by kernel_rfl)) (by decide) (fun K hK => ?_)
       refine goes_ Try.func18 (by kernel_rfl) rfl #[.slice Ao55 t270.length co55, .slice Ao56 t273.length co56] (by rfl) rfl rfl (by (try simp only [List.map_toArray, List.map_cons, List.map_nil]); first | done | rfl | (simp only [List.length_drop, List.length_take]; rfl)) ?_
       with_reducible refine (gristmillref04_Is.calls k1 _ _ t270 _ _ t273 t276 _ ?side1 ?side2 ?side3 ?side4 A17.out).mono ?_
       (case side1 => repeat (first | exact (Kd.N_reads' HO272.out).2.2 | (with_reducible refine Kd.C_alloc ?_ _) | (with_reducible refine Kd.C_drewN ?_ _) | (with_reducible refine Kd.C_drew ?_)))
       (case side2 => exact (Kd.N_reads' HO272.out).2.1)
       (case side3 => repeat (first | exact (Kd.N_reads' HO275.out).2.2 | (with_reducible refine Kd.C_alloc ?_ _) | (with_reducible refine Kd.C_drewN ?_ _) | (with_reducible refine Kd.C_drew ?_)))
       (case side4 => exact (Kd.N_reads' HO275.out).2.1)
       rintro e w57 ⟨rfl, hb⟩
       refine ⟨_, rfl, ?_⟩
       have n0_ := Aside0.mk (Kd.N_below (by (with_reducible repeat (first | apply Kd.N_alloc | apply Kd.N_drewN | apply Kd.N_drew)); exact HO265.out) hb)
       have n1_ := Aside0.mk (Kd.N_below (by (with_reducible repeat (first | apply Kd.N_alloc | apply Kd.N_drewN | apply Kd.N_drew)); exact HO268.out) hb)
       have n2_ := Aside0.mk (Kd.N_below (by (with_reducible repeat (first | apply Kd.N_alloc | apply Kd.N_drewN | apply Kd.N_drew)); exact HO272.out) hb)
       have n3_ := Aside0.mk (Kd.N_below (by (with_reducible repeat (first | apply Kd.N_alloc | apply Kd.N_drewN | apply Kd.N_drew)); exact HO275.out) hb)
       have n4_ := Aside0.mk (blk_below (bk_ BK260.out) hb)
       have n5_ := Aside0.mk (below_step (bw_ HB.out) hb)
       clear HO265
       clear HO268
       clear HO272
       clear HO275
       clear BK260
       clear HB
       have HO265 := n0_
       have HO268 := n1_
       have HO272 := n2_
       have HO275 := n3_
       have BK260 := n4_
       have HB := n5_
       clear n0_ n1_ n2_ n3_ n4_ n5_
       (try clear hb)
       (try clear hb2)
       (try clear hk)
       (try clear hi)
       refine hK.out _ _ ⟨(blk_cell BK260.out 0).trans rfl, (blk_cell BK260.out 1).trans rfl⟩ (fun hHeld => ?_)
       clear hK K
       refine norm_ (a' := ?_) ?_ ?_
       rotate_left
       ·show Act.put _ (some 42) _ = _
        simp only [Act.put, q1_, q2_, q3_, i64_w, i32_w]
        rfl
       refine pure_ (i := 7) (N := some 9) (v := ?_) (a' := ?_) #[true, true, true, true, true, true, true, true] rfl rfl (any_of HT_.out (by kernel_rfl)) (fun _ _ _ h => h) (Or.inl ⟨by rfl, ?_⟩) ?_ ?_
       rotate_left
       ·intro w'
        go_simp
        with_reducible rfl
       rotate_left
       ·simp only [Act.put, q1_, q2_, q3_, i64_w, i32_w]
        rfl
       refine done_ (done_of HT_.out (by kernel_rfl)) ?_
       try go_wp2
       go_ret
       exact ⟨by first | rfl | (simp [errW_none, errW_some] <;> rfl) | (simp [*, errW_none, errW_some] <;> rfl), by repeat (first | (with_reducible first | exact HB.out | apply below_alloc | apply pw_below_drewN | apply below_drew1 | refine below_set ?_ GE260.out) | exact HB.out)⟩
 ·replace c4 := Bool.eq_false_iff.mpr c4
  subst c4
  have H1 : (some false) = some r := by rw [if_neg (show ¬ (false = true) by decide)] at H; exact H
  clear H
  have H := H1
  clear H1
  obtain rfl := Option.some.inj H
  go_enter Try.func5, Try.ntmps5
  go_wp2_with (first | ((with_reducible refine gate_dst (N := 3) rfl ?_); refine bx_ (N := 3) (cs := #[.int .i64 a1_0, .int .i64 a1_1]) (t := 44) ?_; intro gb260 hg w58 hbox hb; have n0_ := Aside0.mk (below_step (bw_ HB.out) hb); have n1_ := Aside0.mk (hbox); have n2_ := Aside0.mk (sz_ hg (bw_ HB.out)); have n3_ := n2_; clear HB; have HB := n0_; have BK260 := n1_; have GW260 := n2_; have GE260 := n3_; clear n0_ n1_ n2_ n3_; clear hb hbox hg) | ((with_reducible refine gate_callee (f := 9) rfl ?_); refine goesL_ (some 10) rfl rfl Try.func9 (by kernel_rfl) rfl #[] rfl (by (try simp only [List.map_toArray, List.map_cons, List.map_nil]); first | done | rfl | (simp only [List.length_drop, List.length_take]; rfl)) ?_; (with_reducible refine (gristmilllaw04_awake.calls  false _ A3.out).mono ?_); rintro e w59 ⟨rfl, hb⟩; refine ⟨_, rfl, ?_⟩; have n0_ := Aside0.mk (blk_below (bk_ BK260.out) hb); have n1_ := Aside0.mk (below_step (bw_ HB.out) hb); clear BK260 HB; have BK260 := n0_; have HB := n1_; clear n0_ n1_; (try clear hb); (try clear hb2); (try clear hk); (try clear hi)))
  go_ret
  exact ⟨by first | rfl | (simp [errW_none, errW_some] <;> rfl) | (simp [*, errW_none, errW_some] <;> rfl), by repeat (first | (with_reducible first | exact HB.out | apply below_alloc | apply pw_below_drewN | apply below_drew1 | refine below_set ?_ GE260.out) | exact HB.out)⟩
end Go.Proofs.Ytfeeahjaeapkoaa.P
end

section
namespace Go.Proofs.Ytfeeahjaeapkoaa.Ext
set_option linter.unusedVariables false
set_option linter.unusedSimpArgs false
open Go.RowKit Go.Proofs.YtfeeahjaeapkoaaW.PrintWords Go.Proofs.Ytfeeahjaeapkoaa.P
def sumM (b : List M) : Int := (b.map fun x => x.2).sum
theorem sumM_cons (x : M) (b : List M) : sumM (x :: b) = x.2 + sumM b := by unfold sumM; rw [List.map_cons, List.sum_cons]
theorem sumM_nil : sumM [] = 0 := rfl
theorem strict_bagOf (l : List M) : Strict (bagOf l) := List.Pairwise.filter _ (bagB_strict l [] List.Pairwise.nil)
theorem bagB_mem1 {l : List M} {y : M} (h : y ∈ bagB [] l) : ∃ z ∈ l, y.1 = z.1 := by
  rcases bagB_mem l [] y h with h | h | ⟨z, h, _⟩
  · simp at h
  · exact h
  · simp at h
theorem bagOf_mem {l : List M} {y : M} (h : y ∈ bagOf l) : ∃ z ∈ l, y.1 = z.1 := bagB_mem1 (List.mem_filter.1 h).1
theorem bagB_len : ∀ (l b : List M), (bagB b l).length ≤ b.length + l.length
  | [], b => Nat.le_refl _
  | x :: l, b => by
    have h1 := bagB_len l (putB b x.1 x.2)
    have h2 := putB_len b x.1 x.2
    have e : bagB b (x :: l) = bagB (putB b x.1 x.2) l := rfl
    rw [e, List.length_cons]
    omega
theorem bagOf_len (l : List M) : (bagOf l).length ≤ l.length := by
  have h1 := bagB_len l []
  have h2 := List.length_filter_le keepM (bagB [] l)
  unfold bagOf
  simp at h1
  omega
theorem rd40_s (b : List M) (j : Nat) (hj : j < b.length) : rd_T40 (b.map s40) (j : Int) = s40 b[j] := by
  unfold rd_T40
  rw [Int.toNat_natCast, List.getD_eq_getElem?_getD, List.getElem?_map, List.getElem?_eq_getElem hj]; rfl
theorem drop_sum (b : List M) (i : Nat) (h : i < b.length) : sumM (b.drop i) = b[i].2 + sumM (b.drop (i + 1)) := by
  rw [List.drop_eq_getElem_cons h, sumM_cons]
theorem count_loop (b : List M) (hl : b.length < 4611686018427387904) : ∀ (n i : Nat), i + n = b.length → ∀ (k : Nat) (s : Int), n + 1 ≤ k → 0 ≤ s → s < 18446744073709551616 → fact_Count.l0 k s (b.map s40) (b.length : Int) (i : Int) = some (W64 (s + sumM (b.drop i))) := by
  intro n
  induction n with
  | zero =>
    intro i hi k s hk h0 h1
    obtain ⟨k, rfl⟩ : ∃ k', k = k' + 1 := ⟨k - 1, by omega⟩
    rw [fact_Count.l0, if_neg (by omega), List.drop_of_length_le (by omega : b.length ≤ i), sumM_nil, Int.add_zero, W64_is]
    congr 1
    omega
  | succ n ih =>
    intro i hi k s hk h0 h1
    obtain ⟨k, rfl⟩ : ∃ k', k = k' + 1 := ⟨k - 1, by omega⟩
    have hil : i < b.length := by omega
    have e : wrap64 ((i : Int) + 1) = ((i + 1 : Nat) : Int) := by unfold wrap64; omega
    rw [fact_Count.l0, if_pos (by omega), if_pos (by omega), if_pos (by rw [List.length_map]; omega), rd40_s b i hil, e]
    have hw : IntKind.u64.wrap (s + (s40 b[i]).f1) = W64 (s + b[i].2) := rfl
    rw [hw, ih (i + 1) (by omega) k _ (by omega) (by rw [W64_is]; omega) (by rw [W64_is]; omega), drop_sum b i hil]
    congr 1
    simp only [W64_is]
    omega
theorem count_is (b : List M) (hl : b.length < 4611686018427387904) (k : Nat) (hk : b.length + 1 ≤ k) : fact_Count.f k (b.map s40) = some (W64 (sumM b)) := by
  unfold fact_Count.f
  have h := count_loop b hl b.length 0 (by omega) k 0 hk (Int.le_refl _) (by decide)
  rw [List.drop_zero, Int.zero_add] at h
  rw [List.length_map]
  exact h
end Go.Proofs.Ytfeeahjaeapkoaa.Ext
end

section
namespace Go.Proofs.Ytfeeahjaeapkoaa.Ext
set_option linter.unusedVariables false
set_option linter.unusedSimpArgs false
open Go.RowKit Go.Proofs.YtfeeahjaeapkoaaW.PrintWords Go.Proofs.Ytfeeahjaeapkoaa.P
def InR (l : List M) : Prop := ∀ x ∈ l, 0 ≤ x.2 ∧ x.2 < 18446744073709551616
def tot : List M → F → Int
  | [], _ => 0
  | x :: r, f => (if fC x.1 f = 0 then x.2 else 0) + tot r f
def val (b : List M) (f : F) : Int := (look b f).getD 0
theorem W64_range (n : Int) : 0 ≤ W64 n ∧ W64 n < 18446744073709551616 := by rw [W64_is]; omega
theorem W64_in {n : Int} (h : 0 ≤ n ∧ n < 18446744073709551616) : W64 n = n := by rw [W64_is]; omega
theorem InR.cons {x : M} {l : List M} (h : InR (x :: l)) : (0 ≤ x.2 ∧ x.2 < 18446744073709551616) ∧ InR l := ⟨h x (by simp), fun y hy => h y (by simp [hy])⟩
theorem look_mem : ∀ (b : List M) (f : F) (m : Int), look b f = some m → ∃ x ∈ b, x.2 = m
  | [], f, m, h => by cases h
  | (g, n) :: r, f, m, h => by
    rw [look] at h
    split at h
    · injection h with h; exact ⟨(g, n), by simp, h⟩
    · obtain ⟨x, hx, e⟩ := look_mem r f m h; exact ⟨x, by simp [hx], e⟩
theorem val_range {b : List M} (h : InR b) (f : F) : 0 ≤ val b f ∧ val b f < 18446744073709551616 := by
  unfold val
  cases e : look b f with
  | none => simp
  | some m =>
    obtain ⟨x, hx, rfl⟩ := look_mem b f m e
    exact h x hx
theorem InR.put : ∀ {b : List M} {f : F} {n : Int}, InR b → (0 ≤ n ∧ n < 18446744073709551616) → InR (putB b f n)
  | [], f, n, _, hn => by rw [putB]; intro x hx; rw [List.mem_singleton] at hx; subst hx; exact hn
  | (g, m) :: r, f, n, h, hn => by
    rw [putB]
    have hc := h.cons
    split
    · intro x hx
      rcases List.mem_cons.1 hx with rfl | hx
      · exact hc.1
      · exact InR.put hc.2 hn x hx
    · split
      · intro x hx
        rcases List.mem_cons.1 hx with rfl | hx
        · exact W64_range _
        · exact hc.2 x hx
      · intro x hx
        rcases List.mem_cons.1 hx with rfl | hx
        · exact hn
        · exact h x hx
theorem val_put {b : List M} (hs : Strict b) (hb : InR b) (g : F) (n : Int) (hn : 0 ≤ n ∧ n < 18446744073709551616) (f : F) : val (putB b g n) f = W64 (val b f + if fC g f = 0 then n else 0) := by
  have hv := val_range hb f
  unfold val at hv ⊢
  rw [look_put b g n f hs]
  by_cases e : f = g
  · subst e
    rw [if_pos rfl, if_pos (fC_self f)]
    cases look b f with
    | none => simp only [Option.getD_some, Option.getD_none, Int.zero_add]; exact (W64_in hn).symm
    | some m => rfl
  · rw [if_neg e, if_neg (fun h => e (fC_eq h).symm), Int.add_zero, W64_in hv]
theorem val_bag : ∀ (l b : List M), Strict b → InR b → InR l → InR (bagB b l) ∧ ∀ f, val (bagB b l) f = W64 (val b f + tot l f)
  | [], b, hs, hb, _ => ⟨hb, fun f => by rw [tot, Int.add_zero, W64_in (val_range hb f)]; rfl⟩
  | x :: l, b, hs, hb, hl => by
    have hc := hl.cons
    obtain ⟨h1, h2⟩ := val_bag l (putB b x.1 x.2) (strict_put _ _ _ hs) (hb.put hc.1) hc.2
    refine ⟨h1, fun f => ?_⟩
    have e : bagB b (x :: l) = bagB (putB b x.1 x.2) l := rfl
    rw [e, h2 f, val_put hs hb x.1 x.2 hc.1 f, tot]
    simp only [W64_is]
    omega
theorem look_keep : ∀ (b : List M) (f : F), Strict b → look (b.filter keepM) f = if val b f = 0 then none else some (val b f)
  | [], f, _ => rfl
  | (g, m) :: r, f, h => by
    have h' := List.pairwise_cons.1 h
    have ih := look_keep r f h'.2
    unfold val at ih ⊢
    rw [List.filter_cons]
    by_cases e : fC g f = 0
    · have e' := fC_eq e
      subst e'
      have hno : look (r.filter keepM) g = none := look_none _ _ (fun x hx hz => by
        have e2 := fC_eq hz
        have := h'.1 x (List.mem_filter.1 hx).1
        rw [e2, fC_self] at this
        cases this)
      by_cases hk : keepM (g, m) = true
      · have hm : m ≠ 0 := by unfold keepM at hk; simpa using hk
        rw [if_pos hk, look, look, if_pos e, if_pos e, Option.getD_some, if_neg hm]
      · have hm : m = 0 := by unfold keepM at hk; simpa using hk
        rw [if_neg hk, look, if_pos e, Option.getD_some, if_pos hm, hno]
    · by_cases hk : keepM (g, m) = true
      · rw [if_pos hk, look, look, if_neg e, if_neg e]; exact ih
      · rw [if_neg hk, look, if_neg e]; exact ih
theorem val_bagB {l : List M} (hl : InR l) (f : F) : val (bagB [] l) f = W64 (tot l f) := by
  have h := (val_bag l [] List.Pairwise.nil (fun x hx => by simp at hx) hl).2 f
  rw [h]
  show W64 (0 + tot l f) = _
  rw [Int.zero_add]
theorem look_bagOf {l : List M} (hl : InR l) (f : F) : look (bagOf l) f = if W64 (tot l f) = 0 then none else some (W64 (tot l f)) := by
  unfold bagOf
  rw [look_keep _ _ (bagB_strict l [] List.Pairwise.nil), val_bagB hl]
theorem InR.bagOf {l : List M} (hl : InR l) : InR (bagOf l) := fun x hx => (val_bag l [] List.Pairwise.nil (fun x hx => by simp at hx) hl).1 x (List.mem_filter.1 hx).1
theorem InR.append {a b : List M} (ha : InR a) (hb : InR b) : InR (a ++ b) := fun x hx => (List.mem_append.1 hx).elim (ha x) (hb x)
theorem InR.filter {a : List M} (ha : InR a) (p : M → Bool) : InR (a.filter p) := fun x hx => ha x (List.mem_filter.1 hx).1
theorem tot_filter (p : F → Bool) : ∀ (l : List M) (f : F), tot (l.filter fun x => p x.1) f = if p f = true then tot l f else 0
  | [], f => by rw [List.filter_nil, tot]; split <;> rfl
  | x :: l, f => by
    have ih := tot_filter p l f
    rw [List.filter_cons]
    by_cases e : fC x.1 f = 0
    · have e' := fC_eq e
      by_cases h : p f = true
      · rw [e', if_pos h, if_pos h, tot, tot, ih, if_pos h]
      · rw [e', if_neg h, if_neg h, ih, if_neg h]
    · by_cases h : p x.1 = true
      · rw [if_pos h, tot, ih, if_neg e, Int.zero_add]
        split
        · rw [tot, if_neg e, Int.zero_add]
        · rfl
      · rw [if_neg h, ih]
        split
        · rw [tot, if_neg e, Int.zero_add]
        · rfl
theorem look_filter (p : F → Bool) : ∀ (b : List M) (f : F), look (b.filter fun x => p x.1) f = if p f = true then look b f else none
  | [], f => by rw [List.filter_nil, look]; split <;> rfl
  | x :: l, f => by
    have ih := look_filter p l f
    rw [List.filter_cons]
    by_cases e : fC x.1 f = 0
    · have e' := fC_eq e
      by_cases h : p f = true
      · rw [e', if_pos h, if_pos h]
        show (if fC x.1 f = 0 then some x.2 else _) = (if fC x.1 f = 0 then some x.2 else _)
        rw [if_pos e, if_pos e]
      · rw [e', if_neg h, if_neg h, ih, if_neg h]
    · by_cases h : p x.1 = true
      · rw [if_pos h]
        show (if fC x.1 f = 0 then some x.2 else look (l.filter fun x => p x.1) f) = if p f = true then (if fC x.1 f = 0 then some x.2 else look l f) else none
        rw [if_neg e, if_neg e, ih]
      · rw [if_neg h, ih]
        show _ = if p f = true then (if fC x.1 f = 0 then some x.2 else look l f) else none
        rw [if_neg e]
theorem bagOf_filter {l : List M} (hl : InR l) (p : F → Bool) : bagOf (l.filter fun x => p x.1) = (bagOf l).filter fun x => p x.1 :=
  strict_ext _ _ (strict_bagOf _) (List.Pairwise.filter _ (strict_bagOf l)) (fun f => by
    rw [look_bagOf (hl.filter _), look_filter p, look_bagOf hl, tot_filter p]
    by_cases h : p f = true
    · rw [if_pos h, if_pos h]
    · rw [if_neg h, if_neg h, if_pos (by rfl)])
end Go.Proofs.Ytfeeahjaeapkoaa.Ext
end

section
namespace Go.Proofs.Ytfeeahjaeapkoaa.Ext
set_option linter.unusedVariables false
set_option linter.unusedSimpArgs false
open Go.RowKit Go.Proofs.YtfeeahjaeapkoaaW.PrintWords Go.Proofs.Ytfeeahjaeapkoaa.P
theorem ref_cmp (x : M) (f : F) (hx : Small x) (hf : Small (f, 0)) (k : Nat) (hk : 70368744177700 ≤ k) : gristmillref04_Compare.f k (s40 x).f0.f0 (s40 x).f0.f1 (s40 x).f0.f2 f.1 f.2.1 f.2.2 = some (fC x.1 f) := by
  have h1 := hx.1
  have h2 := hx.2
  have h3 := hf.1
  have h4 := hf.2
  simp only at h3 h4
  exact ref_is x.1.1 f.1 x.1.2.1 f.2.1 x.1.2.2 f.2.2 (by omega) (by omega) (by omega) (by omega) k (by have := Nat.max_le.2 ⟨h1, h3⟩; have := Nat.max_le.2 ⟨h2, h4⟩; omega)
theorem e_wrap (i : Nat) (h : i < 4611686018427387904) : wrap64 ((i : Int) + 1) = ((i + 1 : Nat) : Int) := by unfold wrap64; omega
theorem putB_split (f : F) (n : Int) : ∀ (b : List M) (i : Nat), i ≤ b.length → (∀ j (h : j < i) (h2 : j < b.length), fC b[j].1 f = -1) → putB b f n = b.take i ++ putB (b.drop i) f n
  | b, 0, _, _ => rfl
  | [], i + 1, h, _ => by simp at h
  | (g, m) :: r, i + 1, h, ha => by
    have h0 : fC g f = -1 := ha 0 (Nat.zero_lt_succ _) (by simp)
    rw [putB, if_pos h0, List.take_succ_cons, List.drop_succ_cons, List.cons_append]
    congr 1
    exact putB_split f n r i (by simpa using h) (fun j h1 h2 => ha (j + 1) (by omega) (by simpa using h2))
theorem ref_put_loop (b : List M) (f : F) (n : Int) (hb : ∀ x ∈ b, Small x) (hf : Small (f, 0)) (hl : b.length ≤ 1099511627776) : ∀ (d i : Nat), i + d = b.length → (∀ j (h : j < i) (h2 : j < b.length), fC b[j].1 f = -1) → ∀ k, 70368744177702 + d ≤ k → gristmillref04_Put.l0 k (b.map s40) n (i : Int) f.1 f.2.1 f.2.2 = some ((putB b f n).map s40) := by
  intro d
  have hL : (b.map s40).length = b.length := List.length_map ..
  induction d with
  | zero =>
    intro i hi ha k hk
    obtain ⟨k, rfl⟩ : ∃ k', k = k' + 1 := ⟨k - 1, by omega⟩
    have e0 : i = b.length := by omega
    subst e0
    rw [putB_split f n b b.length (Nat.le_refl _) ha, List.take_length, List.drop_length, gristmillref04_Put.l0]
    rw [if_neg (by omega), if_pos (by omega), if_pos (by omega), Option.bind_some, Int.toNat_natCast, ← hL, List.take_length, if_pos (by simp; omega), Option.bind_some, List.nil_append, if_pos (by omega), Option.bind_some, List.drop_length, Option.bind_some, if_pos (by simp; omega)]
    simp only [List.append_nil, List.map_append, putB, List.map_cons, List.map_nil]
    rfl
  | succ d ih =>
    intro i hi ha k hk
    obtain ⟨k, rfl⟩ : ∃ k', k = k' + 1 := ⟨k - 1, by omega⟩
    have hil : i < b.length := by omega
    have hc := ref_cmp b[i] f (hb _ (List.getElem_mem hil)) hf k (by omega)
    rw [gristmillref04_Put.l0, if_pos (by omega), if_pos (by omega), rd40_s b i hil, hc, Option.bind_some, e_wrap i (by omega)]
    have hv := fC_vals b[i].1 f
    by_cases h1 : fC b[i].1 f = -1
    · rw [if_pos (by omega)]
      exact ih (i + 1) (by omega) (fun j h h2 => by
        by_cases e : j = i
        · subst e; exact h1
        · exact ha j (by omega) h2) k (by omega)
    · rw [if_neg (by omega), if_pos (by omega), Option.bind_some, Int.toNat_natCast, Int.toNat_natCast, if_pos (by simp; omega), Option.bind_some, List.nil_append, Option.bind_some]
      rw [putB_split f n b i (Nat.le_of_lt hil) ha, List.drop_eq_getElem_cons hil]
      have hx : b[i] = (b[i].1, b[i].2) := rfl
      by_cases h2 : fC b[i].1 f = 0
      · rw [if_pos h2, if_pos (by simp; omega), Option.bind_some, if_pos (by omega), if_pos (by omega), Option.bind_some, if_pos (by simp; omega)]
        rw [hx, putB, if_neg h1, if_pos h2, List.map_append, List.map_cons, List.map_take, List.map_drop, List.append_assoc]
        rfl
      · rw [if_neg h2, if_pos (by simp; omega), Option.bind_some, Option.bind_some, if_pos (by simp; omega)]
        rw [hx, putB, if_neg h1, if_neg h2, List.map_append, List.map_cons, List.map_take, List.append_assoc]
        congr 2
        rw [← List.map_drop, List.drop_eq_getElem_cons hil]
        rfl
theorem ref_put (b : List M) (f : F) (n : Int) (hb : ∀ x ∈ b, Small x) (hf : Small (f, 0)) (hl : b.length ≤ 1099511627776) (k : Nat) (hk : 70368744177702 + b.length ≤ k) : gristmillref04_Put.f k (b.map s40) f.1 f.2.1 f.2.2 n = some ((putB b f n).map s40) := ref_put_loop b f n hb hf hl b.length 0 (by omega) (fun j h => absurd h (Nat.not_lt_zero j)) k hk
theorem putB_small {b : List M} {f : F} {n : Int} (hb : ∀ x ∈ b, Small x) (hf : Small (f, 0)) : ∀ x ∈ putB b f n, Small x := fun x hx => by
  rcases putB_mem b f n x hx with h | h
  · unfold Small; rw [h]; exact hf
  · exact hb x h
theorem own_l1 (b : List M) (hl : b.length ≤ 1099511627776) : ∀ (d i : Nat), i + d = b.length → ∀ (k : Nat) (o : List M), o.length ≤ i → d + 1 ≤ k → gristmillref04_Own.l1 k (b.map s40) (o.map s40) (i : Int) = some ((o ++ (b.drop i).filter keepM).map s40) := by
  intro d
  have hL : (b.map s40).length = b.length := List.length_map ..
  induction d with
  | zero =>
    intro i hi k o ho hk
    obtain ⟨k, rfl⟩ : ∃ k', k = k' + 1 := ⟨k - 1, by omega⟩
    rw [gristmillref04_Own.l1, if_neg (by omega), List.drop_of_length_le (by omega), List.filter_nil, List.append_nil]
  | succ d ih =>
    intro i hi k o ho hk
    obtain ⟨k, rfl⟩ : ∃ k', k = k' + 1 := ⟨k - 1, by omega⟩
    have hil : i < b.length := by omega
    rw [gristmillref04_Own.l1, if_pos (by omega), if_pos (by omega), rd40_s b i hil, e_wrap i (by omega), List.drop_eq_getElem_cons hil, List.filter_cons]
    by_cases h : b[i].2 = 0
    · rw [if_pos (show (s40 b[i]).f1 = 0 from h), if_neg (by unfold keepM; simp [h])]
      exact ih (i + 1) (by omega) k o (by omega) (by omega)
    · rw [if_neg (show ¬ (s40 b[i]).f1 = 0 from h), if_pos (by rw [List.length_map]; omega), if_pos (by unfold keepM; simp [h])]
      have e : o.map s40 ++ [(⟨⟨(s40 b[i]).f0.f0, (s40 b[i]).f0.f1, (s40 b[i]).f0.f2⟩, (s40 b[i]).f1⟩ : S40)] = (o ++ [b[i]]).map s40 := by rw [List.map_append]; rfl
      rw [e, ih (i + 1) (by omega) k (o ++ [b[i]]) (by simp; omega) (by omega), List.append_assoc]
      rfl
theorem own_l0 (l : List M) (hsm : ∀ x ∈ l, Small x) (hl : l.length ≤ 1048576) : ∀ (d i : Nat), i + d = l.length → ∀ (k : Nat) (b : List M), (∀ x ∈ b, Small x) → b.length ≤ i → 70368744177702 + 2097152 + d ≤ k → gristmillref04_Own.l0 k (l.map s40) (b.map s40) (i : Int) = some (((bagB b (l.drop i)).filter keepM).map s40) := by
  intro d
  have hL : (l.map s40).length = l.length := List.length_map ..
  induction d with
  | zero =>
    intro i hi k b hb hbl hk
    obtain ⟨k, rfl⟩ : ∃ k', k = k' + 1 := ⟨k - 1, by omega⟩
    rw [gristmillref04_Own.l0, if_neg (by omega), List.drop_of_length_le (by omega)]
    have h := own_l1 b (by omega) b.length 0 (by omega) k [] (Nat.le_refl _) (by omega)
    rw [List.drop_zero, List.nil_append] at h
    exact h
  | succ d ih =>
    intro i hi k b hb hbl hk
    obtain ⟨k, rfl⟩ : ∃ k', k = k' + 1 := ⟨k - 1, by omega⟩
    have hil : i < l.length := by omega
    have hs := hsm _ (List.getElem_mem hil)
    have hp := ref_put b l[i].1 l[i].2 hb hs (by omega) k (by omega)
    have hlen := putB_len b l[i].1 l[i].2
    rw [gristmillref04_Own.l0, if_pos (by omega), if_pos (by omega), rd40_s l i hil, e_wrap i (by omega)]
    have hp' : gristmillref04_Put.f k (b.map s40) (s40 l[i]).f0.f0 (s40 l[i]).f0.f1 (s40 l[i]).f0.f2 (s40 l[i]).f1 = some ((putB b l[i].1 l[i].2).map s40) := hp
    rw [hp', Option.bind_some, ih (i + 1) (by omega) k _ (putB_small hb hs) (Nat.le_trans (putB_len _ _ _) (by omega)) (by omega), List.drop_eq_getElem_cons hil]
    rfl
theorem ref_own (l : List M) (hsm : ∀ x ∈ l, Small x) (hl : l.length ≤ 1048576) (k : Nat) (hk : 70368747323430 ≤ k) : gristmillref04_Own.f k (l.map s40) = some ((bagOf l).map s40) := by
  have h := own_l0 l hsm hl l.length 0 (by omega) k [] (fun x hx => by simp at hx) (Nat.le_refl _) (by omega)
  rw [List.drop_zero] at h
  exact h
theorem within_loop (b : List M) (fr tt : Int) (inn : Bool) (hl : b.length ≤ 1048576) : ∀ (d i : Nat), i + d = b.length → ∀ (k : Nat) (o : List M), o.length ≤ i → d + 1 ≤ k → gristmillref04_Within.l0 k inn (o.map s40) (b.map s40) (i : Int) fr tt = some ((o ++ (b.drop i).filter fun x => (decide (fr ≤ x.1.1) && decide (x.1.1 < tt)) == inn).map s40) := by
  intro d
  have hL : (b.map s40).length = b.length := List.length_map ..
  induction d with
  | zero =>
    intro i hi k o ho hk
    obtain ⟨k, rfl⟩ : ∃ k', k = k' + 1 := ⟨k - 1, by omega⟩
    rw [gristmillref04_Within.l0, if_neg (by omega), List.drop_of_length_le (by omega), List.filter_nil, List.append_nil]
  | succ d ih =>
    intro i hi k o ho hk
    obtain ⟨k, rfl⟩ : ∃ k', k = k' + 1 := ⟨k - 1, by omega⟩
    have hil : i < b.length := by omega
    have ht : (s40 b[i]).f0.f0 = b[i].1.1 := rfl
    have e : o.map s40 ++ [(⟨⟨(s40 b[i]).f0.f0, (s40 b[i]).f0.f1, (s40 b[i]).f0.f2⟩, (s40 b[i]).f1⟩ : S40)] = (o ++ [b[i]]).map s40 := by rw [List.map_append]; rfl
    have hol : (o.map s40).length < 2199023255552 := by rw [List.length_map]; omega
    have hyes := ih (i + 1) (by omega) k (o ++ [b[i]]) (by simp; omega) (by omega)
    have hno := ih (i + 1) (by omega) k o (by omega) (by omega)
    rw [gristmillref04_Within.l0, if_pos (by omega), if_pos (by omega), rd40_s b i hil, e_wrap i (by omega), List.drop_eq_getElem_cons hil, List.filter_cons, e, if_pos hol, hyes, hno, List.append_assoc]
    by_cases h1 : fr ≤ b[i].1.1
    · rw [if_pos (show fr ≤ (s40 b[i]).f0.f0 from h1), decide_eq_true h1, Bool.true_and]
      have hd : decide ((s40 b[i]).f0.f0 < tt) = decide (b[i].1.1 < tt) := rfl
      rw [hd]
      split <;> rfl
    · rw [if_neg (show ¬ fr ≤ (s40 b[i]).f0.f0 from h1), decide_eq_false h1, Bool.false_and]
      split <;> rfl
theorem ref_within (l : List M) (hsm : ∀ x ∈ l, Small x) (hl : l.length ≤ 1048576) (fr tt : Int) (inn : Bool) (k : Nat) (hk : 70368747323430 ≤ k) : gristmillref04_Within.f k (l.map s40) fr tt inn = some (((bagOf l).filter fun x => (decide (fr ≤ x.1.1) && decide (x.1.1 < tt)) == inn).map s40) := by
  unfold gristmillref04_Within.f
  rw [ref_own l hsm hl k hk, Option.bind_some]
  have hb := bagOf_len l
  have h := within_loop (bagOf l) fr tt inn (by omega) (bagOf l).length 0 (by omega) k [] (Nat.le_refl _) (by omega)
  rw [List.drop_zero, List.nil_append] at h
  exact h
theorem is_loop (a b : List M) (ha : ∀ x ∈ a, Small x) (hb : ∀ x ∈ b, Small x) (hl : a.length = b.length) (hn : a.length ≤ 1099511627776) : ∀ (d i : Nat), i + d = a.length → ∀ k, 70368744177702 + d ≤ k → gristmillref04_Is.l0 k (a.map s40) (b.map s40) (i : Int) = some (decide (a.drop i = b.drop i)) := by
  intro d
  have hA : (a.map s40).length = a.length := List.length_map ..
  have hB : (b.map s40).length = b.length := List.length_map ..
  induction d with
  | zero =>
    intro i hi k hk
    obtain ⟨k, rfl⟩ : ∃ k', k = k' + 1 := ⟨k - 1, by omega⟩
    rw [gristmillref04_Is.l0, if_neg (by omega), List.drop_of_length_le (by omega), List.drop_of_length_le (by omega)]
    rfl
  | succ d ih =>
    intro i hi k hk
    obtain ⟨k, rfl⟩ : ∃ k', k = k' + 1 := ⟨k - 1, by omega⟩
    have hia : i < a.length := by omega
    have hib : i < b.length := by omega
    have hc := ref_cmp a[i] b[i].1 (ha _ (List.getElem_mem hia)) (show Small (b[i].1, 0) from hb b[i] (List.getElem_mem hib)) k (by omega)
    rw [gristmillref04_Is.l0, if_pos (by omega), if_pos (by omega), if_pos (by omega), rd40_s a i hia, rd40_s b i hib, e_wrap i (by omega), List.drop_eq_getElem_cons hia, List.drop_eq_getElem_cons hib]
    have hc' : gristmillref04_Compare.f k (s40 a[i]).f0.f0 (s40 a[i]).f0.f1 (s40 a[i]).f0.f2 (s40 b[i]).f0.f0 (s40 b[i]).f0.f1 (s40 b[i]).f0.f2 = some (fC a[i].1 b[i].1) := hc
    rw [hc', Option.bind_some, ih (i + 1) (by omega) k (by omega)]
    by_cases h1 : a[i].2 = b[i].2
    · rw [if_pos (show (s40 a[i]).f1 = (s40 b[i]).f1 from h1)]
      by_cases h2 : fC a[i].1 b[i].1 = 0
      · have e : a[i] = b[i] := Prod.ext (fC_eq h2) h1
        rw [if_pos h2, e]
        congr 1
        exact decide_eq_decide.2 ⟨fun h => by rw [h], fun h => by injection h⟩
      · rw [if_neg h2]
        congr 1
        refine (decide_eq_false fun h => h2 ?_).symm
        injection h with h _
        rw [h]
        exact fC_self _
    · rw [if_neg (show ¬ (s40 a[i]).f1 = (s40 b[i]).f1 from h1)]
      congr 1
      refine (decide_eq_false fun h => h1 ?_).symm
      injection h with h _
      rw [h]
theorem ref_is_rows (a b : List M) (ha : ∀ x ∈ a, Small x) (hb : ∀ x ∈ b, Small x) (hn : a.length ≤ 1099511627776) (k : Nat) (hk : 70368744177702 + a.length ≤ k) : gristmillref04_Is.f k (a.map s40) (b.map s40) = some (decide (a = b)) := by
  unfold gristmillref04_Is.f
  rw [List.length_map, List.length_map]
  by_cases h : a.length = b.length
  · rw [if_pos (by omega)]
    have := is_loop a b ha hb h hn a.length 0 (by omega) k hk
    rw [List.drop_zero, List.drop_zero] at this
    exact this
  · rw [if_neg (by omega), decide_eq_false (fun e => h (by rw [e]))]
end Go.Proofs.Ytfeeahjaeapkoaa.Ext
end

section
namespace Go.Proofs.Ytfeeahjaeapkoaa.Ext
set_option linter.unusedVariables false
set_option linter.unusedSimpArgs false
open Go.RowKit Go.Proofs.YtfeeahjaeapkoaaW.PrintWords Go.Proofs.Ytfeeahjaeapkoaa.P
theorem small_bag2 {l : List M} (hl : ∀ x ∈ l, Small x) : ∀ x ∈ bagOf l, Small x := fun x hx => by
  obtain ⟨z, hz, e⟩ := bagOf_mem hx
  unfold Small
  rw [e]
  exact hl z hz
theorem map_back (l : List S40) : (l.map m40).map s40 = l := by
  rw [List.map_map]
  exact List.map_id'' (fun x => rfl) l
theorem back_map (l : List M) : (l.map s40).map m40 = l := by
  rw [List.map_map]
  exact List.map_id'' (fun x => rfl) l
theorem all_small40 {l : List M} (h : ∀ x ∈ l, Small x) : (l.map s40).all small40 = true := List.all_eq_true.2 fun y hy => by
  obtain ⟨x, hx, rfl⟩ := List.mem_map.1 hy
  unfold small40
  rw [decide_eq_true (show (s40 x).f0.f1.length ≤ 8796093022208 from (h x hx).1), decide_eq_true (show (s40 x).f0.f2.length ≤ 17592186044416 from (h x hx).2)]
  rfl
theorem bag40_s (l : List M) (tk : F → Bool) : bag40 (l.map s40) tk = (bagOf (l.filter fun x => tk x.1)).map s40 := by unfold bag40; rw [back_map]
theorem filter_len (l : List M) (p : M → Bool) : (l.filter p).length ≤ l.length := List.length_filter_le p l
theorem spans_end (l : List M) (hsm : ∀ x ∈ l, Small x) (hr : InR l) (hl : l.length ≤ 300) (fr tt : Int) (k : Nat) (hk : 70368747323430 ≤ k) (n : Int) (hn : n = W64 (sumM l)) :
    ((fact_Within.f (l.map s40) fr tt).bind fun t263 => ((gristmillref04_Within.f k (l.map s40) fr tt true).bind fun t266 => ((gristmillref04_Is.f k t263 t266).bind fun t269 => ((fact_Without.f (l.map s40) fr tt).bind fun t270 => ((gristmillref04_Within.f k (l.map s40) fr tt false).bind fun t273 => ((gristmillref04_Is.f k t270 t273).bind fun t276 => (if t269 = true then (if t276 = true then ((fact_Count.f k (l.map s40)).bind fun t277 => (some (t277 == n))) else (some false)) else (some false)))))))) = some true := by
  have hg : (l.map s40).length ≤ sortK ∧ (l.map s40).all small40 = true := ⟨by rw [List.length_map]; unfold sortK; omega, all_small40 hsm⟩
  have e1 : fact_Within.f (l.map s40) fr tt = some (bag40 (l.map s40) (withinT fr tt)) := if_pos hg
  have e2 : fact_Without.f (l.map s40) fr tt = some (bag40 (l.map s40) (withoutT fr tt)) := if_pos hg
  have f1 : (bagOf l).filter (fun x => (decide (fr ≤ x.1.1) && decide (x.1.1 < tt)) == true) = bagOf (l.filter fun x => withinT fr tt x.1) := by
    rw [bagOf_filter hr]
    congr 1
    funext x
    unfold withinT
    simp
  have f2 : (bagOf l).filter (fun x => (decide (fr ≤ x.1.1) && decide (x.1.1 < tt)) == false) = bagOf (l.filter fun x => withoutT fr tt x.1) := by
    rw [bagOf_filter hr]
    congr 1
    funext x
    unfold withoutT
    by_cases h1 : fr ≤ x.1.1 <;> by_cases h2 : x.1.1 < tt <;> simp [h1, h2] <;> omega
  have sm : ∀ tk : F → Bool, ∀ x ∈ bagOf (l.filter fun x => tk x.1), Small x := fun tk => small_bag2 (fun x hx => hsm x (List.mem_filter.1 hx).1)
  have ln : ∀ tk : F → Bool, (bagOf (l.filter fun x => tk x.1)).length ≤ 300 := fun tk => Nat.le_trans (bagOf_len _) (Nat.le_trans (filter_len _ _) hl)
  rw [e1, e2, Option.bind_some, ref_within l hsm (by omega) fr tt true k hk, Option.bind_some, bag40_s, f1, ref_is_rows _ _ (sm _) (sm _) (by have := ln (withinT fr tt); omega) k (by have := ln (withinT fr tt); omega), Option.bind_some, Option.bind_some, ref_within l hsm (by omega) fr tt false k hk, Option.bind_some, bag40_s, f2, ref_is_rows _ _ (sm _) (sm _) (by have := ln (withoutT fr tt); omega) k (by have := ln (withoutT fr tt); omega), Option.bind_some]
  rw [if_pos (by simp), if_pos (by simp), count_is l (by omega) k (by omega), Option.bind_some, hn]
  simp
theorem spans_loop (l : List M) (hsm : ∀ x ∈ l, Small x) (hr : InR l) (hl : l.length ≤ 300) (fr tt : Int) : ∀ (d i : Nat), i + d = l.length → ∀ (k : Nat) (n : Int), 70368747323432 + d ≤ k → n = W64 (sumM (l.take i)) → gristmilllaw04_FactSpans.l0 k (l.map s40) n (i : Int) fr tt = some true := by
  intro d
  have hL : (l.map s40).length = l.length := List.length_map ..
  induction d with
  | zero =>
    intro i hi k n hk hn
    obtain ⟨k, rfl⟩ : ∃ k', k = k' + 1 := ⟨k - 1, by omega⟩
    rw [gristmilllaw04_FactSpans.l0, if_neg (by omega)]
    rw [List.take_of_length_le (by omega)] at hn
    exact spans_end l hsm hr hl fr tt k (by omega) n hn
  | succ d ih =>
    intro i hi k n hk hn
    obtain ⟨k, rfl⟩ : ∃ k', k = k' + 1 := ⟨k - 1, by omega⟩
    have hil : i < l.length := by omega
    rw [gristmilllaw04_FactSpans.l0, if_pos (by omega), if_pos (by omega), rd40_s l i hil, e_wrap i (by omega)]
    refine ih (i + 1) (by omega) k _ (by omega) ?_
    have hs : sumM (l.take (i + 1)) = sumM (l.take i) + l[i].2 := by
      rw [List.take_succ_eq_append_getElem hil]
      unfold sumM
      rw [List.map_append, List.sum_append]
      simp
    have e : IntKind.u64.wrap (n + (s40 l[i]).f1) = W64 (n + l[i].2) := rfl
    rw [e, hs, hn]
    simp only [W64_is]
    omega
theorem spans_true (l0 : List S40) (fr tt : Int) (hsm : ∀ x ∈ l0, Small (m40 x)) (hr : ∀ x ∈ l0, 0 ≤ x.f1 ∧ x.f1 < 18446744073709551616) (k : Nat) (hk : 70368747323732 ≤ k) : gristmilllaw04_FactSpans.f k l0 fr tt = some true := by
  unfold gristmilllaw04_FactSpans.f gristmilllaw04_awake.f
  simp only [Option.bind_some, if_true]
  by_cases h : (l0.length : Int) > 300
  · rw [if_pos h]
  · rw [if_neg h]
    have hlen : (l0.map m40).length ≤ 300 := by rw [List.length_map]; omega
    have hg := spans_loop (l0.map m40) (fun x hx => by obtain ⟨y, hy, rfl⟩ := List.mem_map.1 hx; exact hsm y hy) (fun x hx => by obtain ⟨y, hy, rfl⟩ := List.mem_map.1 hx; exact hr y hy) hlen fr tt (l0.map m40).length 0 (by omega) k 0 (by omega) (by rw [List.take_zero]; rfl)
    rw [map_back] at hg
    exact hg
end Go.Proofs.Ytfeeahjaeapkoaa.Ext
end

section
namespace Go.Proofs.Ytfeeahjaeapkoaa.Ext
set_option linter.unusedVariables false
set_option linter.unusedSimpArgs false
open Go.RowKit Go.Proofs.YtfeeahjaeapkoaaW.PrintWords
open Go.ChangeShapes Go.WideShapes Go.ChangeAt Go.Deep
def Opens (P : Program) {α : Type} (d : Kd α) (t : TypeId) (Q : α → Prop) : Prop :=
  ∀ (H : Type) (enc : TypeId × Value → H) (W : World) (base : Nat) (held : Bool) (fuel : Nat) (cs : List Value) (x : DataW H × List MemPlace),
    DataW.trod enc P W base (fun _ => true) held fuel t cs = some x → (∀ n ∈ x.1.weights P t, n ≤ reachBytes) → ∃ v, d.K W v cs ∧ Q v
def OpensF (P : Program) {α : Type} (d : Kd α) (o : Nat) (fs : List Field) (Q : α → Prop) : Prop :=
  ∀ (H : Type) (enc : TypeId × Value → H) (W : World) (base : Nat) (held : Bool) (n : Nat) (cs : List Value) (xs : List (DataW H × List MemPlace)),
    cs.length = o + d.sz → xs.length = fs.length →
    (∀ (i : Nat) (f : Field), fs[i]? = some f → DataW.trod enc P W base (fun _ => true) held n f.type ((cs.drop f.offset).take (P.cellsOf f.type)) = xs[i]?) →
    (∀ n ∈ DataW.weightsEach P (fs.map (·.type)) (xs.map (·.1)), n ≤ reachBytes) → ∃ v, d.K W v (cs.drop o) ∧ Q v
theorem opens_int {P : Program} {t : TypeId} {k : IntKind} (ht : P.underlying t = some (.int k)) : Opens P (Kd.int k) t (fun n => (Lit.int k n).wf = true) := by
  intro H enc W base held fuel cs x h _
  obtain ⟨n, rfl, _, hw⟩ := DataW.trod_int ht h
  exact ⟨n, rfl, hw⟩
theorem opens_string {P : Program} {t : TypeId} (ht : P.underlying t = some .string) : Opens P Kd.string t (fun s => s.size ≤ reachBytes) := by
  intro H enc W base held fuel cs x h hw
  obtain ⟨s, rfl, rfl, _⟩ := DataW.trod_string ht h
  refine ⟨s, rfl, ?_⟩
  have := hw s.data.toList.length (by simp [DataW.weights])
  simpa using this
theorem weights_all {H : Type} {P : Program} {e : TypeId} {d : DataW H} : ∀ {ds : List (DataW H)}, d ∈ ds → ∀ n ∈ d.weights P e, n ∈ DataW.weightsAll P e ds
  | [], h, _, _ => by cases h
  | d0 :: ds, h, n, hn => by
    simp only [DataW.weightsAll, List.mem_append]
    rcases List.mem_cons.1 h with rfl | h
    · exact .inl hn
    · exact .inr (weights_all h n hn)
theorem opens_slice {P : Program} {α : Type} {d : Kd α} {t e : TypeId} {ek : Nat} {Q : α → Prop} (ht : P.underlying t = some (.slice e)) (hd : Opens P d e Q) (hc : P.cellsOf e = d.sz) :
    Opens P (Kd.slice ek d) t (fun l => (∀ x ∈ l, Q x) ∧ l.length * P.bytesOf e ≤ reachBytes) := by
  intro H enc W base held fuel cs x h hw
  rcases open_slice ht h with ⟨rfl, _⟩ | ⟨a, len, cap, m, n, D, Pl, rfl, hb, hl, hm, hmm, rfl, hx⟩
  · exact ⟨[], ⟨none, 0, rfl, Nat.le_refl _, Kd.C_nil _ _⟩, by simp, by simp⟩
  have hml : len ≤ m := by rw [hmm]; simpa using hl
  have hat : ∀ i, i < len → ∃ v cs', d.K W v cs' ∧ Q v ∧ W.cells? base (a.add (i * P.cellsOf e)) (P.cellsOf e) = some cs' := by
    intro i hi
    obtain ⟨cs', h1, h2⟩ := hx i (Nat.lt_of_lt_of_le hi hml)
    obtain ⟨v, hv, hq⟩ := hd H enc W base held n cs' _ h2 (fun n hn => hw n (by
      simp only [DataW.weights, ht, List.mem_cons, List.mem_append]
      exact .inr (.inl (weights_all (List.mem_map.2 ⟨i, by simpa using hi, rfl⟩) n hn))))
    exact ⟨v, cs', hv, hq, h1⟩
  have hl2 : ∃ l : List α, l.length = len ∧ ∀ i v, l[i]? = some v → ∃ cs', d.K W v cs' ∧ Q v ∧ W.cells? base (a.add (i * P.cellsOf e)) (P.cellsOf e) = some cs' := by
    clear hw hx hmm hml hm hl h
    induction len with
    | zero => exact ⟨[], rfl, fun i v h => by simp at h⟩
    | succ k ih =>
      obtain ⟨l, hl, hr⟩ := ih (fun i hi => hat i (by omega))
      obtain ⟨v, cs', h1, h2, h3⟩ := hat k (by omega)
      refine ⟨l ++ [v], by simp [hl], fun i u hu => ?_⟩
      by_cases hi : i < l.length
      · rw [List.getElem?_append_left hi] at hu
        exact hr i u hu
      · rw [List.getElem?_append_right (by omega)] at hu
        have hi0 : i - l.length = 0 := by
          rcases hz : i - l.length with _ | q
          · rfl
          · rw [hz] at hu; simp at hu
        rw [hi0] at hu
        simp only [List.getElem?_cons_zero, Option.some.injEq] at hu
        subst hu
        have : i = k := by omega
        subst this
        exact ⟨cs', h1, h2, h3⟩
  obtain ⟨l, rfl, hr⟩ := hl2
  refine ⟨l, ⟨some a, cap, rfl, hl, rfl, Nat.le_trans hl (by simpa [maxLen] using hm), fun _ => ⟨a, rfl, fun j p hj => ?_⟩⟩, ?_, ?_⟩
  · obtain ⟨cs', h1, _, h3⟩ := hr j p hj
    obtain ⟨_, hlen, hcell⟩ := World.cells?_some h3
    refine ⟨cs', d.K_len h1, h1, fun i u hu => ?_⟩
    have hi : i < P.cellsOf e := by have := (List.getElem?_eq_some_iff.1 hu).1; omega
    have := hcell i hi
    rw [Go.Deep.add_add, hu, hc] at this
    exact this
  · intro y hy
    obtain ⟨i, hi⟩ := List.mem_iff_getElem?.1 hy
    obtain ⟨_, _, h2, _⟩ := hr i y hi
    exact h2
  · have := hw (((List.range l.length).map D).length + ((List.range (m - l.length)).map fun j => D (l.length + j)).length |> (· * P.bytesOf e)) (by
      simp [DataW.weights, ht])
    simp only [List.length_map, List.length_range] at this
    exact Nat.le_trans (Nat.mul_le_mul_right _ (Nat.le_add_right _ _)) this
theorem opensF_one {P : Program} {α : Type} {d : Kd α} {o : Nat} {f : Field} {Q : α → Prop} (hd : Opens P d f.type Q) (ho : f.offset = o) (hc : P.cellsOf f.type = d.sz) : OpensF P d o [f] Q := by
  intro H enc W base held n cs xs hl hx ht hw
  match xs, hx with
  | [x0], _ =>
    have h0 := ht 0 f rfl
    rw [ho, hc, List.take_of_length_le (by rw [List.length_drop]; omega)] at h0
    exact hd H enc W base held n _ x0 h0 (fun n hn => hw n (by simpa [DataW.weightsEach] using hn))
theorem opensF_cons {P : Program} {α β : Type} {d : Kd α} {d1 : Kd β} {o : Nat} {f : Field} {fs : List Field} {Q : α → Prop} {Q1 : β → Prop} (hd : Opens P d f.type Q) (ho : f.offset = o) (hc : P.cellsOf f.type = d.sz)
    (hr : OpensF P d1 (o + d.sz) fs Q1) : OpensF P (Kd.pair d d1) o (f :: fs) (fun x => Q x.1 ∧ Q1 x.2) := by
  intro H enc W base held n cs xs hl hx ht hw
  match xs, hx with
  | x0 :: xs, hx =>
    have h0 := ht 0 f rfl
    rw [ho, hc] at h0
    have hlp : cs.length = o + (d.sz + d1.sz) := hl
    obtain ⟨v, hv, hq⟩ := hd H enc W base held n _ x0 h0 (fun n hn => hw n (by
      simp only [List.map_cons, DataW.weightsEach, List.mem_append]; exact .inl hn))
    obtain ⟨v1, hv1, hq1⟩ := hr H enc W base held n cs xs (by omega) (by simpa using hx) (fun i g hg => by simpa using ht (i + 1) g (by simpa using hg)) (fun n hn => hw n (by
      simp only [List.map_cons, DataW.weightsEach, List.mem_append]; exact .inr hn))
    refine ⟨(v, v1), ⟨_, _, ?_, hv, hv1⟩, hq, hq1⟩
    rw [← List.drop_drop, List.take_append_drop]
theorem opens_struct {P : Program} {α : Type} {d : Kd α} {t : TypeId} {fs : Array Field} {Q : α → Prop} (ht : P.underlying t = some (.struct fs)) (hc : P.cellsOf t = d.sz) (hd : OpensF P d 0 fs.toList Q) : Opens P d t Q := by
  intro H enc W base held fuel cs x h hw
  obtain ⟨xs, n, _, rfl, hl, hlen, hf⟩ := DataW.trod_struct ht h
  have := hd H enc W base held n cs xs (by omega) (by simpa using hlen) (fun i f hi => hf i f (by simpa using hi)) (fun n hn => hw n (by simpa [DataW.weights, ht] using hn))
  simpa using this
theorem opens_iso {P : Program} {α β : Type} {d : Kd α} {t : TypeId} {Q : α → Prop} (f : β → α) (g : α → β) (hfg : ∀ a, f (g a) = a) (h : Opens P d t Q) : Opens P (Kd.iso d f) t (fun x => Q (f x)) := by
  intro H enc W base held fuel cs x hx hw
  obtain ⟨v, hv, hq⟩ := h H enc W base held fuel cs x hx hw
  refine ⟨g v, ?_, ?_⟩
  · show d.K W (f (g v)) cs
    rw [hfg]; exact hv
  · show Q (f (g v))
    rw [hfg]; exact hq
theorem opens_mono {P : Program} {α : Type} {d : Kd α} {t : TypeId} {Q Q' : α → Prop} (h : Opens P d t Q) (hq : ∀ a, Q a → Q' a) : Opens P d t Q' := by
  intro H enc W base held fuel cs x hx hw
  obtain ⟨v, hv, h1⟩ := h H enc W base held fuel cs x hx hw
  exact ⟨v, hv, hq v h1⟩
theorem opened {P : Program} {α : Type} {d : Kd α} {t : TypeId} {Q : α → Prop} (h : Opens P d t Q) {H : Type} {enc : TypeId × Value → H} {W : World} {base : Nat} {held : Bool} {v : Value} {x : DataW H} {p : List MemPlace}
    (ht : DataW.Trod enc P W base (fun _ => true) held t v x p) {ts : List TypeId} {ds : List (DataW H)} (hsz : (DataW.weightsEach P ts ds).all (· ≤ reachBytes) = true) (j : Nat) (hj : ts[j]? = some t) (hd : ds[j]? = some x) :
    ∃ a, d.K W a v.cells.toList ∧ Q a := by
  obtain ⟨fuel, hf⟩ := ht
  refine h H enc W base held fuel _ _ hf (fun n hn => ?_)
  have := List.all_eq_true.1 hsz n (DataW.weights_mem_each hj hd n hn)
  simpa using this
theorem open_struct {P : Program} {α : Type} {d : Kd α} {t : TypeId} {Q : α → Prop} (O : Opens P d t Q) {fs : Array Field} (hs : P.underlying t = some (.struct fs)) {H : Type} {enc : TypeId × Value → H} {W : World} {base b0 : Nat} {held : Bool} {r : Reach} {v : Value}
    {x : DataW H} {p : List MemPlace} (hv : Value.okWide P W r b0 t v) (ht : DataW.Trod enc P W base (fun _ => true) held t v x p) {ts : List TypeId} {ds : List (DataW H)} (hsz : (DataW.weightsEach P ts ds).all (· ≤ reachBytes) = true)
    (j : Nat) (hj : ts[j]? = some t) (hd : ds[j]? = some x) : ∃ a cs, v = .agg (List.toArray cs) ∧ d.K W a cs ∧ Q a := by
  obtain ⟨a, hK, hQ⟩ := opened O ht hsz j hj hd
  obtain ⟨cs, rfl, _⟩ := okWide_struct hs hv
  exact ⟨a, cs.toList, by rw [Array.toArray_toList], hK, hQ⟩
theorem open_row {P : Program} {α : Type} {d : Kd α} {t e : TypeId} {Q : α → Prop} (O : Opens P d e Q) (hs : P.underlying t = some (.slice e)) (hc : P.cellsOf e = d.sz) {H : Type} {enc : TypeId × Value → H} {W : World} {base b0 : Nat} {held : Bool} {r : Reach} {v : Value}
    {x : DataW H} {p : List MemPlace} (hv : Value.okWide P W r b0 t v) (ht : DataW.Trod enc P W base (fun _ => true) held t v x p) {ts : List TypeId} {ds : List (DataW H)} (hsz : (DataW.weightsEach P ts ds).all (· ≤ reachBytes) = true)
    (j : Nat) (hj : ts[j]? = some t) (hd : ds[j]? = some x) : ∃ A l c, v = .slice A l.length c ∧ l.length ≤ c ∧ d.C W A l.length l ∧ (∀ y ∈ l, Q y) ∧ l.length * P.bytesOf e ≤ reachBytes := by
  obtain ⟨l, hK, hQ, hb⟩ := opened (opens_slice (ek := 0) hs O hc) ht hsz j hj hd
  obtain ⟨A, len, cap, rfl⟩ := okWide_slice hs hv
  obtain ⟨A', c, hcs, hl, hC⟩ := hK
  have hcs' : [Value.slice A len cap] = [Value.slice A' l.length c] := hcs
  injection hcs' with h1 _
  injection h1 with h2 h3 h4
  subst h2; subst h3; subst h4
  exact ⟨A, l, cap, rfl, hl, hC, hQ, hb⟩
end Go.Proofs.Ytfeeahjaeapkoaa.Ext
end

section
namespace Go.Proofs.Ytfeeahjaeapkoaa.Ext
set_option linter.unusedVariables false
open Go.RowKit Go.Proofs.YtfeeahjaeapkoaaW.PrintWords Go.Proofs.Ytfeeahjaeapkoaa.P
def kTwo : Kd (Int × Int) := Kd.pair (Kd.int .i64) (Kd.int .i64)
theorem two_open {W : World} {x : Int × Int} {cs : List Value} (h : kTwo.K W x cs) : cs = [.int .i64 x.1, .int .i64 x.2] := by
  obtain ⟨_, _, rfl, rfl, rfl⟩ := h; rfl
end Go.Proofs.Ytfeeahjaeapkoaa.Ext
end

section
namespace Go.Proofs.Ytfeeahjaeapkoaa.Ext
set_option linter.unusedVariables false
open Go.RowKit Go.Proofs.YtfeeahjaeapkoaaW.PrintWords Go.Proofs.Ytfeeahjaeapkoaa.P
theorem opens_s27 : Opens Try.prog k27 27 (fun x => x.f1.length ≤ 8796093022208 ∧ x.f2.length ≤ 17592186044416) := by
  refine opens_mono (opens_iso (fun x : S27 => (x.f0, x.f1, x.f2)) (fun p => ⟨p.1, p.2.1, p.2.2⟩) (fun _ => rfl) (Q := fun x => (Lit.int .i64 x.1).wf = true ∧ ((∀ s ∈ x.2.1, s.size ≤ reachBytes) ∧ x.2.1.length * Try.prog.bytesOf 9 ≤ reachBytes) ∧ ((∀ n ∈ x.2.2, (Lit.int .i64 n).wf = true) ∧ x.2.2.length * Try.prog.bytesOf 2 ≤ reachBytes)) ?_) (fun x h => ?_)
  · refine opens_struct Try.underlying27 (by kernel_rfl) ?_
    show OpensF _ (Kd.pair _ (Kd.pair _ _)) 0 [_, _, _] _
    exact (opensF_cons (opens_int (k := .i64) (by kernel_rfl)) (by rfl) (by kernel_rfl)
      (opensF_cons (opens_slice (by kernel_rfl) (opens_string (t := 9) (by kernel_rfl)) (by kernel_rfl)) (by rfl) (by kernel_rfl)
        (opensF_one (opens_slice (by kernel_rfl) (opens_int (t := 2) (k := .i64) (by kernel_rfl)) (by kernel_rfl)) (by rfl) (by kernel_rfl))))
  · have h1 := h.2.1.2
    have h2 := h.2.2.2
    rw [show Try.prog.bytesOf 9 = 16 by kernel_rfl] at h1
    rw [show Try.prog.bytesOf 2 = 8 by kernel_rfl] at h2
    have h3 := reachBytes_lt
    have h4 : (2 : Nat) ^ 47 = 140737488355328 := by decide
    have e1 : (x.f1 : List ByteArray).length * 16 ≤ reachBytes := h1
    have e2 : (x.f2 : List Int).length * 8 ≤ reachBytes := h2
    omega
end Go.Proofs.Ytfeeahjaeapkoaa.Ext
end

section
namespace Go.Proofs.Ytfeeahjaeapkoaa.Ext
set_option linter.unusedVariables false
open Go.RowKit Go.Proofs.YtfeeahjaeapkoaaW.PrintWords Go.Proofs.Ytfeeahjaeapkoaa.P
theorem u64_in {n : Int} (h : (Lit.int .u64 n).wf = true) : 0 ≤ n ∧ n < 18446744073709551616 := by
  simp only [Lit.wf, Bool.and_eq_true, decide_eq_true_eq] at h
  have h2 := h.2
  have h1 := h.1
  constructor
  · exact h1
  · have e : (IntKind.u64.max : Int) = 18446744073709551615 := by decide
    omega
theorem opens_s40 : Opens Try.prog k40 40 (fun x => (x.f0.f1.length ≤ 8796093022208 ∧ x.f0.f2.length ≤ 17592186044416) ∧ 0 ≤ x.f1 ∧ x.f1 < 18446744073709551616) := by
  refine opens_mono (opens_iso (fun x : S40 => (x.f0, x.f1)) (fun p => ⟨p.1, p.2⟩) (fun _ => rfl) (Q := fun x => (x.1.f1.length ≤ 8796093022208 ∧ x.1.f2.length ≤ 17592186044416) ∧ (Lit.int .u64 x.2).wf = true) ?_) (fun x h => ⟨h.1, u64_in h.2⟩)
  refine opens_struct Try.underlying40 (by kernel_rfl) ?_
  show OpensF _ (Kd.pair _ _) 0 [_, _] _
  refine opensF_cons (Q := fun x : S27 => x.f1.length ≤ 8796093022208 ∧ x.f2.length ≤ 17592186044416) (Q1 := fun n => (Lit.int .u64 n).wf = true) ?_ ?_ ?_ ?_
  · exact opens_s27
  · rfl
  · kernel_rfl
  · refine opensF_one ?_ ?_ ?_
    · exact opens_int (k := .u64) (by kernel_rfl)
    · rfl
    · kernel_rfl
theorem opens_span : Opens Try.prog kTwo 44 (fun x => True) := by
  refine opens_mono (Q := fun x => (Lit.int .i64 x.1).wf = true ∧ (Lit.int .i64 x.2).wf = true) ?_ (fun _ _ => trivial)
  refine opens_struct Try.underlying44 (by kernel_rfl) ?_
  show OpensF _ (Kd.pair _ _) 0 [_, _] _
  exact (opensF_cons (opens_int (k := .i64) (by kernel_rfl)) (by rfl) (by kernel_rfl) (opensF_one (opens_int (k := .i64) (by kernel_rfl)) (by rfl) (by kernel_rfl)))
end Go.Proofs.Ytfeeahjaeapkoaa.Ext
end

section
namespace Go.Proofs.Ytfeeahjaeapkoaa.factSpans
set_option linter.unusedVariables false
set_option linter.unusedSimpArgs false
open Go.RowKit Go.Proofs.YtfeeahjaeapkoaaW.PrintWords Go.Proofs.Ytfeeahjaeapkoaa.Lib
open Go.ChangeShapes Go.WideShapes Go.ChangeAt
open Go.ChangeMaps (open_string shut_string)
theorem own : ownKnob Try.prog.godebug = none := by kernel_rfl
theorem laidOut : laidOutB Try.prog = true := by kernel_rfl
open Go.Proofs.Ytfeeahjaeapkoaa.P Go.Proofs.Ytfeeahjaeapkoaa.Ext
set_option maxRecDepth 100000 in
theorem lifted (os : Os) (started : os.Started) (H : Type) (enc : TypeId × Value → H) :
    ReturnsInHanded {} Try.checked os 5 .any (Rows.factSpansSpec.pre6 enc Try.prog Try.f5 Rows.factSpansRow.domain false) (Rows.factSpansSpec.post enc Try.prog Try.f5 false true false false) := by
  refine returnsInHanded_of_change_sized (C := Try.checked) own started (by kernel_rfl) Try.func5
    (ChangeSpec.witness6 (enc := enc) (C := Try.checked) false ⟨#[], #[.slice none 0 0, .agg #[.int .i64 0, .int .i64 0]], []⟩ 8 (by kernel_rfl) (by kernel_rfl) (by kernel_rfl) (by kernel_rfl)) ?_
  intro W base args ds gs before hval0 hW hcnd hsz _
  have hval : ∀ (j : Nat) t v, Try.f5.params[j]? = some t → args[j]? = some v → Value.okWide Try.prog W .any base t v := hval0
  have hW' := hW
  obtain ⟨p, q, hA0, hV, rfl, hfz, hnd⟩ := hW
  have hA : DataW.TrodAll enc Try.prog W 0 (fun _ => true) true Try.f5.params.toList args.toList ds p := hA0
  rw [Try.params5] at hA hval
  obtain ⟨v0, vs0, d0, ds0, p0, q0, hargs, rfl, rfl, h0, r0⟩ := trodAll_cons hA
  obtain ⟨v1, vs1, d1, ds1, p1, q1, rfl, rfl, rfl, h1, r1⟩ := trodAll_cons r0
  obtain ⟨rfl, rfl, rfl⟩ := trodAll_nil r1
  obtain rfl : args = #[v0, v1] := by cases args; simp_all
  obtain ⟨rfl, rfl⟩ := trodVars_none hV
  have k0 := h0
  have lt0 : ∀ x ∈ p0, x.block < W.heap.size := by obtain ⟨m, hm⟩ := k0; exact DataW.trod_lt m _ _ _ hm
  obtain ⟨A0, l0, c0, rfl, hl0, hC0, hQ0, hb0⟩ := open_row opens_s40 Try.underlying36 (by kernel_rfl) (hval 0 _ v0 rfl rfl) h0 hsz 0 rfl rfl
  have k1 := h1
  have lt1 : ∀ x ∈ p1, x.block < W.heap.size := by obtain ⟨m, hm⟩ := k1; exact DataW.trod_lt m _ _ _ hm
  obtain ⟨a1, cs1, rfl, hK1, hQ1⟩ := open_struct opens_span Try.underlying44 (hval 1 _ v1 rfl rfl) h1 hsz 1 rfl rfl
  obtain rfl := two_open hK1
  clear hA0 hval0
  refine (gristmilllaw04_FactSpans.calls 70368747323732 A0 c0 l0 a1.1 a1.2 true W hC0 hl0 (spans_true l0 a1.1 a1.2 (fun x hx => (hQ0 x hx).1) (fun x hx => (hQ0 x hx).2) _ (Nat.le_refl _))).mono fun e W' ⟨he, bel⟩ => ?_
  subst he
  exact ⟨_, rfl, _, _, _, [], _, [], hW', trodAll_mk1 (shut_bool Try.underlying4 _), (trodAll_cons_mk (Below.trod laidOut (by kernel_rfl) (of_decide_eq_true (by kernel_rfl)) k0 bel lt0) (trodAll_cons_mk (Below.trod laidOut (by kernel_rfl) (of_decide_eq_true (by kernel_rfl)) k1 bel lt1) trodAll_mk0)), rfl, bel.frame _, fun h => by cases h⟩
theorem proved : Rows.FactSpansSaid :=
  OpenClaim.holds_of_wide 5 Try.f5 rfl rfl rfl rfl rfl rfl rfl ⟨rfl, rfl, rfl, rfl, rfl⟩ rfl rfl rfl rfl rfl (by kernel_rfl) Try.func5 (by kernel_rfl)
    (of_decide_eq_true (by kernel_rfl)) (by unfold Func.isWrapper; first | (rw [if_pos (by decide +kernel)]; kernel_rfl) | (rw [if_neg (by decide +kernel)]; exact ⟨rfl, rfl⟩))
    (fun os started H enc _ => lifted os started H enc)
end Go.Proofs.Ytfeeahjaeapkoaa.factSpans
end
