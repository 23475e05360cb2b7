/- Texts of this repo, joined, without what this claim does not use: P15. -/
import Derived.Test.YtmjhgeinhhhodaaDAggTurns1
import Derived.Test.YtmjhgeinhhhodaaDAggTurns2
import Derived.Test.YtmjhgeinhhhodaaDAggTurns3
import Derived.Test.YtmjhgeinhhhodaaDAggTurns4
section
namespace Go.Proofs.Ytmjhgeinhhhodaa.P
open Go.RowKit Go.Proofs.YtmjhgeinhhhodaaW.PrintWords Go.Proofs.YtmjhgeinhhhodaaW.PrintLast Go.Proofs.YtmjhgeinhhhodaaW.PrintMore
attribute [local go_sem] max2_int min2_int max_two min_two max_three min_three max_four min_four   -- for this text's walks alone
set_option linter.unusedVariables false
set_option linter.unusedSimpArgs false
open Go.Proofs.Ytmjhgeinhhhodaa.Ext (q1_ q2_ q3_ bk_ bw_ sz_ ne_ bx_)
attribute [local go_sem high] Go.Proofs.Ytmjhgeinhhhodaa.Ext.gtr_str Go.Proofs.Ytmjhgeinhhhodaa.Ext.leq_str Go.Proofs.Ytmjhgeinhhhodaa.Ext.geq_str
set_option maxHeartbeats 8000000 in
set_option maxRecDepth 100000 in
theorem gristmilllaw06_AggTurns.calls (k : Nat) (a0_0 : Int) (a0_1 : Int) (A1 : Option Addr) (c1 : Nat) (l1 : List (S44)) (A2 : Option Addr) (c2 : Nat) (l2 : List (S44)) (A3 : Option Addr) (c3 : Nat) (l3 : List (S44)) (r : Bool) (w : World) (hr1 : Kd.C k44 w A1 l1.length l1) (hc1 : l1.length ≤ c1) (hr2 : Kd.C k44 w A2 l2.length l2) (hc2 : l2.length ≤ c2) (hr3 : Kd.C k44 w A3 l3.length l3) (hc3 : l3.length ≤ c3) (hrt_ : r = true) (h : gristmilllaw06_AggTurns.f k a0_0 a0_1 l1 l2 l3 = some r) :
  Calls Try.prog 5 #[.agg #[.int .i64 a0_0, .int .i64 a0_1], .slice A1 l1.length c1, .slice A2 l2.length c2, .slice A3 l3.length c3] w fun e w' => e = .returned (.bool r) ∧ Below w.heap.size w w' := by
 have hu23 := Try.underlying23
 have hu27 := Try.underlying27
 have hu33 := Try.underlying33
 have hu44 := Try.underlying44
 have HR1 := Aside0.mk hr1
 have HC1 := Aside0.mk hc1
 clear hr1 hc1
 have HR2 := Aside0.mk hr2
 have HC2 := Aside0.mk hc2
 clear hr2 hc2
 have HR3 := Aside0.mk hr3
 have HC3 := Aside0.mk hc3
 clear hr3 hc3
 have HB := Aside0.mk (Below.refl w.heap.size w)
 have H : ((gristmilllaw06_awake.f).bind fun t292 => (if t292 = true then ((gristmilllaw06_right.f k a0_0 a0_1 l1).bind fun bt293 => ((gristmilllaw06_right.f k a0_0 a0_1 l2).bind fun bt302 => ((gristmilllaw06_right.f k a0_0 a0_1 l3).bind fun bt311 => ((gristmilllaw06_of.f k bt293.2.2.1 bt293.2.2.2.1 bt293.2.2.2.2).bind fun bt320 => ((gristmilllaw06_of.f k bt293.2.2.1 bt293.2.2.2.1 bt302.2.2.2.2).bind fun bt326 => ((gristmilllaw06_of.f k bt293.2.2.1 bt293.2.2.2.1 bt311.2.2.2.2).bind fun bt332 => (gristmilllaw06_AggTurns.l0 k bt293.2.2.2.2 ([] : List (S44)) (wrap64 ((bt293.2.2.2.2.length : Int) - 1)) bt293.2.2.1 bt293.2.2.2.1 bt320.1 bt320.2.1 bt320.2.2 bt326.1 bt326.2.1 bt326.2.2 bt332.1 bt332.2.1 bt332.2.2))))))) else (some false))) = some r := h
 clear h
 replace H := Option.bind_eq_some_iff.mp H
 obtain ⟨t292, A50, H⟩ := H
 replace H : (if t292 = true then ((gristmilllaw06_right.f k a0_0 a0_1 l1).bind fun bt293 => ((gristmilllaw06_right.f k a0_0 a0_1 l2).bind fun bt302 => ((gristmilllaw06_right.f k a0_0 a0_1 l3).bind fun bt311 => ((gristmilllaw06_of.f k bt293.2.2.1 bt293.2.2.2.1 bt293.2.2.2.2).bind fun bt320 => ((gristmilllaw06_of.f k bt293.2.2.1 bt293.2.2.2.1 bt302.2.2.2.2).bind fun bt326 => ((gristmilllaw06_of.f k bt293.2.2.1 bt293.2.2.2.1 bt311.2.2.2.2).bind fun bt332 => (gristmilllaw06_AggTurns.l0 k bt293.2.2.2.2 ([] : List (S44)) (wrap64 ((bt293.2.2.2.2.length : Int) - 1)) bt293.2.2.1 bt293.2.2.2.1 bt320.1 bt320.2.1 bt320.2.2 bt326.1 bt326.2.1 bt326.2.2 bt332.1 bt332.2.1 bt332.2.2))))))) else (some false)) = some r := H
 have A5 := Aside0.mk A50
 clear A50
 by_cases c6 : t292 = true
 ·subst c6
  have H1 : ((gristmilllaw06_right.f k a0_0 a0_1 l1).bind fun bt293 => ((gristmilllaw06_right.f k a0_0 a0_1 l2).bind fun bt302 => ((gristmilllaw06_right.f k a0_0 a0_1 l3).bind fun bt311 => ((gristmilllaw06_of.f k bt293.2.2.1 bt293.2.2.2.1 bt293.2.2.2.2).bind fun bt320 => ((gristmilllaw06_of.f k bt293.2.2.1 bt293.2.2.2.1 bt302.2.2.2.2).bind fun bt326 => ((gristmilllaw06_of.f k bt293.2.2.1 bt293.2.2.2.1 bt311.2.2.2.2).bind fun bt332 => (gristmilllaw06_AggTurns.l0 k bt293.2.2.2.2 ([] : List (S44)) (wrap64 ((bt293.2.2.2.2.length : Int) - 1)) bt293.2.2.1 bt293.2.2.2.1 bt320.1 bt320.2.1 bt320.2.2 bt326.1 bt326.2.1 bt326.2.2 bt332.1 bt332.2.1 bt332.2.2))))))) = some r := by rw [if_pos rfl] at H; exact H
  clear H
  have H := H1
  clear H1
  replace H := Option.bind_eq_some_iff.mp H
  obtain ⟨⟨t293, t294, t295, t296, t297⟩, A70, H⟩ := H
  replace H : ((gristmilllaw06_right.f k a0_0 a0_1 l2).bind fun bt302 => ((gristmilllaw06_right.f k a0_0 a0_1 l3).bind fun bt311 => ((gristmilllaw06_of.f k t295 t296 t297).bind fun bt320 => ((gristmilllaw06_of.f k t295 t296 bt302.2.2.2.2).bind fun bt326 => ((gristmilllaw06_of.f k t295 t296 bt311.2.2.2.2).bind fun bt332 => (gristmilllaw06_AggTurns.l0 k t297 ([] : List (S44)) (wrap64 ((t297.length : Int) - 1)) t295 t296 bt320.1 bt320.2.1 bt320.2.2 bt326.1 bt326.2.1 bt326.2.2 bt332.1 bt332.2.1 bt332.2.2)))))) = some r := H
  have A7 := Aside0.mk A70
  clear A70
  replace H := Option.bind_eq_some_iff.mp H
  obtain ⟨⟨t302, t303, t304, t305, t306⟩, A80, H⟩ := H
  replace H : ((gristmilllaw06_right.f k a0_0 a0_1 l3).bind fun bt311 => ((gristmilllaw06_of.f k t295 t296 t297).bind fun bt320 => ((gristmilllaw06_of.f k t295 t296 t306).bind fun bt326 => ((gristmilllaw06_of.f k t295 t296 bt311.2.2.2.2).bind fun bt332 => (gristmilllaw06_AggTurns.l0 k t297 ([] : List (S44)) (wrap64 ((t297.length : Int) - 1)) t295 t296 bt320.1 bt320.2.1 bt320.2.2 bt326.1 bt326.2.1 bt326.2.2 bt332.1 bt332.2.1 bt332.2.2))))) = some r := H
  have A8 := Aside0.mk A80
  clear A80
  replace H := Option.bind_eq_some_iff.mp H
  obtain ⟨⟨t311, t312, t313, t314, t315⟩, A90, H⟩ := H
  replace H : ((gristmilllaw06_of.f k t295 t296 t297).bind fun bt320 => ((gristmilllaw06_of.f k t295 t296 t306).bind fun bt326 => ((gristmilllaw06_of.f k t295 t296 t315).bind fun bt332 => (gristmilllaw06_AggTurns.l0 k t297 ([] : List (S44)) (wrap64 ((t297.length : Int) - 1)) t295 t296 bt320.1 bt320.2.1 bt320.2.2 bt326.1 bt326.2.1 bt326.2.2 bt332.1 bt332.2.1 bt332.2.2)))) = some r := H
  have A9 := Aside0.mk A90
  clear A90
  replace H := Option.bind_eq_some_iff.mp H
  obtain ⟨⟨t320, t321, t322⟩, A100, H⟩ := H
  replace H : ((gristmilllaw06_of.f k t295 t296 t306).bind fun bt326 => ((gristmilllaw06_of.f k t295 t296 t315).bind fun bt332 => (gristmilllaw06_AggTurns.l0 k t297 ([] : List (S44)) (wrap64 ((t297.length : Int) - 1)) t295 t296 t320 t321 t322 bt326.1 bt326.2.1 bt326.2.2 bt332.1 bt332.2.1 bt332.2.2))) = some r := H
  have A10 := Aside0.mk A100
  clear A100
  replace H := Option.bind_eq_some_iff.mp H
  obtain ⟨⟨t326, t327, t328⟩, A110, H⟩ := H
  replace H : ((gristmilllaw06_of.f k t295 t296 t315).bind fun bt332 => (gristmilllaw06_AggTurns.l0 k t297 ([] : List (S44)) (wrap64 ((t297.length : Int) - 1)) t295 t296 t320 t321 t322 t326 t327 t328 bt332.1 bt332.2.1 bt332.2.2)) = some r := H
  have A11 := Aside0.mk A110
  clear A110
  replace H := Option.bind_eq_some_iff.mp H
  obtain ⟨⟨t332, t333, t334⟩, A120, H⟩ := H
  replace H : (gristmilllaw06_AggTurns.l0 k t297 ([] : List (S44)) (wrap64 ((t297.length : Int) - 1)) t295 t296 t320 t321 t322 t326 t327 t328 t332 t333 t334) = some r := H
  have A12 := Aside0.mk A120
  clear A120
  have H' := Aside0.mk H
  clear H
  go_enter Try.func5, Try.ntmps5
  go_wp2_with (first | ((with_reducible refine gate_dst (N := 4) rfl ?_); refine bx_ (N := 4) (cs := #[.int .i64 a0_0, .int .i64 a0_1]) (t := 23) ?_; intro gb291 hg w13 hbox hb; have n0_ := Aside0.mk (below_step (bw_ HB.out) hb); have n1_ := Aside0.mk (hbox); have n2_ := Aside0.mk (sz_ hg (bw_ HB.out)); have n3_ := n2_; clear HB; have HB := n0_; have BK291 := n1_; have GW291 := n2_; have GE291 := n3_; clear n0_ n1_ n2_ n3_; clear hb hbox hg) | ((with_reducible refine gate_callee (f := 10) rfl ?_); refine goesL_ (some 26) rfl rfl Try.func10 (by kernel_rfl) rfl #[] rfl (by (try simp only [List.map_toArray, List.map_cons, List.map_nil]); first | done | rfl | (simp only [List.length_drop, List.length_take]; rfl)) ?_; (with_reducible refine (gristmilllaw06_awake.calls  true _ A5.out).mono ?_); rintro e w14 ⟨rfl, hb⟩; refine ⟨_, rfl, ?_⟩; have n0_ := Aside0.mk (blk_below (bk_ BK291.out) hb); have n1_ := Aside0.mk (below_step (bw_ HB.out) hb); clear BK291 HB; have BK291 := n0_; have HB := n1_; clear n0_ n1_; (try clear hb); (try clear hb2); (try clear hk); (try clear hi); have hcz15_0 : w14.cell? ⟨gb291, 0, none⟩ = some (.int .i64 a0_0) := (blk_cell BK291.out 0).trans rfl; have hcz15_1 : w14.cell? ⟨gb291, 1, none⟩ = some (.int .i64 a0_1) := (blk_cell BK291.out 1).trans rfl; have hfz15_0 := blk_frozen BK291.out 0; have hfz15_1 := blk_frozen BK291.out 1) | ((with_reducible refine gate_callee (f := 11) rfl ?_); refine goesL_ (some 32) rfl rfl Try.func11 (by kernel_rfl) rfl #[.agg #[.int .i64 a0_0, .int .i64 a0_1], .slice A1 l1.length c1] rfl (by (try simp only [List.map_toArray, List.map_cons, List.map_nil]); first | done | rfl | (simp only [List.length_drop, List.length_take]; rfl)) ?_; (with_reducible refine (gristmilllaw06_right.calls k a0_0 a0_1 _ _ l1 t293 t294 t295 t296 t297 _ ?side1 ?side2 A7.out).mono ?_); (case side1 => repeat (first | exact (Kd.C_below HR1.out HB.out) | (with_reducible refine Kd.C_alloc ?_ _) | (with_reducible refine Kd.C_drewN ?_ _) | (with_reducible refine Kd.C_drew ?_))); (case side2 => exact HC1.out); rintro e w16 ⟨v298, rfl, ho0, hb⟩; refine ⟨_, rfl, ?_⟩; have n0_ := Aside0.mk (Kd.N_lower (Kd.N_mono (ok' := fun k_ => k_ ≠ gb291) (Kd.S_N (Kd.S_bound ho0)) (fun k_ hk_ => (Kd.freshB (g := gb291) (o := .cells #[.int .i64 a0_0, .int .i64 a0_1] 23 (0, 0)) (bk_ BK291.out) k_ hk_.2.1))) (below_size (bw_ HB.out))); have n1_ := Aside0.mk (blk_below (bk_ BK291.out) hb); have n2_ := Aside0.mk (below_step (bw_ HB.out) hb); clear BK291 HB; have HO299 := n0_; have BK291 := n1_; have HB := n2_; clear n0_ n1_ n2_; (try clear hb); (try clear hb2); (try clear hk); (try clear hi); (try clear ho0)) | ((with_reducible refine gate_dst (N := 10) rfl ?_); refine bx_ (N := 10) (cs := #[.int .i64 0, .int .i64 0]) (t := 27) ?_; intro gb300 hg w17 hbox hb; have n0_ := Aside0.mk (Kd.N_below (Kd.N_elderB (by (with_reducible repeat (first | apply Kd.N_alloc | apply Kd.N_drewN | apply Kd.N_drew)); exact HO299.out) gb300 (Nat.le_of_eq hg.symm)) hb); have n1_ := Aside0.mk (blk_below (bk_ BK291.out) hb); have n2_ := Aside0.mk (below_step (bw_ HB.out) hb); have n3_ := Aside0.mk (hbox); have n4_ := Aside0.mk (sz_ hg (bw_ HB.out)); have n5_ := n4_; have n6_ := Aside0.mk (ne_ hg (blk_lt (bk_ BK291.out))); have n7_ := Aside0.mk n6_.out.symm; clear HO299 BK291 HB; have HO299 := n0_; have BK291 := n1_; have HB := n2_; have BK300 := n3_; have GW300 := n4_; have GE300 := n5_; have NB291_300 := n6_; have NB300_291 := n7_; clear n0_ n1_ n2_ n3_ n4_ n5_ n6_ n7_; clear hb hbox hg) | ((with_reducible refine gate_dst (N := 11) rfl ?_); refine bx_ (N := 11) (cs := #[.int .i64 0, .int .i64 0]) (t := 23) ?_; intro gb301 hg w18 hbox hb; have n0_ := Aside0.mk (Kd.N_below (Kd.N_elderB (by (with_reducible repeat (first | apply Kd.N_alloc | apply Kd.N_drewN | apply Kd.N_drew)); exact HO299.out) gb301 (Nat.le_of_eq hg.symm)) hb); have n1_ := Aside0.mk (blk_below (bk_ BK291.out) hb); have n2_ := Aside0.mk (blk_below (bk_ BK300.out) hb); have n3_ := Aside0.mk (below_step (bw_ HB.out) hb); have n4_ := Aside0.mk (hbox); have n5_ := Aside0.mk (sz_ hg (bw_ HB.out)); have n6_ := n5_; have n7_ := Aside0.mk (ne_ hg (blk_lt (bk_ BK291.out))); have n8_ := Aside0.mk n7_.out.symm; have n9_ := Aside0.mk (ne_ hg (blk_lt (bk_ BK300.out))); have n10_ := Aside0.mk n9_.out.symm; clear HO299 BK291 BK300 HB; have HO299 := n0_; have BK291 := n1_; have BK300 := n2_; have HB := n3_; have BK301 := n4_; have GW301 := n5_; have GE301 := n6_; have NB291_301 := n7_; have NB301_291 := n8_; have NB300_301 := n9_; have NB301_300 := n10_; clear n0_ n1_ n2_ n3_ n4_ n5_ n6_ n7_ n8_ n9_ n10_; clear hb hbox hg; have hnb19 := NB300_291.out; have hnc19 := NB291_300.out; have hnb20 := NB300_301.out; have hnc20 := NB301_300.out; have hcz21_0 : w18.cell? ⟨gb300, 0, none⟩ = some (.int .i64 0) := (blk_cell BK300.out 0).trans rfl; have hcz21_1 : w18.cell? ⟨gb300, 1, none⟩ = some (.int .i64 0) := (blk_cell BK300.out 1).trans rfl; have hfz21_0 := blk_frozen BK300.out 0; have hfz21_1 := blk_frozen BK300.out 1; have hnb22 := NB301_291.out; have hnc22 := NB291_301.out; have hcz23_0 : w18.cell? ⟨gb301, 0, none⟩ = some (.int .i64 0) := (blk_cell BK301.out 0).trans rfl; have hcz23_1 : w18.cell? ⟨gb301, 1, none⟩ = some (.int .i64 0) := (blk_cell BK301.out 1).trans rfl; have hfz23_0 := blk_frozen BK301.out 0; have hfz23_1 := blk_frozen BK301.out 1; have hcz24_0 : w18.cell? ⟨gb291, 0, none⟩ = some (.int .i64 a0_0) := (blk_cell BK291.out 0).trans rfl; have hcz24_1 : w18.cell? ⟨gb291, 1, none⟩ = some (.int .i64 a0_1) := (blk_cell BK291.out 1).trans rfl; have hfz24_0 := blk_frozen BK291.out 0; have hfz24_1 := blk_frozen BK291.out 1) | ((with_reducible refine gate_callee (f := 11) rfl ?_); refine goesL_ (some 39) rfl rfl Try.func11 (by kernel_rfl) rfl #[.agg #[.int .i64 a0_0, .int .i64 a0_1], .slice A2 l2.length c2] rfl (by (try simp only [List.map_toArray, List.map_cons, List.map_nil]); first | done | rfl | (simp only [List.length_drop, List.length_take]; rfl)) ?_; (with_reducible refine (gristmilllaw06_right.calls k a0_0 a0_1 _ _ l2 t302 t303 t304 t305 t306 _ ?side1 ?side2 A8.out).mono ?_); (case side1 => first | exact Kd.C_below HR2.out (bw_ HB.out) | exact Kd.C_below HR2.out (by with_reducible repeat (first | exact bw_ HB.out | refine below_set ?_ (by first | exact GW252.out | exact GW253.out | exact GW300.out | exact GW301.out)))); (case side2 => exact HC2.out); rintro e w25 ⟨v307, rfl, ho0, hb⟩; refine ⟨_, rfl, ?_⟩; have n0_ := Aside0.mk (Kd.N_elder' (by (with_reducible repeat (first | apply Kd.N_alloc | apply Kd.N_drewN | apply Kd.N_drew)); exact (Kd.N_mono (Kd.N_mono (Kd.N_far (p := ⟨gb301, 1, none⟩) (Kd.N_far (p := ⟨gb301, 0, none⟩) (Kd.N_far (p := ⟨gb300, 1, none⟩) (Kd.N_far (p := ⟨gb300, 0, none⟩) (Kd.N_mono (Kd.N_mono HO299.out (fun k_ hk => (⟨hk, hk.1.2⟩ : _ ∧ k_ ≠ gb300))) (fun k_ hk => (⟨hk, hk.1.2⟩ : _ ∧ k_ ≠ gb301))) (fun _ hk => hk.1.2) (.int .i64 t293)) (fun _ hk => hk.1.2) (.int .i64 t294)) (fun _ hk => hk.2) (.int .i64 t295)) (fun _ hk => hk.2) (.int .i64 t296)) (fun _ h_ => h_.1)) (fun _ h_ => h_.1))) (by first | exact Kd.N_base ho0 | exact Kd.S_base ho0) hb); have n1_ := Aside0.mk (Kd.N_lower (Kd.N_mono (ok' := fun k_ => some k_ ≠ (v298 : Value).ownBlock ∧ k_ ≠ gb291 ∧ k_ ≠ gb300 ∧ k_ ≠ gb301) (Kd.S_N (Kd.S_bound ho0)) (fun k_ hk_ => ⟨(Kd.fresh' (Kd.N_lt (by (with_reducible repeat (first | apply Kd.N_alloc | apply Kd.N_drewN | apply Kd.N_drew)); exact (Kd.N_mono (Kd.N_mono (Kd.N_far (p := ⟨gb301, 1, none⟩) (Kd.N_far (p := ⟨gb301, 0, none⟩) (Kd.N_far (p := ⟨gb300, 1, none⟩) (Kd.N_far (p := ⟨gb300, 0, none⟩) (Kd.N_mono (Kd.N_mono HO299.out (fun k_ hk => (⟨hk, hk.1.2⟩ : _ ∧ k_ ≠ gb300))) (fun k_ hk => (⟨hk, hk.1.2⟩ : _ ∧ k_ ≠ gb301))) (fun _ hk => hk.1.2) (.int .i64 t293)) (fun _ hk => hk.1.2) (.int .i64 t294)) (fun _ hk => hk.2) (.int .i64 t295)) (fun _ hk => hk.2) (.int .i64 t296)) (fun _ h_ => h_.1)) (fun _ h_ => h_.1)))) k_ hk_.2.1), (Kd.freshB (g := gb291) (o := .cells #[.int .i64 a0_0, .int .i64 a0_1] 23 (0, 0)) (by (with_reducible repeat (first | refine blk_drewN ?_ _ | refine blk_drew ?_ | refine blk_alloc ?_ _)); refine blk_far ?_ NB291_301.out _; (with_reducible repeat (first | refine blk_drewN ?_ _ | refine blk_drew ?_ | refine blk_alloc ?_ _)); refine blk_far ?_ NB291_301.out _; (with_reducible repeat (first | refine blk_drewN ?_ _ | refine blk_drew ?_ | refine blk_alloc ?_ _)); refine blk_far ?_ NB291_300.out _; (with_reducible repeat (first | refine blk_drewN ?_ _ | refine blk_drew ?_ | refine blk_alloc ?_ _)); refine blk_far ?_ NB291_300.out _; (with_reducible repeat (first | refine blk_drewN ?_ _ | refine blk_drew ?_ | refine blk_alloc ?_ _)); exact BK291.out) k_ hk_.2.1), (Kd.freshB (g := gb300) (o := .cells #[.int .i64 t293, .int .i64 t294] 27 (0, 0)) (by (with_reducible repeat (first | refine blk_drewN ?_ _ | refine blk_drew ?_ | refine blk_alloc ?_ _)); refine blk_far ?_ NB300_301.out _; (with_reducible repeat (first | refine blk_drewN ?_ _ | refine blk_drew ?_ | refine blk_alloc ?_ _)); refine blk_far ?_ NB300_301.out _; (with_reducible repeat (first | refine blk_drewN ?_ _ | refine blk_drew ?_ | refine blk_alloc ?_ _)); refine blk_put (cs := #[.int .i64 t293, .int .i64 0]) ?_ 1 _ rfl; (with_reducible repeat (first | refine blk_drewN ?_ _ | refine blk_drew ?_ | refine blk_alloc ?_ _)); refine blk_put (cs := #[.int .i64 0, .int .i64 0]) ?_ 0 _ rfl; (with_reducible repeat (first | refine blk_drewN ?_ _ | refine blk_drew ?_ | refine blk_alloc ?_ _)); exact BK300.out) k_ hk_.2.1), (Kd.freshB (g := gb301) (o := .cells #[.int .i64 t295, .int .i64 t296] 23 (0, 0)) (by (with_reducible repeat (first | refine blk_drewN ?_ _ | refine blk_drew ?_ | refine blk_alloc ?_ _)); refine blk_put (cs := #[.int .i64 t295, .int .i64 0]) ?_ 1 _ rfl; (with_reducible repeat (first | refine blk_drewN ?_ _ | refine blk_drew ?_ | refine blk_alloc ?_ _)); refine blk_put (cs := #[.int .i64 0, .int .i64 0]) ?_ 0 _ rfl; (with_reducible repeat (first | refine blk_drewN ?_ _ | refine blk_drew ?_ | refine blk_alloc ?_ _)); refine blk_far ?_ NB301_300.out _; (with_reducible repeat (first | refine blk_drewN ?_ _ | refine blk_drew ?_ | refine blk_alloc ?_ _)); refine blk_far ?_ NB301_300.out _; (with_reducible repeat (first | refine blk_drewN ?_ _ | refine blk_drew ?_ | refine blk_alloc ?_ _)); exact BK301.out) k_ hk_.2.1)⟩)) (below_size (bw_ HB.out))); have n2_ := Aside0.mk (blk_below (g := gb291) (o := .cells #[.int .i64 a0_0, .int .i64 a0_1] 23 (0, 0)) (by (with_reducible repeat (first | refine blk_drewN ?_ _ | refine blk_drew ?_ | refine blk_alloc ?_ _)); refine blk_far ?_ NB291_301.out _; (with_reducible repeat (first | refine blk_drewN ?_ _ | refine blk_drew ?_ | refine blk_alloc ?_ _)); refine blk_far ?_ NB291_301.out _; (with_reducible repeat (first | refine blk_drewN ?_ _ | refine blk_drew ?_ | refine blk_alloc ?_ _)); refine blk_far ?_ NB291_300.out _; (with_reducible repeat (first | refine blk_drewN ?_ _ | refine blk_drew ?_ | refine blk_alloc ?_ _)); refine blk_far ?_ NB291_300.out _; (with_reducible repeat (first | refine blk_drewN ?_ _ | refine blk_drew ?_ | refine blk_alloc ?_ _)); exact BK291.out) hb); have n3_ := Aside0.mk (blk_below (g := gb300) (o := .cells #[.int .i64 t293, .int .i64 t294] 27 (0, 0)) (by (with_reducible repeat (first | refine blk_drewN ?_ _ | refine blk_drew ?_ | refine blk_alloc ?_ _)); refine blk_far ?_ NB300_301.out _; (with_reducible repeat (first | refine blk_drewN ?_ _ | refine blk_drew ?_ | refine blk_alloc ?_ _)); refine blk_far ?_ NB300_301.out _; (with_reducible repeat (first | refine blk_drewN ?_ _ | refine blk_drew ?_ | refine blk_alloc ?_ _)); refine blk_put (cs := #[.int .i64 t293, .int .i64 0]) ?_ 1 _ rfl; (with_reducible repeat (first | refine blk_drewN ?_ _ | refine blk_drew ?_ | refine blk_alloc ?_ _)); refine blk_put (cs := #[.int .i64 0, .int .i64 0]) ?_ 0 _ rfl; (with_reducible repeat (first | refine blk_drewN ?_ _ | refine blk_drew ?_ | refine blk_alloc ?_ _)); exact BK300.out) hb); have n4_ := Aside0.mk (blk_below (g := gb301) (o := .cells #[.int .i64 t295, .int .i64 t296] 23 (0, 0)) (by (with_reducible repeat (first | refine blk_drewN ?_ _ | refine blk_drew ?_ | refine blk_alloc ?_ _)); refine blk_put (cs := #[.int .i64 t295, .int .i64 0]) ?_ 1 _ rfl; (with_reducible repeat (first | refine blk_drewN ?_ _ | refine blk_drew ?_ | refine blk_alloc ?_ _)); refine blk_put (cs := #[.int .i64 0, .int .i64 0]) ?_ 0 _ rfl; (with_reducible repeat (first | refine blk_drewN ?_ _ | refine blk_drew ?_ | refine blk_alloc ?_ _)); refine blk_far ?_ NB301_300.out _; (with_reducible repeat (first | refine blk_drewN ?_ _ | refine blk_drew ?_ | refine blk_alloc ?_ _)); refine blk_far ?_ NB301_300.out _; (with_reducible repeat (first | refine blk_drewN ?_ _ | refine blk_drew ?_ | refine blk_alloc ?_ _)); exact BK301.out) hb); have n5_ := Aside0.mk (below_step (bw_ HB.out) hb); clear HO299 BK291 BK300 BK301 HB; have HO299 := n0_; have HO308 := n1_; have BK291 := n2_; have BK300 := n3_; have BK301 := n4_; have HB := n5_; clear n0_ n1_ n2_ n3_ n4_ n5_; (try clear hb); (try clear hb2); (try clear hk); (try clear hi); (try clear ho0)) | ((with_reducible refine gate_dst (N := 13) rfl ?_); refine bx_ (N := 13) (cs := #[.int .i64 0, .int .i64 0]) (t := 27) ?_; intro gb309 hg w26 hbox hb; have n0_ := Aside0.mk (Kd.N_below (Kd.N_elderB (by (with_reducible repeat (first | apply Kd.N_alloc | apply Kd.N_drewN | apply Kd.N_drew)); exact HO299.out) gb309 (Nat.le_of_eq hg.symm)) hb); have n1_ := Aside0.mk (Kd.N_below (Kd.N_elderB (by (with_reducible repeat (first | apply Kd.N_alloc | apply Kd.N_drewN | apply Kd.N_drew)); exact HO308.out) gb309 (Nat.le_of_eq hg.symm)) hb); have n2_ := Aside0.mk (blk_below (bk_ BK291.out) hb); have n3_ := Aside0.mk (blk_below (bk_ BK300.out) hb); have n4_ := Aside0.mk (blk_below (bk_ BK301.out) hb); have n5_ := Aside0.mk (below_step (bw_ HB.out) hb); have n6_ := Aside0.mk (hbox); have n7_ := Aside0.mk (sz_ hg (bw_ HB.out)); have n8_ := n7_; have n9_ := Aside0.mk (ne_ hg (blk_lt (bk_ BK291.out))); have n10_ := Aside0.mk n9_.out.symm; have n11_ := Aside0.mk (ne_ hg (blk_lt (bk_ BK300.out))); have n12_ := Aside0.mk n11_.out.symm; have n13_ := Aside0.mk (ne_ hg (blk_lt (bk_ BK301.out))); have n14_ := Aside0.mk n13_.out.symm; clear HO299 HO308 BK291 BK300 BK301 HB; have HO299 := n0_; have HO308 := n1_; have BK291 := n2_; have BK300 := n3_; have BK301 := n4_; have HB := n5_; have BK309 := n6_; have GW309 := n7_; have GE309 := n8_; have NB291_309 := n9_; have NB309_291 := n10_; have NB300_309 := n11_; have NB309_300 := n12_; have NB301_309 := n13_; have NB309_301 := n14_; clear n0_ n1_ n2_ n3_ n4_ n5_ n6_ n7_ n8_ n9_ n10_ n11_ n12_ n13_ n14_; clear hb hbox hg) | ((with_reducible refine gate_dst (N := 14) rfl ?_); refine bx_ (N := 14) (cs := #[.int .i64 0, .int .i64 0]) (t := 23) ?_; intro gb310 hg w27 hbox hb; have n0_ := Aside0.mk (Kd.N_below (Kd.N_elderB (by (with_reducible repeat (first | apply Kd.N_alloc | apply Kd.N_drewN | apply Kd.N_drew)); exact HO299.out) gb310 (Nat.le_of_eq hg.symm)) hb); have n1_ := Aside0.mk (Kd.N_below (Kd.N_elderB (by (with_reducible repeat (first | apply Kd.N_alloc | apply Kd.N_drewN | apply Kd.N_drew)); exact HO308.out) gb310 (Nat.le_of_eq hg.symm)) hb); have n2_ := Aside0.mk (blk_below (bk_ BK291.out) hb); have n3_ := Aside0.mk (blk_below (bk_ BK300.out) hb); have n4_ := Aside0.mk (blk_below (bk_ BK301.out) hb); have n5_ := Aside0.mk (blk_below (bk_ BK309.out) hb); have n6_ := Aside0.mk (below_step (bw_ HB.out) hb); have n7_ := Aside0.mk (hbox); have n8_ := Aside0.mk (sz_ hg (bw_ HB.out)); have n9_ := n8_; have n10_ := Aside0.mk (ne_ hg (blk_lt (bk_ BK291.out))); have n11_ := Aside0.mk n10_.out.symm; have n12_ := Aside0.mk (ne_ hg (blk_lt (bk_ BK300.out))); have n13_ := Aside0.mk n12_.out.symm; have n14_ := Aside0.mk (ne_ hg (blk_lt (bk_ BK301.out))); have n15_ := Aside0.mk n14_.out.symm; have n16_ := Aside0.mk (ne_ hg (blk_lt (bk_ BK309.out))); have n17_ := Aside0.mk n16_.out.symm; clear HO299 HO308 BK291 BK300 BK301 BK309 HB; have HO299 := n0_; have HO308 := n1_; have BK291 := n2_; have BK300 := n3_; have BK301 := n4_; have BK309 := n5_; have HB := n6_; have BK310 := n7_; have GW310 := n8_; have GE310 := n9_; have NB291_310 := n10_; have NB310_291 := n11_; have NB300_310 := n12_; have NB310_300 := n13_; have NB301_310 := n14_; have NB310_301 := n15_; have NB309_310 := n16_; have NB310_309 := n17_; clear n0_ n1_ n2_ n3_ n4_ n5_ n6_ n7_ n8_ n9_ n10_ n11_ n12_ n13_ n14_ n15_ n16_ n17_; clear hb hbox hg; have hnb28 := NB309_291.out; have hnc28 := NB291_309.out; have hnb29 := NB309_300.out; have hnc29 := NB300_309.out; have hnb30 := NB309_301.out; have hnc30 := NB301_309.out; have hnb31 := NB309_310.out; have hnc31 := NB310_309.out; have hcz32_0 : w27.cell? ⟨gb309, 0, none⟩ = some (.int .i64 0) := (blk_cell BK309.out 0).trans rfl; have hcz32_1 : w27.cell? ⟨gb309, 1, none⟩ = some (.int .i64 0) := (blk_cell BK309.out 1).trans rfl; have hfz32_0 := blk_frozen BK309.out 0; have hfz32_1 := blk_frozen BK309.out 1; have hnb33 := NB310_291.out; have hnc33 := NB291_310.out; have hnb34 := NB310_300.out; have hnc34 := NB300_310.out; have hnb35 := NB310_301.out; have hnc35 := NB301_310.out; have hcz36_0 : w27.cell? ⟨gb310, 0, none⟩ = some (.int .i64 0) := (blk_cell BK310.out 0).trans rfl; have hcz36_1 : w27.cell? ⟨gb310, 1, none⟩ = some (.int .i64 0) := (blk_cell BK310.out 1).trans rfl; have hfz36_0 := blk_frozen BK310.out 0; have hfz36_1 := blk_frozen BK310.out 1; have hcz37_0 : w27.cell? ⟨gb291, 0, none⟩ = some (.int .i64 a0_0) := (blk_cell BK291.out 0).trans rfl; have hcz37_1 : w27.cell? ⟨gb291, 1, none⟩ = some (.int .i64 a0_1) := (blk_cell BK291.out 1).trans rfl; have hfz37_0 := blk_frozen BK291.out 0; have hfz37_1 := blk_frozen BK291.out 1) | ((with_reducible refine gate_callee (f := 11) rfl ?_); refine goesL_ (some 46) rfl rfl Try.func11 (by kernel_rfl) rfl #[.agg #[.int .i64 a0_0, .int .i64 a0_1], .slice A3 l3.length c3] rfl (by (try simp only [List.map_toArray, List.map_cons, List.map_nil]); first | done | rfl | (simp only [List.length_drop, List.length_take]; rfl)) ?_; (with_reducible refine (gristmilllaw06_right.calls k a0_0 a0_1 _ _ l3 t311 t312 t313 t314 t315 _ ?side1 ?side2 A9.out).mono ?_); (case side1 => first | exact Kd.C_below HR3.out (bw_ HB.out) | exact Kd.C_below HR3.out (by with_reducible repeat (first | exact bw_ HB.out | refine below_set ?_ (by first | exact GW309.out | exact GW310.out)))); (case side2 => exact HC3.out); rintro e w38 ⟨v316, rfl, ho0, hb⟩; refine ⟨_, rfl, ?_⟩; have n0_ := Aside0.mk (Kd.N_elder' (by (with_reducible repeat (first | apply Kd.N_alloc | apply Kd.N_drewN | apply Kd.N_drew)); exact (Kd.N_mono (Kd.N_mono (Kd.N_far (p := ⟨gb310, 1, none⟩) (Kd.N_far (p := ⟨gb310, 0, none⟩) (Kd.N_far (p := ⟨gb309, 1, none⟩) (Kd.N_far (p := ⟨gb309, 0, none⟩) (Kd.N_mono (Kd.N_mono HO299.out (fun k_ hk => (⟨hk, hk.1.2⟩ : _ ∧ k_ ≠ gb309))) (fun k_ hk => (⟨hk, hk.1.2⟩ : _ ∧ k_ ≠ gb310))) (fun _ hk => hk.1.2) (.int .i64 t302)) (fun _ hk => hk.1.2) (.int .i64 t303)) (fun _ hk => hk.2) (.int .i64 t304)) (fun _ hk => hk.2) (.int .i64 t305)) (fun _ h_ => h_.1)) (fun _ h_ => h_.1))) (by first | exact Kd.N_base ho0 | exact Kd.S_base ho0) hb); have n1_ := Aside0.mk (Kd.N_elder' (by (with_reducible repeat (first | apply Kd.N_alloc | apply Kd.N_drewN | apply Kd.N_drew)); exact (Kd.N_mono (Kd.N_mono (Kd.N_far (p := ⟨gb310, 1, none⟩) (Kd.N_far (p := ⟨gb310, 0, none⟩) (Kd.N_far (p := ⟨gb309, 1, none⟩) (Kd.N_far (p := ⟨gb309, 0, none⟩) (Kd.N_mono (Kd.N_mono HO308.out (fun k_ hk => (⟨hk, hk.1.2⟩ : _ ∧ k_ ≠ gb309))) (fun k_ hk => (⟨hk, hk.1.2⟩ : _ ∧ k_ ≠ gb310))) (fun _ hk => hk.1.2) (.int .i64 t302)) (fun _ hk => hk.1.2) (.int .i64 t303)) (fun _ hk => hk.2) (.int .i64 t304)) (fun _ hk => hk.2) (.int .i64 t305)) (fun _ h_ => h_.1)) (fun _ h_ => h_.1))) (by first | exact Kd.N_base ho0 | exact Kd.S_base ho0) hb); have n2_ := Aside0.mk (Kd.N_lower (Kd.N_mono (ok' := fun k_ => some k_ ≠ (v298 : Value).ownBlock ∧ some k_ ≠ (v307 : Value).ownBlock ∧ k_ ≠ gb291 ∧ k_ ≠ gb300 ∧ k_ ≠ gb301 ∧ k_ ≠ gb309 ∧ k_ ≠ gb310) (Kd.S_N (Kd.S_bound ho0)) (fun k_ hk_ => ⟨(Kd.fresh' (Kd.N_lt (by (with_reducible repeat (first | apply Kd.N_alloc | apply Kd.N_drewN | apply Kd.N_drew)); exact (Kd.N_mono (Kd.N_mono (Kd.N_far (p := ⟨gb310, 1, none⟩) (Kd.N_far (p := ⟨gb310, 0, none⟩) (Kd.N_far (p := ⟨gb309, 1, none⟩) (Kd.N_far (p := ⟨gb309, 0, none⟩) (Kd.N_mono (Kd.N_mono HO299.out (fun k_ hk => (⟨hk, hk.1.2⟩ : _ ∧ k_ ≠ gb309))) (fun k_ hk => (⟨hk, hk.1.2⟩ : _ ∧ k_ ≠ gb310))) (fun _ hk => hk.1.2) (.int .i64 t302)) (fun _ hk => hk.1.2) (.int .i64 t303)) (fun _ hk => hk.2) (.int .i64 t304)) (fun _ hk => hk.2) (.int .i64 t305)) (fun _ h_ => h_.1)) (fun _ h_ => h_.1)))) k_ hk_.2.1), (Kd.fresh' (Kd.N_lt (by (with_reducible repeat (first | apply Kd.N_alloc | apply Kd.N_drewN | apply Kd.N_drew)); exact (Kd.N_mono (Kd.N_mono (Kd.N_far (p := ⟨gb310, 1, none⟩) (Kd.N_far (p := ⟨gb310, 0, none⟩) (Kd.N_far (p := ⟨gb309, 1, none⟩) (Kd.N_far (p := ⟨gb309, 0, none⟩) (Kd.N_mono (Kd.N_mono HO308.out (fun k_ hk => (⟨hk, hk.1.2⟩ : _ ∧ k_ ≠ gb309))) (fun k_ hk => (⟨hk, hk.1.2⟩ : _ ∧ k_ ≠ gb310))) (fun _ hk => hk.1.2) (.int .i64 t302)) (fun _ hk => hk.1.2) (.int .i64 t303)) (fun _ hk => hk.2) (.int .i64 t304)) (fun _ hk => hk.2) (.int .i64 t305)) (fun _ h_ => h_.1)) (fun _ h_ => h_.1)))) k_ hk_.2.1), (Kd.freshB (g := gb291) (o := .cells #[.int .i64 a0_0, .int .i64 a0_1] 23 (0, 0)) (by (with_reducible repeat (first | refine blk_drewN ?_ _ | refine blk_drew ?_ | refine blk_alloc ?_ _)); refine blk_far ?_ NB291_310.out _; (with_reducible repeat (first | refine blk_drewN ?_ _ | refine blk_drew ?_ | refine blk_alloc ?_ _)); refine blk_far ?_ NB291_310.out _; (with_reducible repeat (first | refine blk_drewN ?_ _ | refine blk_drew ?_ | refine blk_alloc ?_ _)); refine blk_far ?_ NB291_309.out _; (with_reducible repeat (first | refine blk_drewN ?_ _ | refine blk_drew ?_ | refine blk_alloc ?_ _)); refine blk_far ?_ NB291_309.out _; (with_reducible repeat (first | refine blk_drewN ?_ _ | refine blk_drew ?_ | refine blk_alloc ?_ _)); exact BK291.out) k_ hk_.2.1), (Kd.freshB (g := gb300) (o := .cells #[.int .i64 t293, .int .i64 t294] 27 (0, 0)) (by (with_reducible repeat (first | refine blk_drewN ?_ _ | refine blk_drew ?_ | refine blk_alloc ?_ _)); refine blk_far ?_ NB300_310.out _; (with_reducible repeat (first | refine blk_drewN ?_ _ | refine blk_drew ?_ | refine blk_alloc ?_ _)); refine blk_far ?_ NB300_310.out _; (with_reducible repeat (first | refine blk_drewN ?_ _ | refine blk_drew ?_ | refine blk_alloc ?_ _)); refine blk_far ?_ NB300_309.out _; (with_reducible repeat (first | refine blk_drewN ?_ _ | refine blk_drew ?_ | refine blk_alloc ?_ _)); refine blk_far ?_ NB300_309.out _; (with_reducible repeat (first | refine blk_drewN ?_ _ | refine blk_drew ?_ | refine blk_alloc ?_ _)); exact BK300.out) k_ hk_.2.1), (Kd.freshB (g := gb301) (o := .cells #[.int .i64 t295, .int .i64 t296] 23 (0, 0)) (by (with_reducible repeat (first | refine blk_drewN ?_ _ | refine blk_drew ?_ | refine blk_alloc ?_ _)); refine blk_far ?_ NB301_310.out _; (with_reducible repeat (first | refine blk_drewN ?_ _ | refine blk_drew ?_ | refine blk_alloc ?_ _)); refine blk_far ?_ NB301_310.out _; (with_reducible repeat (first | refine blk_drewN ?_ _ | refine blk_drew ?_ | refine blk_alloc ?_ _)); refine blk_far ?_ NB301_309.out _; (with_reducible repeat (first | refine blk_drewN ?_ _ | refine blk_drew ?_ | refine blk_alloc ?_ _)); refine blk_far ?_ NB301_309.out _; (with_reducible repeat (first | refine blk_drewN ?_ _ | refine blk_drew ?_ | refine blk_alloc ?_ _)); exact BK301.out) k_ hk_.2.1), (Kd.freshB (g := gb309) (o := .cells #[.int .i64 t302, .int .i64 t303] 27 (0, 0)) (by (with_reducible repeat (first | refine blk_drewN ?_ _ | refine blk_drew ?_ | refine blk_alloc ?_ _)); refine blk_far ?_ NB309_310.out _; (with_reducible repeat (first | refine blk_drewN ?_ _ | refine blk_drew ?_ | refine blk_alloc ?_ _)); refine blk_far ?_ NB309_310.out _; (with_reducible repeat (first | refine blk_drewN ?_ _ | refine blk_drew ?_ | refine blk_alloc ?_ _)); refine blk_put (cs := #[.int .i64 t302, .int .i64 0]) ?_ 1 _ rfl; (with_reducible repeat (first | refine blk_drewN ?_ _ | refine blk_drew ?_ | refine blk_alloc ?_ _)); refine blk_put (cs := #[.int .i64 0, .int .i64 0]) ?_ 0 _ rfl; (with_reducible repeat (first | refine blk_drewN ?_ _ | refine blk_drew ?_ | refine blk_alloc ?_ _)); exact BK309.out) k_ hk_.2.1), (Kd.freshB (g := gb310) (o := .cells #[.int .i64 t304, .int .i64 t305] 23 (0, 0)) (by (with_reducible repeat (first | refine blk_drewN ?_ _ | refine blk_drew ?_ | refine blk_alloc ?_ _)); refine blk_put (cs := #[.int .i64 t304, .int .i64 0]) ?_ 1 _ rfl; (with_reducible repeat (first | refine blk_drewN ?_ _ | refine blk_drew ?_ | refine blk_alloc ?_ _)); refine blk_put (cs := #[.int .i64 0, .int .i64 0]) ?_ 0 _ rfl; (with_reducible repeat (first | refine blk_drewN ?_ _ | refine blk_drew ?_ | refine blk_alloc ?_ _)); refine blk_far ?_ NB310_309.out _; (with_reducible repeat (first | refine blk_drewN ?_ _ | refine blk_drew ?_ | refine blk_alloc ?_ _)); refine blk_far ?_ NB310_309.out _; (with_reducible repeat (first | refine blk_drewN ?_ _ | refine blk_drew ?_ | refine blk_alloc ?_ _)); exact BK310.out) k_ hk_.2.1)⟩)) (below_size (bw_ HB.out))); have n3_ := Aside0.mk (blk_below (g := gb291) (o := .cells #[.int .i64 a0_0, .int .i64 a0_1] 23 (0, 0)) (by (with_reducible repeat (first | refine blk_drewN ?_ _ | refine blk_drew ?_ | refine blk_alloc ?_ _)); refine blk_far ?_ NB291_310.out _; (with_reducible repeat (first | refine blk_drewN ?_ _ | refine blk_drew ?_ | refine blk_alloc ?_ _)); refine blk_far ?_ NB291_310.out _; (with_reducible repeat (first | refine blk_drewN ?_ _ | refine blk_drew ?_ | refine blk_alloc ?_ _)); refine blk_far ?_ NB291_309.out _; (with_reducible repeat (first | refine blk_drewN ?_ _ | refine blk_drew ?_ | refine blk_alloc ?_ _)); refine blk_far ?_ NB291_309.out _; (with_reducible repeat (first | refine blk_drewN ?_ _ | refine blk_drew ?_ | refine blk_alloc ?_ _)); exact BK291.out) hb); have n4_ := Aside0.mk (blk_below (g := gb300) (o := .cells #[.int .i64 t293, .int .i64 t294] 27 (0, 0)) (by (with_reducible repeat (first | refine blk_drewN ?_ _ | refine blk_drew ?_ | refine blk_alloc ?_ _)); refine blk_far ?_ NB300_310.out _; (with_reducible repeat (first | refine blk_drewN ?_ _ | refine blk_drew ?_ | refine blk_alloc ?_ _)); refine blk_far ?_ NB300_310.out _; (with_reducible repeat (first | refine blk_drewN ?_ _ | refine blk_drew ?_ | refine blk_alloc ?_ _)); refine blk_far ?_ NB300_309.out _; (with_reducible repeat (first | refine blk_drewN ?_ _ | refine blk_drew ?_ | refine blk_alloc ?_ _)); refine blk_far ?_ NB300_309.out _; (with_reducible repeat (first | refine blk_drewN ?_ _ | refine blk_drew ?_ | refine blk_alloc ?_ _)); exact BK300.out) hb); have n5_ := Aside0.mk (blk_below (g := gb301) (o := .cells #[.int .i64 t295, .int .i64 t296] 23 (0, 0)) (by (with_reducible repeat (first | refine blk_drewN ?_ _ | refine blk_drew ?_ | refine blk_alloc ?_ _)); refine blk_far ?_ NB301_310.out _; (with_reducible repeat (first | refine blk_drewN ?_ _ | refine blk_drew ?_ | refine blk_alloc ?_ _)); refine blk_far ?_ NB301_310.out _; (with_reducible repeat (first | refine blk_drewN ?_ _ | refine blk_drew ?_ | refine blk_alloc ?_ _)); refine blk_far ?_ NB301_309.out _; (with_reducible repeat (first | refine blk_drewN ?_ _ | refine blk_drew ?_ | refine blk_alloc ?_ _)); refine blk_far ?_ NB301_309.out _; (with_reducible repeat (first | refine blk_drewN ?_ _ | refine blk_drew ?_ | refine blk_alloc ?_ _)); exact BK301.out) hb); have n6_ := Aside0.mk (blk_below (g := gb309) (o := .cells #[.int .i64 t302, .int .i64 t303] 27 (0, 0)) (by (with_reducible repeat (first | refine blk_drewN ?_ _ | refine blk_drew ?_ | refine blk_alloc ?_ _)); refine blk_far ?_ NB309_310.out _; (with_reducible repeat (first | refine blk_drewN ?_ _ | refine blk_drew ?_ | refine blk_alloc ?_ _)); refine blk_far ?_ NB309_310.out _; (with_reducible repeat (first | refine blk_drewN ?_ _ | refine blk_drew ?_ | refine blk_alloc ?_ _)); refine blk_put (cs := #[.int .i64 t302, .int .i64 0]) ?_ 1 _ rfl; (with_reducible repeat (first | refine blk_drewN ?_ _ | refine blk_drew ?_ | refine blk_alloc ?_ _)); refine blk_put (cs := #[.int .i64 0, .int .i64 0]) ?_ 0 _ rfl; (with_reducible repeat (first | refine blk_drewN ?_ _ | refine blk_drew ?_ | refine blk_alloc ?_ _)); exact BK309.out) hb); have n7_ := Aside0.mk (blk_below (g := gb310) (o := .cells #[.int .i64 t304, .int .i64 t305] 23 (0, 0)) (by (with_reducible repeat (first | refine blk_drewN ?_ _ | refine blk_drew ?_ | refine blk_alloc ?_ _)); refine blk_put (cs := #[.int .i64 t304, .int .i64 0]) ?_ 1 _ rfl; (with_reducible repeat (first | refine blk_drewN ?_ _ | refine blk_drew ?_ | refine blk_alloc ?_ _)); refine blk_put (cs := #[.int .i64 0, .int .i64 0]) ?_ 0 _ rfl; (with_reducible repeat (first | refine blk_drewN ?_ _ | refine blk_drew ?_ | refine blk_alloc ?_ _)); refine blk_far ?_ NB310_309.out _; (with_reducible repeat (first | refine blk_drewN ?_ _ | refine blk_drew ?_ | refine blk_alloc ?_ _)); refine blk_far ?_ NB310_309.out _; (with_reducible repeat (first | refine blk_drewN ?_ _ | refine blk_drew ?_ | refine blk_alloc ?_ _)); exact BK310.out) hb); have n8_ := Aside0.mk (below_step (bw_ HB.out) hb); clear HO299 HO308 BK291 BK300 BK301 BK309 BK310 HB; have HO299 := n0_; have HO308 := n1_; have HO317 := n2_; have BK291 := n3_; have BK300 := n4_; have BK301 := n5_; have BK309 := n6_; have BK310 := n7_; have HB := n8_; clear n0_ n1_ n2_ n3_ n4_ n5_ n6_ n7_ n8_; (try clear hb); (try clear hb2); (try clear hk); (try clear hi); (try clear ho0)) | ((with_reducible refine gate_dst (N := 16) rfl ?_); refine bx_ (N := 16) (cs := #[.int .i64 0, .int .i64 0]) (t := 27) ?_; intro gb318 hg w39 hbox hb; have n0_ := Aside0.mk (Kd.N_below (Kd.N_elderB (by (with_reducible repeat (first | apply Kd.N_alloc | apply Kd.N_drewN | apply Kd.N_drew)); exact HO299.out) gb318 (Nat.le_of_eq hg.symm)) hb); have n1_ := Aside0.mk (Kd.N_below (Kd.N_elderB (by (with_reducible repeat (first | apply Kd.N_alloc | apply Kd.N_drewN | apply Kd.N_drew)); exact HO308.out) gb318 (Nat.le_of_eq hg.symm)) hb); have n2_ := Aside0.mk (Kd.N_below (Kd.N_elderB (by (with_reducible repeat (first | apply Kd.N_alloc | apply Kd.N_drewN | apply Kd.N_drew)); exact HO317.out) gb318 (Nat.le_of_eq hg.symm)) hb); have n3_ := Aside0.mk (blk_below (bk_ BK291.out) hb); have n4_ := Aside0.mk (blk_below (bk_ BK300.out) hb); have n5_ := Aside0.mk (blk_below (bk_ BK301.out) hb); have n6_ := Aside0.mk (blk_below (bk_ BK309.out) hb); have n7_ := Aside0.mk (blk_below (bk_ BK310.out) hb); have n8_ := Aside0.mk (below_step (bw_ HB.out) hb); have n9_ := Aside0.mk (hbox); have n10_ := Aside0.mk (sz_ hg (bw_ HB.out)); have n11_ := n10_; have n12_ := Aside0.mk (ne_ hg (blk_lt (bk_ BK291.out))); have n13_ := Aside0.mk n12_.out.symm; have n14_ := Aside0.mk (ne_ hg (blk_lt (bk_ BK300.out))); have n15_ := Aside0.mk n14_.out.symm; have n16_ := Aside0.mk (ne_ hg (blk_lt (bk_ BK301.out))); have n17_ := Aside0.mk n16_.out.symm; have n18_ := Aside0.mk (ne_ hg (blk_lt (bk_ BK309.out))); have n19_ := Aside0.mk n18_.out.symm; have n20_ := Aside0.mk (ne_ hg (blk_lt (bk_ BK310.out))); have n21_ := Aside0.mk n20_.out.symm; clear HO299 HO308 HO317 BK291 BK300 BK301 BK309 BK310 HB; have HO299 := n0_; have HO308 := n1_; have HO317 := n2_; have BK291 := n3_; have BK300 := n4_; have BK301 := n5_; have BK309 := n6_; have BK310 := n7_; have HB := n8_; have BK318 := n9_; have GW318 := n10_; have GE318 := n11_; have NB291_318 := n12_; have NB318_291 := n13_; have NB300_318 := n14_; have NB318_300 := n15_; have NB301_318 := n16_; have NB318_301 := n17_; have NB309_318 := n18_; have NB318_309 := n19_; have NB310_318 := n20_; have NB318_310 := n21_; clear n0_ n1_ n2_ n3_ n4_ n5_ n6_ n7_ n8_ n9_ n10_ n11_ n12_ n13_ n14_ n15_ n16_ n17_ n18_ n19_ n20_ n21_; clear hb hbox hg) | ((with_reducible refine gate_dst (N := 17) rfl ?_); refine bx_ (N := 17) (cs := #[.int .i64 0, .int .i64 0]) (t := 23) ?_; intro gb319 hg w40 hbox hb; have n0_ := Aside0.mk (Kd.N_below (Kd.N_elderB (by (with_reducible repeat (first | apply Kd.N_alloc | apply Kd.N_drewN | apply Kd.N_drew)); exact HO299.out) gb319 (Nat.le_of_eq hg.symm)) hb); have n1_ := Aside0.mk (Kd.N_below (Kd.N_elderB (by (with_reducible repeat (first | apply Kd.N_alloc | apply Kd.N_drewN | apply Kd.N_drew)); exact HO308.out) gb319 (Nat.le_of_eq hg.symm)) hb); have n2_ := Aside0.mk (Kd.N_below (Kd.N_elderB (by (with_reducible repeat (first | apply Kd.N_alloc | apply Kd.N_drewN | apply Kd.N_drew)); exact HO317.out) gb319 (Nat.le_of_eq hg.symm)) hb); have n3_ := Aside0.mk (blk_below (bk_ BK291.out) hb); have n4_ := Aside0.mk (blk_below (bk_ BK300.out) hb); have n5_ := Aside0.mk (blk_below (bk_ BK301.out) hb); have n6_ := Aside0.mk (blk_below (bk_ BK309.out) hb); have n7_ := Aside0.mk (blk_below (bk_ BK310.out) hb); have n8_ := Aside0.mk (blk_below (bk_ BK318.out) hb); have n9_ := Aside0.mk (below_step (bw_ HB.out) hb); have n10_ := Aside0.mk (hbox); have n11_ := Aside0.mk (sz_ hg (bw_ HB.out)); have n12_ := n11_; have n13_ := Aside0.mk (ne_ hg (blk_lt (bk_ BK291.out))); have n14_ := Aside0.mk n13_.out.symm; have n15_ := Aside0.mk (ne_ hg (blk_lt (bk_ BK300.out))); have n16_ := Aside0.mk n15_.out.symm; have n17_ := Aside0.mk (ne_ hg (blk_lt (bk_ BK301.out))); have n18_ := Aside0.mk n17_.out.symm; have n19_ := Aside0.mk (ne_ hg (blk_lt (bk_ BK309.out))); have n20_ := Aside0.mk n19_.out.symm; have n21_ := Aside0.mk (ne_ hg (blk_lt (bk_ BK310.out))); have n22_ := Aside0.mk n21_.out.symm; have n23_ := Aside0.mk (ne_ hg (blk_lt (bk_ BK318.out))); have n24_ := Aside0.mk n23_.out.symm; clear HO299 HO308 HO317 BK291 BK300 BK301 BK309 BK310 BK318 HB; have HO299 := n0_; have HO308 := n1_; have HO317 := n2_; have BK291 := n3_; have BK300 := n4_; have BK301 := n5_; have BK309 := n6_; have BK310 := n7_; have BK318 := n8_; have HB := n9_; have BK319 := n10_; have GW319 := n11_; have GE319 := n12_; have NB291_319 := n13_; have NB319_291 := n14_; have NB300_319 := n15_; have NB319_300 := n16_; have NB301_319 := n17_; have NB319_301 := n18_; have NB309_319 := n19_; have NB319_309 := n20_; have NB310_319 := n21_; have NB319_310 := n22_; have NB318_319 := n23_; have NB319_318 := n24_; clear n0_ n1_ n2_ n3_ n4_ n5_ n6_ n7_ n8_ n9_ n10_ n11_ n12_ n13_ n14_ n15_ n16_ n17_ n18_ n19_ n20_ n21_ n22_ n23_ n24_; clear hb hbox hg; have hnb41 := NB318_291.out; have hnc41 := NB291_318.out; have hnb42 := NB318_300.out; have hnc42 := NB300_318.out; have hnb43 := NB318_301.out; have hnc43 := NB301_318.out; have hnb44 := NB318_309.out; have hnc44 := NB309_318.out; have hnb45 := NB318_310.out; have hnc45 := NB310_318.out; have hnb46 := NB318_319.out; have hnc46 := NB319_318.out; have hcz47_0 : w40.cell? ⟨gb318, 0, none⟩ = some (.int .i64 0) := (blk_cell BK318.out 0).trans rfl; have hcz47_1 : w40.cell? ⟨gb318, 1, none⟩ = some (.int .i64 0) := (blk_cell BK318.out 1).trans rfl; have hfz47_0 := blk_frozen BK318.out 0; have hfz47_1 := blk_frozen BK318.out 1; have hnb48 := NB319_291.out; have hnc48 := NB291_319.out; have hnb49 := NB319_300.out; have hnc49 := NB300_319.out; have hnb50 := NB319_301.out; have hnc50 := NB301_319.out; have hnb51 := NB319_309.out; have hnc51 := NB309_319.out; have hnb52 := NB319_310.out; have hnc52 := NB310_319.out; have hcz53_0 : w40.cell? ⟨gb319, 0, none⟩ = some (.int .i64 0) := (blk_cell BK319.out 0).trans rfl; have hcz53_1 : w40.cell? ⟨gb319, 1, none⟩ = some (.int .i64 0) := (blk_cell BK319.out 1).trans rfl; have hfz53_0 := blk_frozen BK319.out 0; have hfz53_1 := blk_frozen BK319.out 1; have hcz54_0 : w40.cell? ⟨gb301, 0, none⟩ = some (.int .i64 t295) := (blk_cell BK301.out 0).trans rfl; have hcz54_1 : w40.cell? ⟨gb301, 1, none⟩ = some (.int .i64 t296) := (blk_cell BK301.out 1).trans rfl; have hfz54_0 := blk_frozen BK301.out 0; have hfz54_1 := blk_frozen BK301.out 1; obtain ⟨Ao55, co55, eo55⟩ := Kd.N_slice HO299.out; subst eo55) | ((with_reducible refine gate_callee (f := 12) rfl ?_); refine goesL_ (some 52) rfl rfl Try.func12 (by kernel_rfl) rfl #[.agg #[.int .i64 t295, .int .i64 t296], .slice Ao55 t297.length co55] rfl (by (try simp only [List.map_toArray, List.map_cons, List.map_nil]); first | done | rfl | (simp only [List.length_drop, List.length_take]; rfl)) ?_; (with_reducible refine (gristmilllaw06_of.calls k t295 t296 _ _ t297 t320 t321 t322 _ ?side1 ?side2 A10.out).mono ?_); (case side1 => refine (Kd.N_reads' (e := 44) (base := w.heap.size) (ok := fun k_ => ((((((((k_ ≠ gb291 ∧ k_ ≠ gb300) ∧ k_ ≠ gb301) ∧ some k_ ≠ (v307 : Value).ownBlock) ∧ k_ ≠ gb309) ∧ k_ ≠ gb310) ∧ some k_ ≠ (v316 : Value).ownBlock) ∧ k_ ≠ gb318) ∧ k_ ≠ gb319)) (n := t297.length) (c := co55) ?_).2.2; exact (by (with_reducible repeat (first | apply Kd.N_alloc | apply Kd.N_drewN | apply Kd.N_drew)); exact (Kd.N_mono (Kd.N_mono (Kd.N_far (p := ⟨gb319, 1, none⟩) (Kd.N_far (p := ⟨gb319, 0, none⟩) (Kd.N_far (p := ⟨gb318, 1, none⟩) (Kd.N_far (p := ⟨gb318, 0, none⟩) (Kd.N_mono (Kd.N_mono HO299.out (fun k_ hk => (⟨hk, hk.1.2⟩ : _ ∧ k_ ≠ gb318))) (fun k_ hk => (⟨hk, hk.1.2⟩ : _ ∧ k_ ≠ gb319))) (fun _ hk => hk.1.2) (.int .i64 t311)) (fun _ hk => hk.1.2) (.int .i64 t312)) (fun _ hk => hk.2) (.int .i64 t313)) (fun _ hk => hk.2) (.int .i64 t314)) (fun _ h_ => h_.1)) (fun _ h_ => h_.1)))); (case side2 => exact (Kd.N_reads' HO299.out).2.1); rintro e w56 ⟨v323, rfl, ho0, hb⟩; refine ⟨_, rfl, ?_⟩; have n0_ := Aside0.mk (Kd.N_elder' (by (with_reducible repeat (first | apply Kd.N_alloc | apply Kd.N_drewN | apply Kd.N_drew)); exact (Kd.N_mono (Kd.N_mono (Kd.N_far (p := ⟨gb319, 1, none⟩) (Kd.N_far (p := ⟨gb319, 0, none⟩) (Kd.N_far (p := ⟨gb318, 1, none⟩) (Kd.N_far (p := ⟨gb318, 0, none⟩) (Kd.N_mono (Kd.N_mono HO299.out (fun k_ hk => (⟨hk, hk.1.2⟩ : _ ∧ k_ ≠ gb318))) (fun k_ hk => (⟨hk, hk.1.2⟩ : _ ∧ k_ ≠ gb319))) (fun _ hk => hk.1.2) (.int .i64 t311)) (fun _ hk => hk.1.2) (.int .i64 t312)) (fun _ hk => hk.2) (.int .i64 t313)) (fun _ hk => hk.2) (.int .i64 t314)) (fun _ h_ => h_.1)) (fun _ h_ => h_.1))) (Kd.R_base ho0) hb); have n1_ := Aside0.mk (Kd.N_elder' (by (with_reducible repeat (first | apply Kd.N_alloc | apply Kd.N_drewN | apply Kd.N_drew)); exact (Kd.N_mono (Kd.N_mono (Kd.N_far (p := ⟨gb319, 1, none⟩) (Kd.N_far (p := ⟨gb319, 0, none⟩) (Kd.N_far (p := ⟨gb318, 1, none⟩) (Kd.N_far (p := ⟨gb318, 0, none⟩) (Kd.N_mono (Kd.N_mono HO308.out (fun k_ hk => (⟨hk, hk.1.2⟩ : _ ∧ k_ ≠ gb318))) (fun k_ hk => (⟨hk, hk.1.2⟩ : _ ∧ k_ ≠ gb319))) (fun _ hk => hk.1.2) (.int .i64 t311)) (fun _ hk => hk.1.2) (.int .i64 t312)) (fun _ hk => hk.2) (.int .i64 t313)) (fun _ hk => hk.2) (.int .i64 t314)) (fun _ h_ => h_.1)) (fun _ h_ => h_.1))) (Kd.R_base ho0) hb); have n2_ := Aside0.mk (Kd.N_elder' (by (with_reducible repeat (first | apply Kd.N_alloc | apply Kd.N_drewN | apply Kd.N_drew)); exact (Kd.N_mono (Kd.N_mono (Kd.N_far (p := ⟨gb319, 1, none⟩) (Kd.N_far (p := ⟨gb319, 0, none⟩) (Kd.N_far (p := ⟨gb318, 1, none⟩) (Kd.N_far (p := ⟨gb318, 0, none⟩) (Kd.N_mono (Kd.N_mono HO317.out (fun k_ hk => (⟨hk, hk.1.2⟩ : _ ∧ k_ ≠ gb318))) (fun k_ hk => (⟨hk, hk.1.2⟩ : _ ∧ k_ ≠ gb319))) (fun _ hk => hk.1.2) (.int .i64 t311)) (fun _ hk => hk.1.2) (.int .i64 t312)) (fun _ hk => hk.2) (.int .i64 t313)) (fun _ hk => hk.2) (.int .i64 t314)) (fun _ h_ => h_.1)) (fun _ h_ => h_.1))) (Kd.R_base ho0) hb); have n3_ := Aside0.mk (Kd.R_lower ho0 (below_size (bw_ HB.out))); have n4_ := Aside0.mk (blk_below (g := gb291) (o := .cells #[.int .i64 a0_0, .int .i64 a0_1] 23 (0, 0)) (by (with_reducible repeat (first | refine blk_drewN ?_ _ | refine blk_drew ?_ | refine blk_alloc ?_ _)); refine blk_far ?_ NB291_319.out _; (with_reducible repeat (first | refine blk_drewN ?_ _ | refine blk_drew ?_ | refine blk_alloc ?_ _)); refine blk_far ?_ NB291_319.out _; (with_reducible repeat (first | refine blk_drewN ?_ _ | refine blk_drew ?_ | refine blk_alloc ?_ _)); refine blk_far ?_ NB291_318.out _; (with_reducible repeat (first | refine blk_drewN ?_ _ | refine blk_drew ?_ | refine blk_alloc ?_ _)); refine blk_far ?_ NB291_318.out _; (with_reducible repeat (first | refine blk_drewN ?_ _ | refine blk_drew ?_ | refine blk_alloc ?_ _)); exact BK291.out) hb); have n5_ := Aside0.mk (blk_below (g := gb300) (o := .cells #[.int .i64 t293, .int .i64 t294] 27 (0, 0)) (by (with_reducible repeat (first | refine blk_drewN ?_ _ | refine blk_drew ?_ | refine blk_alloc ?_ _)); refine blk_far ?_ NB300_319.out _; (with_reducible repeat (first | refine blk_drewN ?_ _ | refine blk_drew ?_ | refine blk_alloc ?_ _)); refine blk_far ?_ NB300_319.out _; (with_reducible repeat (first | refine blk_drewN ?_ _ | refine blk_drew ?_ | refine blk_alloc ?_ _)); refine blk_far ?_ NB300_318.out _; (with_reducible repeat (first | refine blk_drewN ?_ _ | refine blk_drew ?_ | refine blk_alloc ?_ _)); refine blk_far ?_ NB300_318.out _; (with_reducible repeat (first | refine blk_drewN ?_ _ | refine blk_drew ?_ | refine blk_alloc ?_ _)); exact BK300.out) hb); have n6_ := Aside0.mk (blk_below (g := gb301) (o := .cells #[.int .i64 t295, .int .i64 t296] 23 (0, 0)) (by (with_reducible repeat (first | refine blk_drewN ?_ _ | refine blk_drew ?_ | refine blk_alloc ?_ _)); refine blk_far ?_ NB301_319.out _; (with_reducible repeat (first | refine blk_drewN ?_ _ | refine blk_drew ?_ | refine blk_alloc ?_ _)); refine blk_far ?_ NB301_319.out _; (with_reducible repeat (first | refine blk_drewN ?_ _ | refine blk_drew ?_ | refine blk_alloc ?_ _)); refine blk_far ?_ NB301_318.out _; (with_reducible repeat (first | refine blk_drewN ?_ _ | refine blk_drew ?_ | refine blk_alloc ?_ _)); refine blk_far ?_ NB301_318.out _; (with_reducible repeat (first | refine blk_drewN ?_ _ | refine blk_drew ?_ | refine blk_alloc ?_ _)); exact BK301.out) hb); have n7_ := Aside0.mk (blk_below (g := gb309) (o := .cells #[.int .i64 t302, .int .i64 t303] 27 (0, 0)) (by (with_reducible repeat (first | refine blk_drewN ?_ _ | refine blk_drew ?_ | refine blk_alloc ?_ _)); refine blk_far ?_ NB309_319.out _; (with_reducible repeat (first | refine blk_drewN ?_ _ | refine blk_drew ?_ | refine blk_alloc ?_ _)); refine blk_far ?_ NB309_319.out _; (with_reducible repeat (first | refine blk_drewN ?_ _ | refine blk_drew ?_ | refine blk_alloc ?_ _)); refine blk_far ?_ NB309_318.out _; (with_reducible repeat (first | refine blk_drewN ?_ _ | refine blk_drew ?_ | refine blk_alloc ?_ _)); refine blk_far ?_ NB309_318.out _; (with_reducible repeat (first | refine blk_drewN ?_ _ | refine blk_drew ?_ | refine blk_alloc ?_ _)); exact BK309.out) hb); have n8_ := Aside0.mk (blk_below (g := gb310) (o := .cells #[.int .i64 t304, .int .i64 t305] 23 (0, 0)) (by (with_reducible repeat (first | refine blk_drewN ?_ _ | refine blk_drew ?_ | refine blk_alloc ?_ _)); refine blk_far ?_ NB310_319.out _; (with_reducible repeat (first | refine blk_drewN ?_ _ | refine blk_drew ?_ | refine blk_alloc ?_ _)); refine blk_far ?_ NB310_319.out _; (with_reducible repeat (first | refine blk_drewN ?_ _ | refine blk_drew ?_ | refine blk_alloc ?_ _)); refine blk_far ?_ NB310_318.out _; (with_reducible repeat (first | refine blk_drewN ?_ _ | refine blk_drew ?_ | refine blk_alloc ?_ _)); refine blk_far ?_ NB310_318.out _; (with_reducible repeat (first | refine blk_drewN ?_ _ | refine blk_drew ?_ | refine blk_alloc ?_ _)); exact BK310.out) hb); have n9_ := Aside0.mk (blk_below (g := gb318) (o := .cells #[.int .i64 t311, .int .i64 t312] 27 (0, 0)) (by (with_reducible repeat (first | refine blk_drewN ?_ _ | refine blk_drew ?_ | refine blk_alloc ?_ _)); refine blk_far ?_ NB318_319.out _; (with_reducible repeat (first | refine blk_drewN ?_ _ | refine blk_drew ?_ | refine blk_alloc ?_ _)); refine blk_far ?_ NB318_319.out _; (with_reducible repeat (first | refine blk_drewN ?_ _ | refine blk_drew ?_ | refine blk_alloc ?_ _)); refine blk_put (cs := #[.int .i64 t311, .int .i64 0]) ?_ 1 _ rfl; (with_reducible repeat (first | refine blk_drewN ?_ _ | refine blk_drew ?_ | refine blk_alloc ?_ _)); refine blk_put (cs := #[.int .i64 0, .int .i64 0]) ?_ 0 _ rfl; (with_reducible repeat (first | refine blk_drewN ?_ _ | refine blk_drew ?_ | refine blk_alloc ?_ _)); exact BK318.out) hb); have n10_ := Aside0.mk (blk_below (g := gb319) (o := .cells #[.int .i64 t313, .int .i64 t314] 23 (0, 0)) (by (with_reducible repeat (first | refine blk_drewN ?_ _ | refine blk_drew ?_ | refine blk_alloc ?_ _)); refine blk_put (cs := #[.int .i64 t313, .int .i64 0]) ?_ 1 _ rfl; (with_reducible repeat (first | refine blk_drewN ?_ _ | refine blk_drew ?_ | refine blk_alloc ?_ _)); refine blk_put (cs := #[.int .i64 0, .int .i64 0]) ?_ 0 _ rfl; (with_reducible repeat (first | refine blk_drewN ?_ _ | refine blk_drew ?_ | refine blk_alloc ?_ _)); refine blk_far ?_ NB319_318.out _; (with_reducible repeat (first | refine blk_drewN ?_ _ | refine blk_drew ?_ | refine blk_alloc ?_ _)); refine blk_far ?_ NB319_318.out _; (with_reducible repeat (first | refine blk_drewN ?_ _ | refine blk_drew ?_ | refine blk_alloc ?_ _)); exact BK319.out) hb); have n11_ := Aside0.mk (below_step (bw_ HB.out) hb); clear HO299 HO308 HO317 BK291 BK300 BK301 BK309 BK310 BK318 BK319 HB; have HO299 := n0_; have HO308 := n1_; have HO317 := n2_; have HO324 := n3_; have BK291 := n4_; have BK300 := n5_; have BK301 := n6_; have BK309 := n7_; have BK310 := n8_; have BK318 := n9_; have BK319 := n10_; have HB := n11_; clear n0_ n1_ n2_ n3_ n4_ n5_ n6_ n7_ n8_ n9_ n10_ n11_; (try clear hb); (try clear hb2); (try clear hk); (try clear hi); (try clear ho0)) | ((with_reducible refine gate_dst (N := 19) rfl ?_); refine bx_ (N := 19) (cs := #[.int .u64 0, .int .i64 0, .slice none 0 0]) (t := 33) ?_; intro gb325 hg w57 hbox hb; have n0_ := Aside0.mk (Kd.N_below (Kd.N_elderB (by (with_reducible repeat (first | apply Kd.N_alloc | apply Kd.N_drewN | apply Kd.N_drew)); exact HO299.out) gb325 (Nat.le_of_eq hg.symm)) hb); have n1_ := Aside0.mk (Kd.N_below (Kd.N_elderB (by (with_reducible repeat (first | apply Kd.N_alloc | apply Kd.N_drewN | apply Kd.N_drew)); exact HO308.out) gb325 (Nat.le_of_eq hg.symm)) hb); have n2_ := Aside0.mk (Kd.N_below (Kd.N_elderB (by (with_reducible repeat (first | apply Kd.N_alloc | apply Kd.N_drewN | apply Kd.N_drew)); exact HO317.out) gb325 (Nat.le_of_eq hg.symm)) hb); have n3_ := Aside0.mk (Kd.R_below (by (with_reducible repeat (first | apply Kd.R_alloc | apply Kd.R_drewN | apply Kd.R_drew)); exact HO324.out) hb); have n4_ := Aside0.mk (blk_below (bk_ BK291.out) hb); have n5_ := Aside0.mk (blk_below (bk_ BK300.out) hb); have n6_ := Aside0.mk (blk_below (bk_ BK301.out) hb); have n7_ := Aside0.mk (blk_below (bk_ BK309.out) hb); have n8_ := Aside0.mk (blk_below (bk_ BK310.out) hb); have n9_ := Aside0.mk (blk_below (bk_ BK318.out) hb); have n10_ := Aside0.mk (blk_below (bk_ BK319.out) hb); have n11_ := Aside0.mk (below_step (bw_ HB.out) hb); have n12_ := Aside0.mk (hbox); have n13_ := Aside0.mk (sz_ hg (bw_ HB.out)); have n14_ := n13_; have n15_ := Aside0.mk (ne_ hg (blk_lt (bk_ BK291.out))); have n16_ := Aside0.mk n15_.out.symm; have n17_ := Aside0.mk (ne_ hg (blk_lt (bk_ BK300.out))); have n18_ := Aside0.mk n17_.out.symm; have n19_ := Aside0.mk (ne_ hg (blk_lt (bk_ BK301.out))); have n20_ := Aside0.mk n19_.out.symm; have n21_ := Aside0.mk (ne_ hg (blk_lt (bk_ BK309.out))); have n22_ := Aside0.mk n21_.out.symm; have n23_ := Aside0.mk (ne_ hg (blk_lt (bk_ BK310.out))); have n24_ := Aside0.mk n23_.out.symm; have n25_ := Aside0.mk (ne_ hg (blk_lt (bk_ BK318.out))); have n26_ := Aside0.mk n25_.out.symm; have n27_ := Aside0.mk (ne_ hg (blk_lt (bk_ BK319.out))); have n28_ := Aside0.mk n27_.out.symm; clear HO299 HO308 HO317 HO324 BK291 BK300 BK301 BK309 BK310 BK318 BK319 HB; have HO299 := n0_; have HO308 := n1_; have HO317 := n2_; have HO324 := n3_; have BK291 := n4_; have BK300 := n5_; have BK301 := n6_; have BK309 := n7_; have BK310 := n8_; have BK318 := n9_; have BK319 := n10_; have HB := n11_; have BK325 := n12_; have GW325 := n13_; have GE325 := n14_; have NB291_325 := n15_; have NB325_291 := n16_; have NB300_325 := n17_; have NB325_300 := n18_; have NB301_325 := n19_; have NB325_301 := n20_; have NB309_325 := n21_; have NB325_309 := n22_; have NB310_325 := n23_; have NB325_310 := n24_; have NB318_325 := n25_; have NB325_318 := n26_; have NB319_325 := n27_; have NB325_319 := n28_; clear n0_ n1_ n2_ n3_ n4_ n5_ n6_ n7_ n8_ n9_ n10_ n11_ n12_ n13_ n14_ n15_ n16_ n17_ n18_ n19_ n20_ n21_ n22_ n23_ n24_ n25_ n26_ n27_ n28_; clear hb hbox hg; have hnb58 := NB325_291.out; have hnc58 := NB291_325.out; have hnb59 := NB325_300.out; have hnc59 := NB300_325.out; have hnb60 := NB325_301.out; have hnc60 := NB301_325.out; have hnb61 := NB325_309.out; have hnc61 := NB309_325.out; have hnb62 := NB325_310.out; have hnc62 := NB310_325.out; have hnb63 := NB325_318.out; have hnc63 := NB318_325.out; have hnb64 := NB325_319.out; have hnc64 := NB319_325.out; have hcz65_0 : w57.cell? ⟨gb325, 0, none⟩ = some (.int .u64 0) := (blk_cell BK325.out 0).trans rfl; have hcz65_1 : w57.cell? ⟨gb325, 1, none⟩ = some (.int .i64 0) := (blk_cell BK325.out 1).trans rfl; have hcz65_2 : w57.cell? ⟨gb325, 2, none⟩ = some (.slice none 0 0) := (blk_cell BK325.out 2).trans rfl; have hfz65_0 := blk_frozen BK325.out 0; have hfz65_1 := blk_frozen BK325.out 1; have hfz65_2 := blk_frozen BK325.out 2; obtain ⟨Ao66, co66, eo66⟩ := Kd.R_slice HO324.out; subst eo66; have hcz67_0 : w57.cell? ⟨gb301, 0, none⟩ = some (.int .i64 t295) := (blk_cell BK301.out 0).trans rfl; have hcz67_1 : w57.cell? ⟨gb301, 1, none⟩ = some (.int .i64 t296) := (blk_cell BK301.out 1).trans rfl; have hfz67_0 := blk_frozen BK301.out 0; have hfz67_1 := blk_frozen BK301.out 1; obtain ⟨Ao68, co68, eo68⟩ := Kd.N_slice HO308.out; subst eo68) | ((with_reducible refine gate_callee (f := 12) rfl ?_); refine goesL_ (some 55) rfl rfl Try.func12 (by kernel_rfl) rfl #[.agg #[.int .i64 t295, .int .i64 t296], .slice Ao68 t306.length co68] rfl (by (try simp only [List.map_toArray, List.map_cons, List.map_nil]); first | done | rfl | (simp only [List.length_drop, List.length_take]; rfl)) ?_; (with_reducible refine (gristmilllaw06_of.calls k t295 t296 _ _ t306 t326 t327 t328 _ ?side1 ?side2 A11.out).mono ?_); (case side1 => refine (Kd.N_reads' (e := 44) (base := w.heap.size) (ok := fun k_ => ((((((((some k_ ≠ (.slice Ao55 t297.length co55 : Value).ownBlock ∧ (k_ ≠ gb291 ∧ (k_ ≠ gb300 ∧ k_ ≠ gb301))) ∧ k_ ≠ gb309) ∧ k_ ≠ gb310) ∧ some k_ ≠ (v316 : Value).ownBlock) ∧ k_ ≠ gb318) ∧ k_ ≠ gb319) ∧ some k_ ≠ (.slice Ao66 t322.length co66 : Value).ownBlock) ∧ k_ ≠ gb325)) (n := t306.length) (c := co68) ?_).2.2; exact (by (with_reducible repeat (first | apply Kd.N_alloc | apply Kd.N_drewN | apply Kd.N_drew)); exact (Kd.N_mono (Kd.N_far (p := ⟨gb325, 2, none⟩) (Kd.N_far (p := ⟨gb325, 1, none⟩) (Kd.N_far (p := ⟨gb325, 0, none⟩) (Kd.N_mono HO308.out (fun k_ hk => (⟨hk, hk.2⟩ : _ ∧ k_ ≠ gb325))) (fun _ hk => hk.2) (.int .u64 t320)) (fun _ hk => hk.2) (.int .i64 t321)) (fun _ hk => hk.2) (.slice Ao66 t322.length co66)) (fun _ h_ => h_.1)))); (case side2 => exact (Kd.N_reads' HO308.out).2.1); rintro e w69 ⟨v329, rfl, ho0, hb⟩; refine ⟨_, rfl, ?_⟩; have n0_ := Aside0.mk (Kd.N_elder' (by (with_reducible repeat (first | apply Kd.N_alloc | apply Kd.N_drewN | apply Kd.N_drew)); exact (Kd.N_mono (Kd.N_far (p := ⟨gb325, 2, none⟩) (Kd.N_far (p := ⟨gb325, 1, none⟩) (Kd.N_far (p := ⟨gb325, 0, none⟩) (Kd.N_mono HO299.out (fun k_ hk => (⟨hk, hk.2⟩ : _ ∧ k_ ≠ gb325))) (fun _ hk => hk.2) (.int .u64 t320)) (fun _ hk => hk.2) (.int .i64 t321)) (fun _ hk => hk.2) (.slice Ao66 t322.length co66)) (fun _ h_ => h_.1))) (Kd.R_base ho0) hb); have n1_ := Aside0.mk (Kd.N_elder' (by (with_reducible repeat (first | apply Kd.N_alloc | apply Kd.N_drewN | apply Kd.N_drew)); exact (Kd.N_mono (Kd.N_far (p := ⟨gb325, 2, none⟩) (Kd.N_far (p := ⟨gb325, 1, none⟩) (Kd.N_far (p := ⟨gb325, 0, none⟩) (Kd.N_mono HO308.out (fun k_ hk => (⟨hk, hk.2⟩ : _ ∧ k_ ≠ gb325))) (fun _ hk => hk.2) (.int .u64 t320)) (fun _ hk => hk.2) (.int .i64 t321)) (fun _ hk => hk.2) (.slice Ao66 t322.length co66)) (fun _ h_ => h_.1))) (Kd.R_base ho0) hb); have n2_ := Aside0.mk (Kd.N_elder' (by (with_reducible repeat (first | apply Kd.N_alloc | apply Kd.N_drewN | apply Kd.N_drew)); exact (Kd.N_mono (Kd.N_far (p := ⟨gb325, 2, none⟩) (Kd.N_far (p := ⟨gb325, 1, none⟩) (Kd.N_far (p := ⟨gb325, 0, none⟩) (Kd.N_mono HO317.out (fun k_ hk => (⟨hk, hk.2⟩ : _ ∧ k_ ≠ gb325))) (fun _ hk => hk.2) (.int .u64 t320)) (fun _ hk => hk.2) (.int .i64 t321)) (fun _ hk => hk.2) (.slice Ao66 t322.length co66)) (fun _ h_ => h_.1))) (Kd.R_base ho0) hb); have n3_ := Aside0.mk (Kd.R_elder' (by (with_reducible repeat (first | apply Kd.R_alloc | apply Kd.R_drewN | apply Kd.R_drew)); exact (Kd.R_mono (Kd.R_far (p := ⟨gb325, 2, none⟩) (Kd.R_far (p := ⟨gb325, 1, none⟩) (Kd.R_far (p := ⟨gb325, 0, none⟩) (Kd.R_types HO324.out BK325.out (by decide)) (fun _ hk => hk.2) (.int .u64 t320)) (fun _ hk => hk.2) (.int .i64 t321)) (fun _ hk => hk.2) (.slice Ao66 t322.length co66)) (fun _ h_ => h_.1))) (Kd.R_base ho0) hb); have n4_ := Aside0.mk (Kd.R_lower (Kd.R_new' ho0 (Kd.R_lt (by (with_reducible repeat (first | apply Kd.R_alloc | apply Kd.R_drewN | apply Kd.R_drew)); exact (Kd.R_mono (Kd.R_far (p := ⟨gb325, 2, none⟩) (Kd.R_far (p := ⟨gb325, 1, none⟩) (Kd.R_far (p := ⟨gb325, 0, none⟩) (Kd.R_types HO324.out BK325.out (by decide)) (fun _ hk => hk.2) (.int .u64 t320)) (fun _ hk => hk.2) (.int .i64 t321)) (fun _ hk => hk.2) (.slice Ao66 t322.length co66)) (fun _ h_ => h_.1))))) (below_size (bw_ HB.out))); have n5_ := Aside0.mk (blk_below (g := gb291) (o := .cells #[.int .i64 a0_0, .int .i64 a0_1] 23 (0, 0)) (by (with_reducible repeat (first | refine blk_drewN ?_ _ | refine blk_drew ?_ | refine blk_alloc ?_ _)); refine blk_far ?_ NB291_325.out _; (with_reducible repeat (first | refine blk_drewN ?_ _ | refine blk_drew ?_ | refine blk_alloc ?_ _)); refine blk_far ?_ NB291_325.out _; (with_reducible repeat (first | refine blk_drewN ?_ _ | refine blk_drew ?_ | refine blk_alloc ?_ _)); refine blk_far ?_ NB291_325.out _; (with_reducible repeat (first | refine blk_drewN ?_ _ | refine blk_drew ?_ | refine blk_alloc ?_ _)); exact BK291.out) hb); have n6_ := Aside0.mk (blk_below (g := gb300) (o := .cells #[.int .i64 t293, .int .i64 t294] 27 (0, 0)) (by (with_reducible repeat (first | refine blk_drewN ?_ _ | refine blk_drew ?_ | refine blk_alloc ?_ _)); refine blk_far ?_ NB300_325.out _; (with_reducible repeat (first | refine blk_drewN ?_ _ | refine blk_drew ?_ | refine blk_alloc ?_ _)); refine blk_far ?_ NB300_325.out _; (with_reducible repeat (first | refine blk_drewN ?_ _ | refine blk_drew ?_ | refine blk_alloc ?_ _)); refine blk_far ?_ NB300_325.out _; (with_reducible repeat (first | refine blk_drewN ?_ _ | refine blk_drew ?_ | refine blk_alloc ?_ _)); exact BK300.out) hb); have n7_ := Aside0.mk (blk_below (g := gb301) (o := .cells #[.int .i64 t295, .int .i64 t296] 23 (0, 0)) (by (with_reducible repeat (first | refine blk_drewN ?_ _ | refine blk_drew ?_ | refine blk_alloc ?_ _)); refine blk_far ?_ NB301_325.out _; (with_reducible repeat (first | refine blk_drewN ?_ _ | refine blk_drew ?_ | refine blk_alloc ?_ _)); refine blk_far ?_ NB301_325.out _; (with_reducible repeat (first | refine blk_drewN ?_ _ | refine blk_drew ?_ | refine blk_alloc ?_ _)); refine blk_far ?_ NB301_325.out _; (with_reducible repeat (first | refine blk_drewN ?_ _ | refine blk_drew ?_ | refine blk_alloc ?_ _)); exact BK301.out) hb); have n8_ := Aside0.mk (blk_below (g := gb309) (o := .cells #[.int .i64 t302, .int .i64 t303] 27 (0, 0)) (by (with_reducible repeat (first | refine blk_drewN ?_ _ | refine blk_drew ?_ | refine blk_alloc ?_ _)); refine blk_far ?_ NB309_325.out _; (with_reducible repeat (first | refine blk_drewN ?_ _ | refine blk_drew ?_ | refine blk_alloc ?_ _)); refine blk_far ?_ NB309_325.out _; (with_reducible repeat (first | refine blk_drewN ?_ _ | refine blk_drew ?_ | refine blk_alloc ?_ _)); refine blk_far ?_ NB309_325.out _; (with_reducible repeat (first | refine blk_drewN ?_ _ | refine blk_drew ?_ | refine blk_alloc ?_ _)); exact BK309.out) hb); have n9_ := Aside0.mk (blk_below (g := gb310) (o := .cells #[.int .i64 t304, .int .i64 t305] 23 (0, 0)) (by (with_reducible repeat (first | refine blk_drewN ?_ _ | refine blk_drew ?_ | refine blk_alloc ?_ _)); refine blk_far ?_ NB310_325.out _; (with_reducible repeat (first | refine blk_drewN ?_ _ | refine blk_drew ?_ | refine blk_alloc ?_ _)); refine blk_far ?_ NB310_325.out _; (with_reducible repeat (first | refine blk_drewN ?_ _ | refine blk_drew ?_ | refine blk_alloc ?_ _)); refine blk_far ?_ NB310_325.out _; (with_reducible repeat (first | refine blk_drewN ?_ _ | refine blk_drew ?_ | refine blk_alloc ?_ _)); exact BK310.out) hb); have n10_ := Aside0.mk (blk_below (g := gb318) (o := .cells #[.int .i64 t311, .int .i64 t312] 27 (0, 0)) (by (with_reducible repeat (first | refine blk_drewN ?_ _ | refine blk_drew ?_ | refine blk_alloc ?_ _)); refine blk_far ?_ NB318_325.out _; (with_reducible repeat (first | refine blk_drewN ?_ _ | refine blk_drew ?_ | refine blk_alloc ?_ _)); refine blk_far ?_ NB318_325.out _; (with_reducible repeat (first | refine blk_drewN ?_ _ | refine blk_drew ?_ | refine blk_alloc ?_ _)); refine blk_far ?_ NB318_325.out _; (with_reducible repeat (first | refine blk_drewN ?_ _ | refine blk_drew ?_ | refine blk_alloc ?_ _)); exact BK318.out) hb); have n11_ := Aside0.mk (blk_below (g := gb319) (o := .cells #[.int .i64 t313, .int .i64 t314] 23 (0, 0)) (by (with_reducible repeat (first | refine blk_drewN ?_ _ | refine blk_drew ?_ | refine blk_alloc ?_ _)); refine blk_far ?_ NB319_325.out _; (with_reducible repeat (first | refine blk_drewN ?_ _ | refine blk_drew ?_ | refine blk_alloc ?_ _)); refine blk_far ?_ NB319_325.out _; (with_reducible repeat (first | refine blk_drewN ?_ _ | refine blk_drew ?_ | refine blk_alloc ?_ _)); refine blk_far ?_ NB319_325.out _; (with_reducible repeat (first | refine blk_drewN ?_ _ | refine blk_drew ?_ | refine blk_alloc ?_ _)); exact BK319.out) hb); have n12_ := Aside0.mk (blk_below (g := gb325) (o := .cells #[.int .u64 t320, .int .i64 t321, .slice Ao66 t322.length co66] 33 (0, 0)) (by (with_reducible repeat (first | refine blk_drewN ?_ _ | refine blk_drew ?_ | refine blk_alloc ?_ _)); refine blk_put (cs := #[.int .u64 t320, .int .i64 t321, .slice none 0 0]) ?_ 2 _ rfl; (with_reducible repeat (first | refine blk_drewN ?_ _ | refine blk_drew ?_ | refine blk_alloc ?_ _)); refine blk_put (cs := #[.int .u64 t320, .int .i64 0, .slice none 0 0]) ?_ 1 _ rfl; (with_reducible repeat (first | refine blk_drewN ?_ _ | refine blk_drew ?_ | refine blk_alloc ?_ _)); refine blk_put (cs := #[.int .u64 0, .int .i64 0, .slice none 0 0]) ?_ 0 _ rfl; (with_reducible repeat (first | refine blk_drewN ?_ _ | refine blk_drew ?_ | refine blk_alloc ?_ _)); exact BK325.out) hb); have n13_ := Aside0.mk (below_step (bw_ HB.out) hb); clear HO299 HO308 HO317 HO324 BK291 BK300 BK301 BK309 BK310 BK318 BK319 BK325 HB; have HO299 := n0_; have HO308 := n1_; have HO317 := n2_; have HO324 := n3_; have HO330 := n4_; have BK291 := n5_; have BK300 := n6_; have BK301 := n7_; have BK309 := n8_; have BK310 := n9_; have BK318 := n10_; have BK319 := n11_; have BK325 := n12_; have HB := n13_; clear n0_ n1_ n2_ n3_ n4_ n5_ n6_ n7_ n8_ n9_ n10_ n11_ n12_ n13_; (try clear hb); (try clear hb2); (try clear hk); (try clear hi); (try clear ho0)) | ((with_reducible refine gate_dst (N := 20) rfl ?_); refine bx_ (N := 20) (cs := #[.int .u64 0, .int .i64 0, .slice none 0 0]) (t := 33) ?_; intro gb331 hg w70 hbox hb; have n0_ := Aside0.mk (Kd.N_below (Kd.N_elderB (by (with_reducible repeat (first | apply Kd.N_alloc | apply Kd.N_drewN | apply Kd.N_drew)); exact HO299.out) gb331 (Nat.le_of_eq hg.symm)) hb); have n1_ := Aside0.mk (Kd.N_below (Kd.N_elderB (by (with_reducible repeat (first | apply Kd.N_alloc | apply Kd.N_drewN | apply Kd.N_drew)); exact HO308.out) gb331 (Nat.le_of_eq hg.symm)) hb); have n2_ := Aside0.mk (Kd.N_below (Kd.N_elderB (by (with_reducible repeat (first | apply Kd.N_alloc | apply Kd.N_drewN | apply Kd.N_drew)); exact HO317.out) gb331 (Nat.le_of_eq hg.symm)) hb); have n3_ := Aside0.mk (Kd.R_below (by (with_reducible repeat (first | apply Kd.R_alloc | apply Kd.R_drewN | apply Kd.R_drew)); exact HO324.out) hb); have n4_ := Aside0.mk (Kd.R_below (by (with_reducible repeat (first | apply Kd.R_alloc | apply Kd.R_drewN | apply Kd.R_drew)); exact HO330.out) hb); have n5_ := Aside0.mk (blk_below (bk_ BK291.out) hb); have n6_ := Aside0.mk (blk_below (bk_ BK300.out) hb); have n7_ := Aside0.mk (blk_below (bk_ BK301.out) hb); have n8_ := Aside0.mk (blk_below (bk_ BK309.out) hb); have n9_ := Aside0.mk (blk_below (bk_ BK310.out) hb); have n10_ := Aside0.mk (blk_below (bk_ BK318.out) hb); have n11_ := Aside0.mk (blk_below (bk_ BK319.out) hb); have n12_ := Aside0.mk (blk_below (bk_ BK325.out) hb); have n13_ := Aside0.mk (below_step (bw_ HB.out) hb); have n14_ := Aside0.mk (hbox); have n15_ := Aside0.mk (sz_ hg (bw_ HB.out)); have n16_ := n15_; have n17_ := Aside0.mk (ne_ hg (blk_lt (bk_ BK291.out))); have n18_ := Aside0.mk n17_.out.symm; have n19_ := Aside0.mk (ne_ hg (blk_lt (bk_ BK300.out))); have n20_ := Aside0.mk n19_.out.symm; have n21_ := Aside0.mk (ne_ hg (blk_lt (bk_ BK301.out))); have n22_ := Aside0.mk n21_.out.symm; have n23_ := Aside0.mk (ne_ hg (blk_lt (bk_ BK309.out))); have n24_ := Aside0.mk n23_.out.symm; have n25_ := Aside0.mk (ne_ hg (blk_lt (bk_ BK310.out))); have n26_ := Aside0.mk n25_.out.symm; have n27_ := Aside0.mk (ne_ hg (blk_lt (bk_ BK318.out))); have n28_ := Aside0.mk n27_.out.symm; have n29_ := Aside0.mk (ne_ hg (blk_lt (bk_ BK319.out))); have n30_ := Aside0.mk n29_.out.symm; have n31_ := Aside0.mk (ne_ hg (blk_lt (bk_ BK325.out))); have n32_ := Aside0.mk n31_.out.symm; clear HO299 HO308 HO317 HO324 HO330 BK291 BK300 BK301 BK309 BK310 BK318 BK319 BK325 HB; have HO299 := n0_; have HO308 := n1_; have HO317 := n2_; have HO324 := n3_; have HO330 := n4_; have BK291 := n5_; have BK300 := n6_; have BK301 := n7_; have BK309 := n8_; have BK310 := n9_; have BK318 := n10_; have BK319 := n11_; have BK325 := n12_; have HB := n13_; have BK331 := n14_; have GW331 := n15_; have GE331 := n16_; have NB291_331 := n17_; have NB331_291 := n18_; have NB300_331 := n19_; have NB331_300 := n20_; have NB301_331 := n21_; have NB331_301 := n22_; have NB309_331 := n23_; have NB331_309 := n24_; have NB310_331 := n25_; have NB331_310 := n26_; have NB318_331 := n27_; have NB331_318 := n28_; have NB319_331 := n29_; have NB331_319 := n30_; have NB325_331 := n31_; have NB331_325 := n32_; clear n0_ n1_ n2_ n3_ n4_ n5_ n6_ n7_ n8_ n9_ n10_ n11_ n12_ n13_ n14_ n15_ n16_ n17_ n18_ n19_ n20_ n21_ n22_ n23_ n24_ n25_ n26_ n27_ n28_ n29_ n30_ n31_ n32_; clear hb hbox hg; have hnb71 := NB331_291.out; have hnc71 := NB291_331.out; have hnb72 := NB331_300.out; have hnc72 := NB300_331.out; have hnb73 := NB331_301.out; have hnc73 := NB301_331.out; have hnb74 := NB331_309.out; have hnc74 := NB309_331.out; have hnb75 := NB331_310.out; have hnc75 := NB310_331.out; have hnb76 := NB331_318.out; have hnc76 := NB318_331.out; have hnb77 := NB331_319.out; have hnc77 := NB319_331.out; have hnb78 := NB331_325.out; have hnc78 := NB325_331.out; have hcz79_0 : w70.cell? ⟨gb331, 0, none⟩ = some (.int .u64 0) := (blk_cell BK331.out 0).trans rfl; have hcz79_1 : w70.cell? ⟨gb331, 1, none⟩ = some (.int .i64 0) := (blk_cell BK331.out 1).trans rfl; have hcz79_2 : w70.cell? ⟨gb331, 2, none⟩ = some (.slice none 0 0) := (blk_cell BK331.out 2).trans rfl; have hfz79_0 := blk_frozen BK331.out 0; have hfz79_1 := blk_frozen BK331.out 1; have hfz79_2 := blk_frozen BK331.out 2; obtain ⟨Ao80, co80, eo80⟩ := Kd.R_slice HO330.out; subst eo80; have hcz81_0 : w70.cell? ⟨gb301, 0, none⟩ = some (.int .i64 t295) := (blk_cell BK301.out 0).trans rfl; have hcz81_1 : w70.cell? ⟨gb301, 1, none⟩ = some (.int .i64 t296) := (blk_cell BK301.out 1).trans rfl; have hfz81_0 := blk_frozen BK301.out 0; have hfz81_1 := blk_frozen BK301.out 1; obtain ⟨Ao82, co82, eo82⟩ := Kd.N_slice HO317.out; subst eo82) | ((with_reducible refine gate_callee (f := 12) rfl ?_); refine goesL_ (some 58) rfl rfl Try.func12 (by kernel_rfl) rfl #[.agg #[.int .i64 t295, .int .i64 t296], .slice Ao82 t315.length co82] rfl (by (try simp only [List.map_toArray, List.map_cons, List.map_nil]); first | done | rfl | (simp only [List.length_drop, List.length_take]; rfl)) ?_; (with_reducible refine (gristmilllaw06_of.calls k t295 t296 _ _ t315 t332 t333 t334 _ ?side1 ?side2 A12.out).mono ?_); (case side1 => refine (Kd.N_reads' (e := 44) (base := w.heap.size) (ok := fun k_ => (((((((some k_ ≠ (.slice Ao55 t297.length co55 : Value).ownBlock ∧ (some k_ ≠ (.slice Ao68 t306.length co68 : Value).ownBlock ∧ (k_ ≠ gb291 ∧ (k_ ≠ gb300 ∧ (k_ ≠ gb301 ∧ (k_ ≠ gb309 ∧ k_ ≠ gb310)))))) ∧ k_ ≠ gb318) ∧ k_ ≠ gb319) ∧ some k_ ≠ (.slice Ao66 t322.length co66 : Value).ownBlock) ∧ k_ ≠ gb325) ∧ some k_ ≠ (.slice Ao80 t328.length co80 : Value).ownBlock) ∧ k_ ≠ gb331)) (n := t315.length) (c := co82) ?_).2.2; exact (by (with_reducible repeat (first | apply Kd.N_alloc | apply Kd.N_drewN | apply Kd.N_drew)); exact (Kd.N_mono (Kd.N_far (p := ⟨gb331, 2, none⟩) (Kd.N_far (p := ⟨gb331, 1, none⟩) (Kd.N_far (p := ⟨gb331, 0, none⟩) (Kd.N_mono HO317.out (fun k_ hk => (⟨hk, hk.2⟩ : _ ∧ k_ ≠ gb331))) (fun _ hk => hk.2) (.int .u64 t326)) (fun _ hk => hk.2) (.int .i64 t327)) (fun _ hk => hk.2) (.slice Ao80 t328.length co80)) (fun _ h_ => h_.1)))); (case side2 => exact (Kd.N_reads' HO317.out).2.1); rintro e w83 ⟨v335, rfl, ho0, hb⟩; refine ⟨_, rfl, ?_⟩; have n0_ := Aside0.mk (Kd.N_elder' (by (with_reducible repeat (first | apply Kd.N_alloc | apply Kd.N_drewN | apply Kd.N_drew)); exact (Kd.N_mono (Kd.N_far (p := ⟨gb331, 2, none⟩) (Kd.N_far (p := ⟨gb331, 1, none⟩) (Kd.N_far (p := ⟨gb331, 0, none⟩) (Kd.N_mono HO299.out (fun k_ hk => (⟨hk, hk.2⟩ : _ ∧ k_ ≠ gb331))) (fun _ hk => hk.2) (.int .u64 t326)) (fun _ hk => hk.2) (.int .i64 t327)) (fun _ hk => hk.2) (.slice Ao80 t328.length co80)) (fun _ h_ => h_.1))) (Kd.R_base ho0) hb); have n1_ := Aside0.mk (Kd.N_elder' (by (with_reducible repeat (first | apply Kd.N_alloc | apply Kd.N_drewN | apply Kd.N_drew)); exact (Kd.N_mono (Kd.N_far (p := ⟨gb331, 2, none⟩) (Kd.N_far (p := ⟨gb331, 1, none⟩) (Kd.N_far (p := ⟨gb331, 0, none⟩) (Kd.N_mono HO308.out (fun k_ hk => (⟨hk, hk.2⟩ : _ ∧ k_ ≠ gb331))) (fun _ hk => hk.2) (.int .u64 t326)) (fun _ hk => hk.2) (.int .i64 t327)) (fun _ hk => hk.2) (.slice Ao80 t328.length co80)) (fun _ h_ => h_.1))) (Kd.R_base ho0) hb); have n2_ := Aside0.mk (Kd.N_elder' (by (with_reducible repeat (first | apply Kd.N_alloc | apply Kd.N_drewN | apply Kd.N_drew)); exact (Kd.N_mono (Kd.N_far (p := ⟨gb331, 2, none⟩) (Kd.N_far (p := ⟨gb331, 1, none⟩) (Kd.N_far (p := ⟨gb331, 0, none⟩) (Kd.N_mono HO317.out (fun k_ hk => (⟨hk, hk.2⟩ : _ ∧ k_ ≠ gb331))) (fun _ hk => hk.2) (.int .u64 t326)) (fun _ hk => hk.2) (.int .i64 t327)) (fun _ hk => hk.2) (.slice Ao80 t328.length co80)) (fun _ h_ => h_.1))) (Kd.R_base ho0) hb); have n3_ := Aside0.mk (Kd.R_elder' (by (with_reducible repeat (first | apply Kd.R_alloc | apply Kd.R_drewN | apply Kd.R_drew)); exact (Kd.R_mono (Kd.R_far (p := ⟨gb331, 2, none⟩) (Kd.R_far (p := ⟨gb331, 1, none⟩) (Kd.R_far (p := ⟨gb331, 0, none⟩) (Kd.R_types HO324.out BK331.out (by decide)) (fun _ hk => hk.2) (.int .u64 t326)) (fun _ hk => hk.2) (.int .i64 t327)) (fun _ hk => hk.2) (.slice Ao80 t328.length co80)) (fun _ h_ => h_.1))) (Kd.R_base ho0) hb); have n4_ := Aside0.mk (Kd.R_elder' (by (with_reducible repeat (first | apply Kd.R_alloc | apply Kd.R_drewN | apply Kd.R_drew)); exact (Kd.R_mono (Kd.R_far (p := ⟨gb331, 2, none⟩) (Kd.R_far (p := ⟨gb331, 1, none⟩) (Kd.R_far (p := ⟨gb331, 0, none⟩) (Kd.R_types HO330.out BK331.out (by decide)) (fun _ hk => hk.2) (.int .u64 t326)) (fun _ hk => hk.2) (.int .i64 t327)) (fun _ hk => hk.2) (.slice Ao80 t328.length co80)) (fun _ h_ => h_.1))) (Kd.R_base ho0) hb); have n5_ := Aside0.mk (Kd.R_lower (Kd.R_new' (Kd.R_new' ho0 (Kd.R_lt (by (with_reducible repeat (first | apply Kd.R_alloc | apply Kd.R_drewN | apply Kd.R_drew)); exact (Kd.R_mono (Kd.R_far (p := ⟨gb331, 2, none⟩) (Kd.R_far (p := ⟨gb331, 1, none⟩) (Kd.R_far (p := ⟨gb331, 0, none⟩) (Kd.R_types HO324.out BK331.out (by decide)) (fun _ hk => hk.2) (.int .u64 t326)) (fun _ hk => hk.2) (.int .i64 t327)) (fun _ hk => hk.2) (.slice Ao80 t328.length co80)) (fun _ h_ => h_.1))))) (Kd.R_lt (by (with_reducible repeat (first | apply Kd.R_alloc | apply Kd.R_drewN | apply Kd.R_drew)); exact (Kd.R_mono (Kd.R_far (p := ⟨gb331, 2, none⟩) (Kd.R_far (p := ⟨gb331, 1, none⟩) (Kd.R_far (p := ⟨gb331, 0, none⟩) (Kd.R_types HO330.out BK331.out (by decide)) (fun _ hk => hk.2) (.int .u64 t326)) (fun _ hk => hk.2) (.int .i64 t327)) (fun _ hk => hk.2) (.slice Ao80 t328.length co80)) (fun _ h_ => h_.1))))) (below_size (bw_ HB.out))); have n6_ := Aside0.mk (blk_below (g := gb291) (o := .cells #[.int .i64 a0_0, .int .i64 a0_1] 23 (0, 0)) (by (with_reducible repeat (first | refine blk_drewN ?_ _ | refine blk_drew ?_ | refine blk_alloc ?_ _)); refine blk_far ?_ NB291_331.out _; (with_reducible repeat (first | refine blk_drewN ?_ _ | refine blk_drew ?_ | refine blk_alloc ?_ _)); refine blk_far ?_ NB291_331.out _; (with_reducible repeat (first | refine blk_drewN ?_ _ | refine blk_drew ?_ | refine blk_alloc ?_ _)); refine blk_far ?_ NB291_331.out _; (with_reducible repeat (first | refine blk_drewN ?_ _ | refine blk_drew ?_ | refine blk_alloc ?_ _)); exact BK291.out) hb); have n7_ := Aside0.mk (blk_below (g := gb300) (o := .cells #[.int .i64 t293, .int .i64 t294] 27 (0, 0)) (by (with_reducible repeat (first | refine blk_drewN ?_ _ | refine blk_drew ?_ | refine blk_alloc ?_ _)); refine blk_far ?_ NB300_331.out _; (with_reducible repeat (first | refine blk_drewN ?_ _ | refine blk_drew ?_ | refine blk_alloc ?_ _)); refine blk_far ?_ NB300_331.out _; (with_reducible repeat (first | refine blk_drewN ?_ _ | refine blk_drew ?_ | refine blk_alloc ?_ _)); refine blk_far ?_ NB300_331.out _; (with_reducible repeat (first | refine blk_drewN ?_ _ | refine blk_drew ?_ | refine blk_alloc ?_ _)); exact BK300.out) hb); have n8_ := Aside0.mk (blk_below (g := gb301) (o := .cells #[.int .i64 t295, .int .i64 t296] 23 (0, 0)) (by (with_reducible repeat (first | refine blk_drewN ?_ _ | refine blk_drew ?_ | refine blk_alloc ?_ _)); refine blk_far ?_ NB301_331.out _; (with_reducible repeat (first | refine blk_drewN ?_ _ | refine blk_drew ?_ | refine blk_alloc ?_ _)); refine blk_far ?_ NB301_331.out _; (with_reducible repeat (first | refine blk_drewN ?_ _ | refine blk_drew ?_ | refine blk_alloc ?_ _)); refine blk_far ?_ NB301_331.out _; (with_reducible repeat (first | refine blk_drewN ?_ _ | refine blk_drew ?_ | refine blk_alloc ?_ _)); exact BK301.out) hb); have n9_ := Aside0.mk (blk_below (g := gb309) (o := .cells #[.int .i64 t302, .int .i64 t303] 27 (0, 0)) (by (with_reducible repeat (first | refine blk_drewN ?_ _ | refine blk_drew ?_ | refine blk_alloc ?_ _)); refine blk_far ?_ NB309_331.out _; (with_reducible repeat (first | refine blk_drewN ?_ _ | refine blk_drew ?_ | refine blk_alloc ?_ _)); refine blk_far ?_ NB309_331.out _; (with_reducible repeat (first | refine blk_drewN ?_ _ | refine blk_drew ?_ | refine blk_alloc ?_ _)); refine blk_far ?_ NB309_331.out _; (with_reducible repeat (first | refine blk_drewN ?_ _ | refine blk_drew ?_ | refine blk_alloc ?_ _)); exact BK309.out) hb); have n10_ := Aside0.mk (blk_below (g := gb310) (o := .cells #[.int .i64 t304, .int .i64 t305] 23 (0, 0)) (by (with_reducible repeat (first | refine blk_drewN ?_ _ | refine blk_drew ?_ | refine blk_alloc ?_ _)); refine blk_far ?_ NB310_331.out _; (with_reducible repeat (first | refine blk_drewN ?_ _ | refine blk_drew ?_ | refine blk_alloc ?_ _)); refine blk_far ?_ NB310_331.out _; (with_reducible repeat (first | refine blk_drewN ?_ _ | refine blk_drew ?_ | refine blk_alloc ?_ _)); refine blk_far ?_ NB310_331.out _; (with_reducible repeat (first | refine blk_drewN ?_ _ | refine blk_drew ?_ | refine blk_alloc ?_ _)); exact BK310.out) hb); have n11_ := Aside0.mk (blk_below (g := gb318) (o := .cells #[.int .i64 t311, .int .i64 t312] 27 (0, 0)) (by (with_reducible repeat (first | refine blk_drewN ?_ _ | refine blk_drew ?_ | refine blk_alloc ?_ _)); refine blk_far ?_ NB318_331.out _; (with_reducible repeat (first | refine blk_drewN ?_ _ | refine blk_drew ?_ | refine blk_alloc ?_ _)); refine blk_far ?_ NB318_331.out _; (with_reducible repeat (first | refine blk_drewN ?_ _ | refine blk_drew ?_ | refine blk_alloc ?_ _)); refine blk_far ?_ NB318_331.out _; (with_reducible repeat (first | refine blk_drewN ?_ _ | refine blk_drew ?_ | refine blk_alloc ?_ _)); exact BK318.out) hb); have n12_ := Aside0.mk (blk_below (g := gb319) (o := .cells #[.int .i64 t313, .int .i64 t314] 23 (0, 0)) (by (with_reducible repeat (first | refine blk_drewN ?_ _ | refine blk_drew ?_ | refine blk_alloc ?_ _)); refine blk_far ?_ NB319_331.out _; (with_reducible repeat (first | refine blk_drewN ?_ _ | refine blk_drew ?_ | refine blk_alloc ?_ _)); refine blk_far ?_ NB319_331.out _; (with_reducible repeat (first | refine blk_drewN ?_ _ | refine blk_drew ?_ | refine blk_alloc ?_ _)); refine blk_far ?_ NB319_331.out _; (with_reducible repeat (first | refine blk_drewN ?_ _ | refine blk_drew ?_ | refine blk_alloc ?_ _)); exact BK319.out) hb); have n13_ := Aside0.mk (blk_below (g := gb325) (o := .cells #[.int .u64 t320, .int .i64 t321, .slice Ao66 t322.length co66] 33 (0, 0)) (by (with_reducible repeat (first | refine blk_drewN ?_ _ | refine blk_drew ?_ | refine blk_alloc ?_ _)); refine blk_far ?_ NB325_331.out _; (with_reducible repeat (first | refine blk_drewN ?_ _ | refine blk_drew ?_ | refine blk_alloc ?_ _)); refine blk_far ?_ NB325_331.out _; (with_reducible repeat (first | refine blk_drewN ?_ _ | refine blk_drew ?_ | refine blk_alloc ?_ _)); refine blk_far ?_ NB325_331.out _; (with_reducible repeat (first | refine blk_drewN ?_ _ | refine blk_drew ?_ | refine blk_alloc ?_ _)); exact BK325.out) hb); have n14_ := Aside0.mk (blk_below (g := gb331) (o := .cells #[.int .u64 t326, .int .i64 t327, .slice Ao80 t328.length co80] 33 (0, 0)) (by (with_reducible repeat (first | refine blk_drewN ?_ _ | refine blk_drew ?_ | refine blk_alloc ?_ _)); refine blk_put (cs := #[.int .u64 t326, .int .i64 t327, .slice none 0 0]) ?_ 2 _ rfl; (with_reducible repeat (first | refine blk_drewN ?_ _ | refine blk_drew ?_ | refine blk_alloc ?_ _)); refine blk_put (cs := #[.int .u64 t326, .int .i64 0, .slice none 0 0]) ?_ 1 _ rfl; (with_reducible repeat (first | refine blk_drewN ?_ _ | refine blk_drew ?_ | refine blk_alloc ?_ _)); refine blk_put (cs := #[.int .u64 0, .int .i64 0, .slice none 0 0]) ?_ 0 _ rfl; (with_reducible repeat (first | refine blk_drewN ?_ _ | refine blk_drew ?_ | refine blk_alloc ?_ _)); exact BK331.out) hb); have n15_ := Aside0.mk (below_step (bw_ HB.out) hb); clear HO299 HO308 HO317 HO324 HO330 BK291 BK300 BK301 BK309 BK310 BK318 BK319 BK325 BK331 HB; have HO299 := n0_; have HO308 := n1_; have HO317 := n2_; have HO324 := n3_; have HO330 := n4_; have HO336 := n5_; have BK291 := n6_; have BK300 := n7_; have BK301 := n8_; have BK309 := n9_; have BK310 := n10_; have BK318 := n11_; have BK319 := n12_; have BK325 := n13_; have BK331 := n14_; have HB := n15_; clear n0_ n1_ n2_ n3_ n4_ n5_ n6_ n7_ n8_ n9_ n10_ n11_ n12_ n13_ n14_ n15_; (try clear hb); (try clear hb2); (try clear hk); (try clear hi); (try clear ho0)) | ((with_reducible refine gate_dst (N := 21) rfl ?_); refine bx_ (N := 21) (cs := #[.int .u64 0, .int .i64 0, .slice none 0 0]) (t := 33) ?_; intro gb337 hg w84 hbox hb; have n0_ := Aside0.mk (Kd.N_below (Kd.N_elderB (by (with_reducible repeat (first | apply Kd.N_alloc | apply Kd.N_drewN | apply Kd.N_drew)); exact HO299.out) gb337 (Nat.le_of_eq hg.symm)) hb); have n1_ := Aside0.mk (Kd.N_below (Kd.N_elderB (by (with_reducible repeat (first | apply Kd.N_alloc | apply Kd.N_drewN | apply Kd.N_drew)); exact HO308.out) gb337 (Nat.le_of_eq hg.symm)) hb); have n2_ := Aside0.mk (Kd.N_below (Kd.N_elderB (by (with_reducible repeat (first | apply Kd.N_alloc | apply Kd.N_drewN | apply Kd.N_drew)); exact HO317.out) gb337 (Nat.le_of_eq hg.symm)) hb); have n3_ := Aside0.mk (Kd.R_below (by (with_reducible repeat (first | apply Kd.R_alloc | apply Kd.R_drewN | apply Kd.R_drew)); exact HO324.out) hb); have n4_ := Aside0.mk (Kd.R_below (by (with_reducible repeat (first | apply Kd.R_alloc | apply Kd.R_drewN | apply Kd.R_drew)); exact HO330.out) hb); have n5_ := Aside0.mk (Kd.R_below (by (with_reducible repeat (first | apply Kd.R_alloc | apply Kd.R_drewN | apply Kd.R_drew)); exact HO336.out) hb); have n6_ := Aside0.mk (blk_below (bk_ BK291.out) hb); have n7_ := Aside0.mk (blk_below (bk_ BK300.out) hb); have n8_ := Aside0.mk (blk_below (bk_ BK301.out) hb); have n9_ := Aside0.mk (blk_below (bk_ BK309.out) hb); have n10_ := Aside0.mk (blk_below (bk_ BK310.out) hb); have n11_ := Aside0.mk (blk_below (bk_ BK318.out) hb); have n12_ := Aside0.mk (blk_below (bk_ BK319.out) hb); have n13_ := Aside0.mk (blk_below (bk_ BK325.out) hb); have n14_ := Aside0.mk (blk_below (bk_ BK331.out) hb); have n15_ := Aside0.mk (below_step (bw_ HB.out) hb); have n16_ := Aside0.mk (hbox); have n17_ := Aside0.mk (sz_ hg (bw_ HB.out)); have n18_ := n17_; have n19_ := Aside0.mk (ne_ hg (blk_lt (bk_ BK291.out))); have n20_ := Aside0.mk n19_.out.symm; have n21_ := Aside0.mk (ne_ hg (blk_lt (bk_ BK300.out))); have n22_ := Aside0.mk n21_.out.symm; have n23_ := Aside0.mk (ne_ hg (blk_lt (bk_ BK301.out))); have n24_ := Aside0.mk n23_.out.symm; have n25_ := Aside0.mk (ne_ hg (blk_lt (bk_ BK309.out))); have n26_ := Aside0.mk n25_.out.symm; have n27_ := Aside0.mk (ne_ hg (blk_lt (bk_ BK310.out))); have n28_ := Aside0.mk n27_.out.symm; have n29_ := Aside0.mk (ne_ hg (blk_lt (bk_ BK318.out))); have n30_ := Aside0.mk n29_.out.symm; have n31_ := Aside0.mk (ne_ hg (blk_lt (bk_ BK319.out))); have n32_ := Aside0.mk n31_.out.symm; have n33_ := Aside0.mk (ne_ hg (blk_lt (bk_ BK325.out))); have n34_ := Aside0.mk n33_.out.symm; have n35_ := Aside0.mk (ne_ hg (blk_lt (bk_ BK331.out))); have n36_ := Aside0.mk n35_.out.symm; clear HO299 HO308 HO317 HO324 HO330 HO336 BK291 BK300 BK301 BK309 BK310 BK318 BK319 BK325 BK331 HB; have HO299 := n0_; have HO308 := n1_; have HO317 := n2_; have HO324 := n3_; have HO330 := n4_; have HO336 := n5_; have BK291 := n6_; have BK300 := n7_; have BK301 := n8_; have BK309 := n9_; have BK310 := n10_; have BK318 := n11_; have BK319 := n12_; have BK325 := n13_; have BK331 := n14_; have HB := n15_; have BK337 := n16_; have GW337 := n17_; have GE337 := n18_; have NB291_337 := n19_; have NB337_291 := n20_; have NB300_337 := n21_; have NB337_300 := n22_; have NB301_337 := n23_; have NB337_301 := n24_; have NB309_337 := n25_; have NB337_309 := n26_; have NB310_337 := n27_; have NB337_310 := n28_; have NB318_337 := n29_; have NB337_318 := n30_; have NB319_337 := n31_; have NB337_319 := n32_; have NB325_337 := n33_; have NB337_325 := n34_; have NB331_337 := n35_; have NB337_331 := n36_; clear n0_ n1_ n2_ n3_ n4_ n5_ n6_ n7_ n8_ n9_ n10_ n11_ n12_ n13_ n14_ n15_ n16_ n17_ n18_ n19_ n20_ n21_ n22_ n23_ n24_ n25_ n26_ n27_ n28_ n29_ n30_ n31_ n32_ n33_ n34_ n35_ n36_; clear hb hbox hg; have hnb85 := NB337_291.out; have hnc85 := NB291_337.out; have hnb86 := NB337_300.out; have hnc86 := NB300_337.out; have hnb87 := NB337_301.out; have hnc87 := NB301_337.out; have hnb88 := NB337_309.out; have hnc88 := NB309_337.out; have hnb89 := NB337_310.out; have hnc89 := NB310_337.out; have hnb90 := NB337_318.out; have hnc90 := NB318_337.out; have hnb91 := NB337_319.out; have hnc91 := NB319_337.out; have hnb92 := NB337_325.out; have hnc92 := NB325_337.out; have hnb93 := NB337_331.out; have hnc93 := NB331_337.out; have hcz94_0 : w84.cell? ⟨gb337, 0, none⟩ = some (.int .u64 0) := (blk_cell BK337.out 0).trans rfl; have hcz94_1 : w84.cell? ⟨gb337, 1, none⟩ = some (.int .i64 0) := (blk_cell BK337.out 1).trans rfl; have hcz94_2 : w84.cell? ⟨gb337, 2, none⟩ = some (.slice none 0 0) := (blk_cell BK337.out 2).trans rfl; have hfz94_0 := blk_frozen BK337.out 0; have hfz94_1 := blk_frozen BK337.out 1; have hfz94_2 := blk_frozen BK337.out 2; obtain ⟨Ao95, co95, eo95⟩ := Kd.R_slice HO336.out; subst eo95))
  go_loopg [22, 23] k (fun kq v22 v23 w' => ∃ (x22_1 : List (S44)) (x23_1 : Int), v23 = .int .i64 x23_1 ∧ Aside0 (gristmilllaw06_AggTurns.l0 kq t297 x22_1 x23_1 t295 t296 t320 t321 t322 t326 t327 t328 t332 t333 t334 = some r) ∧ Aside0 (kq ≤ k) ∧ Aside0 (Kd.N k44 44 w' w.heap.size (fun k_ => some k_ ≠ (v22 : Value).ownBlock ∧ some k_ ≠ ((.slice Ao66 t322.length co66) : Value).ownBlock ∧ some k_ ≠ ((.slice Ao80 t328.length co80) : Value).ownBlock ∧ some k_ ≠ ((.slice Ao95 t334.length co95) : Value).ownBlock ∧ k_ ≠ gb291 ∧ k_ ≠ gb300 ∧ k_ ≠ gb301 ∧ k_ ≠ gb309 ∧ k_ ≠ gb310 ∧ k_ ≠ gb318 ∧ k_ ≠ gb319 ∧ k_ ≠ gb325 ∧ k_ ≠ gb331 ∧ k_ ≠ gb337) (.slice Ao55 t297.length co55) t297) ∧ Aside0 (Kd.N k44 44 w' w.heap.size (fun k_ => some k_ ≠ ((.slice Ao55 t297.length co55) : Value).ownBlock ∧ some k_ ≠ ((.slice Ao66 t322.length co66) : Value).ownBlock ∧ some k_ ≠ ((.slice Ao80 t328.length co80) : Value).ownBlock ∧ some k_ ≠ ((.slice Ao95 t334.length co95) : Value).ownBlock ∧ k_ ≠ gb291 ∧ k_ ≠ gb300 ∧ k_ ≠ gb301 ∧ k_ ≠ gb309 ∧ k_ ≠ gb310 ∧ k_ ≠ gb318 ∧ k_ ≠ gb319 ∧ k_ ≠ gb325 ∧ k_ ≠ gb331 ∧ k_ ≠ gb337) v22 x22_1) ∧ Aside0 (Kd.R Kd.string 9 w' w.heap.size (fun k_ => some k_ ≠ ((.slice Ao80 t328.length co80) : Value).ownBlock ∧ some k_ ≠ ((.slice Ao95 t334.length co95) : Value).ownBlock) (.slice Ao66 t322.length co66) t322) ∧ Aside0 (Kd.R Kd.string 9 w' w.heap.size (fun k_ => some k_ ≠ ((.slice Ao66 t322.length co66) : Value).ownBlock ∧ some k_ ≠ ((.slice Ao95 t334.length co95) : Value).ownBlock) (.slice Ao80 t328.length co80) t328) ∧ Aside0 (Kd.R Kd.string 9 w' w.heap.size (fun k_ => some k_ ≠ ((.slice Ao66 t322.length co66) : Value).ownBlock ∧ some k_ ≠ ((.slice Ao80 t328.length co80) : Value).ownBlock) (.slice Ao95 t334.length co95) t334) ∧ Aside0 (w'.heap[gb291]? = some (.cells #[.int .i64 a0_0, .int .i64 a0_1] 23 (0, 0))) ∧ Aside0 (w'.heap[gb300]? = some (.cells #[.int .i64 t293, .int .i64 t294] 27 (0, 0))) ∧ Aside0 (w'.heap[gb301]? = some (.cells #[.int .i64 t295, .int .i64 t296] 23 (0, 0))) ∧ Aside0 (w'.heap[gb309]? = some (.cells #[.int .i64 t302, .int .i64 t303] 27 (0, 0))) ∧ Aside0 (w'.heap[gb310]? = some (.cells #[.int .i64 t304, .int .i64 t305] 23 (0, 0))) ∧ Aside0 (w'.heap[gb318]? = some (.cells #[.int .i64 t311, .int .i64 t312] 27 (0, 0))) ∧ Aside0 (w'.heap[gb319]? = some (.cells #[.int .i64 t313, .int .i64 t314] 23 (0, 0))) ∧ Aside0 (w'.heap[gb325]? = some (.cells #[.int .u64 t320, .int .i64 t321, (.slice Ao66 t322.length co66)] 33 (0, 0))) ∧ Aside0 (w'.heap[gb331]? = some (.cells #[.int .u64 t326, .int .i64 t327, (.slice Ao80 t328.length co80)] 33 (0, 0))) ∧ Aside0 (w'.heap[gb337]? = some (.cells #[.int .u64 t332, .int .i64 t333, (.slice Ao95 t334.length co95)] 33 (0, 0))) ∧ Aside0 (Below w.heap.size w w'))
  case atStart => exact ⟨(([] : List (S44))), (wrap64 ((t297.length : Int) - 1)), (by first | rfl | (simp; done) | (simp [*]; done)), H', ⟨Nat.le_refl _⟩, ⟨by (with_reducible repeat (first | apply Kd.N_alloc | apply Kd.N_drewN | apply Kd.N_drew)); exact Kd.N_mono (Kd.N_far (p := ⟨gb337, 2, none⟩) (Kd.N_far (p := ⟨gb337, 1, none⟩) (Kd.N_far (p := ⟨gb337, 0, none⟩) (Kd.N_mono HO299.out (fun k_ hk => (⟨hk, hk.2⟩ : _ ∧ k_ ≠ gb337))) (fun _ hk => hk.2) (.int .u64 t332)) (fun _ hk => hk.2) (.int .i64 t333)) (fun _ hk => hk.2) (.slice Ao95 t334.length co95)) (fun _ hk => ⟨(by simp [Value.ownBlock]), ⟨hk.1.1.1.1.1.1.2, ⟨hk.1.1.1.1.2, ⟨hk.1.1.2, ⟨hk.1.1.1.1.1.1.1.1.1.1.1.1.1.1.1, ⟨hk.1.1.1.1.1.1.1.1.1.1.1.1.1.1.2, ⟨hk.1.1.1.1.1.1.1.1.1.1.1.1.1.2, ⟨hk.1.1.1.1.1.1.1.1.1.1.1.2, ⟨hk.1.1.1.1.1.1.1.1.1.1.2, ⟨hk.1.1.1.1.1.1.1.1.2, ⟨hk.1.1.1.1.1.1.1.2, ⟨hk.1.1.1.1.1.2, ⟨hk.1.1.1.2, hk.1.2⟩⟩⟩⟩⟩⟩⟩⟩⟩⟩⟩⟩⟩)⟩, ⟨by first | exact Kd.S_nil _ _ _ _ _ | exact Kd.N_nil _ _ _ _ _ | exact Kd.V_nil _ _ _ _ _ | exact Kd.Q_nil _ _ _ _ _ | exact Kd.R_nil _ _ _ _ _⟩, ⟨by (with_reducible repeat (first | apply Kd.R_alloc | apply Kd.R_drewN | apply Kd.R_drew)); exact Kd.R_mono (Kd.R_far (p := ⟨gb337, 2, none⟩) (Kd.R_far (p := ⟨gb337, 1, none⟩) (Kd.R_far (p := ⟨gb337, 0, none⟩) (Kd.R_types HO324.out BK337.out (by decide)) (fun _ hk => hk.2) (.int .u64 t332)) (fun _ hk => hk.2) (.int .i64 t333)) (fun _ hk => hk.2) (.slice Ao95 t334.length co95)) (fun _ hk => ⟨hk.1.1.2, hk.1.2⟩)⟩, ⟨by (with_reducible repeat (first | apply Kd.R_alloc | apply Kd.R_drewN | apply Kd.R_drew)); exact Kd.R_mono (Kd.R_far (p := ⟨gb337, 2, none⟩) (Kd.R_far (p := ⟨gb337, 1, none⟩) (Kd.R_far (p := ⟨gb337, 0, none⟩) (Kd.R_types HO330.out BK337.out (by decide)) (fun _ hk => hk.2) (.int .u64 t332)) (fun _ hk => hk.2) (.int .i64 t333)) (fun _ hk => hk.2) (.slice Ao95 t334.length co95)) (fun _ hk => ⟨hk.1.1.2, hk.1.2⟩)⟩, ⟨by (with_reducible repeat (first | apply Kd.R_alloc | apply Kd.R_drewN | apply Kd.R_drew)); exact Kd.R_mono (Kd.R_far (p := ⟨gb337, 2, none⟩) (Kd.R_far (p := ⟨gb337, 1, none⟩) (Kd.R_far (p := ⟨gb337, 0, none⟩) (Kd.R_types HO336.out BK337.out (by decide)) (fun _ hk => hk.2) (.int .u64 t332)) (fun _ hk => hk.2) (.int .i64 t333)) (fun _ hk => hk.2) (.slice Ao95 t334.length co95)) (fun _ hk => ⟨hk.1.1.2, hk.1.2⟩)⟩, ⟨by (with_reducible repeat (first | refine blk_drewN ?_ _ | refine blk_drew ?_ | refine blk_alloc ?_ _)); refine blk_far ?_ NB291_337.out _; (with_reducible repeat (first | refine blk_drewN ?_ _ | refine blk_drew ?_ | refine blk_alloc ?_ _)); refine blk_far ?_ NB291_337.out _; (with_reducible repeat (first | refine blk_drewN ?_ _ | refine blk_drew ?_ | refine blk_alloc ?_ _)); refine blk_far ?_ NB291_337.out _; (with_reducible repeat (first | refine blk_drewN ?_ _ | refine blk_drew ?_ | refine blk_alloc ?_ _)); exact BK291.out⟩, ⟨by (with_reducible repeat (first | refine blk_drewN ?_ _ | refine blk_drew ?_ | refine blk_alloc ?_ _)); refine blk_far ?_ NB300_337.out _; (with_reducible repeat (first | refine blk_drewN ?_ _ | refine blk_drew ?_ | refine blk_alloc ?_ _)); refine blk_far ?_ NB300_337.out _; (with_reducible repeat (first | refine blk_drewN ?_ _ | refine blk_drew ?_ | refine blk_alloc ?_ _)); refine blk_far ?_ NB300_337.out _; (with_reducible repeat (first | refine blk_drewN ?_ _ | refine blk_drew ?_ | refine blk_alloc ?_ _)); exact BK300.out⟩, ⟨by (with_reducible repeat (first | refine blk_drewN ?_ _ | refine blk_drew ?_ | refine blk_alloc ?_ _)); refine blk_far ?_ NB301_337.out _; (with_reducible repeat (first | refine blk_drewN ?_ _ | refine blk_drew ?_ | refine blk_alloc ?_ _)); refine blk_far ?_ NB301_337.out _; (with_reducible repeat (first | refine blk_drewN ?_ _ | refine blk_drew ?_ | refine blk_alloc ?_ _)); refine blk_far ?_ NB301_337.out _; (with_reducible repeat (first | refine blk_drewN ?_ _ | refine blk_drew ?_ | refine blk_alloc ?_ _)); exact BK301.out⟩, ⟨by (with_reducible repeat (first | refine blk_drewN ?_ _ | refine blk_drew ?_ | refine blk_alloc ?_ _)); refine blk_far ?_ NB309_337.out _; (with_reducible repeat (first | refine blk_drewN ?_ _ | refine blk_drew ?_ | refine blk_alloc ?_ _)); refine blk_far ?_ NB309_337.out _; (with_reducible repeat (first | refine blk_drewN ?_ _ | refine blk_drew ?_ | refine blk_alloc ?_ _)); refine blk_far ?_ NB309_337.out _; (with_reducible repeat (first | refine blk_drewN ?_ _ | refine blk_drew ?_ | refine blk_alloc ?_ _)); exact BK309.out⟩, ⟨by (with_reducible repeat (first | refine blk_drewN ?_ _ | refine blk_drew ?_ | refine blk_alloc ?_ _)); refine blk_far ?_ NB310_337.out _; (with_reducible repeat (first | refine blk_drewN ?_ _ | refine blk_drew ?_ | refine blk_alloc ?_ _)); refine blk_far ?_ NB310_337.out _; (with_reducible repeat (first | refine blk_drewN ?_ _ | refine blk_drew ?_ | refine blk_alloc ?_ _)); refine blk_far ?_ NB310_337.out _; (with_reducible repeat (first | refine blk_drewN ?_ _ | refine blk_drew ?_ | refine blk_alloc ?_ _)); exact BK310.out⟩, ⟨by (with_reducible repeat (first | refine blk_drewN ?_ _ | refine blk_drew ?_ | refine blk_alloc ?_ _)); refine blk_far ?_ NB318_337.out _; (with_reducible repeat (first | refine blk_drewN ?_ _ | refine blk_drew ?_ | refine blk_alloc ?_ _)); refine blk_far ?_ NB318_337.out _; (with_reducible repeat (first | refine blk_drewN ?_ _ | refine blk_drew ?_ | refine blk_alloc ?_ _)); refine blk_far ?_ NB318_337.out _; (with_reducible repeat (first | refine blk_drewN ?_ _ | refine blk_drew ?_ | refine blk_alloc ?_ _)); exact BK318.out⟩, ⟨by (with_reducible repeat (first | refine blk_drewN ?_ _ | refine blk_drew ?_ | refine blk_alloc ?_ _)); refine blk_far ?_ NB319_337.out _; (with_reducible repeat (first | refine blk_drewN ?_ _ | refine blk_drew ?_ | refine blk_alloc ?_ _)); refine blk_far ?_ NB319_337.out _; (with_reducible repeat (first | refine blk_drewN ?_ _ | refine blk_drew ?_ | refine blk_alloc ?_ _)); refine blk_far ?_ NB319_337.out _; (with_reducible repeat (first | refine blk_drewN ?_ _ | refine blk_drew ?_ | refine blk_alloc ?_ _)); exact BK319.out⟩, ⟨by (with_reducible repeat (first | refine blk_drewN ?_ _ | refine blk_drew ?_ | refine blk_alloc ?_ _)); refine blk_far ?_ NB325_337.out _; (with_reducible repeat (first | refine blk_drewN ?_ _ | refine blk_drew ?_ | refine blk_alloc ?_ _)); refine blk_far ?_ NB325_337.out _; (with_reducible repeat (first | refine blk_drewN ?_ _ | refine blk_drew ?_ | refine blk_alloc ?_ _)); refine blk_far ?_ NB325_337.out _; (with_reducible repeat (first | refine blk_drewN ?_ _ | refine blk_drew ?_ | refine blk_alloc ?_ _)); exact BK325.out⟩, ⟨by (with_reducible repeat (first | refine blk_drewN ?_ _ | refine blk_drew ?_ | refine blk_alloc ?_ _)); refine blk_far ?_ NB331_337.out _; (with_reducible repeat (first | refine blk_drewN ?_ _ | refine blk_drew ?_ | refine blk_alloc ?_ _)); refine blk_far ?_ NB331_337.out _; (with_reducible repeat (first | refine blk_drewN ?_ _ | refine blk_drew ?_ | refine blk_alloc ?_ _)); refine blk_far ?_ NB331_337.out _; (with_reducible repeat (first | refine blk_drewN ?_ _ | refine blk_drew ?_ | refine blk_alloc ?_ _)); exact BK331.out⟩, ⟨by (with_reducible repeat (first | refine blk_drewN ?_ _ | refine blk_drew ?_ | refine blk_alloc ?_ _)); refine blk_put (cs := #[.int .u64 t332, .int .i64 t333, .slice none 0 0]) ?_ 2 _ rfl; (with_reducible repeat (first | refine blk_drewN ?_ _ | refine blk_drew ?_ | refine blk_alloc ?_ _)); refine blk_put (cs := #[.int .u64 t332, .int .i64 0, .slice none 0 0]) ?_ 1 _ rfl; (with_reducible repeat (first | refine blk_drewN ?_ _ | refine blk_drew ?_ | refine blk_alloc ?_ _)); refine blk_put (cs := #[.int .u64 0, .int .i64 0, .slice none 0 0]) ?_ 0 _ rfl; (with_reducible repeat (first | refine blk_drewN ?_ _ | refine blk_drew ?_ | refine blk_alloc ?_ _)); exact BK337.out⟩, ⟨by repeat (first | (with_reducible first | exact HB.out | apply below_alloc | apply pw_below_drewN | apply below_drew1 | refine below_set ?_ GE291.out | refine below_set ?_ GE300.out | refine below_set ?_ GE301.out | refine below_set ?_ GE309.out | refine below_set ?_ GE310.out | refine below_set ?_ GE318.out | refine below_set ?_ GE319.out | refine below_set ?_ GE325.out | refine below_set ?_ GE331.out | refine below_set ?_ GE337.out) | exact HB.out)⟩⟩
  case round =>
   clear H'
   try clear c1
   try clear c2
   try clear p2
   try clear c3
   try clear c4
   try clear c5
   try clear c6
   try clear p6
   try clear c7
   try clear c8
   try clear c9
   try clear c10
   try clear c11
   try clear c12
   try clear c19
   try clear c20
   try clear c22
   try clear c28
   try clear c29
   try clear c30
   try clear c31
   try clear c33
   try clear c34
   try clear c35
   try clear c41
   try clear c42
   try clear c43
   try clear c44
   try clear c45
   try clear c46
   try clear c48
   try clear c49
   try clear c50
   try clear c51
   try clear c52
   try clear c58
   try clear c59
   try clear c60
   try clear c61
   try clear c62
   try clear c63
   try clear c64
   try clear p64
   try clear c71
   try clear c72
   try clear c73
   try clear c74
   try clear c75
   try clear c76
   try clear c77
   try clear c78
   try clear c85
   try clear c86
   try clear c87
   try clear c88
   try clear c89
   try clear c90
   try clear c91
   try clear c92
   try clear c93
   try clear hcz15_0
   try clear hcz15_1
   try clear hcz21_0
   try clear hcz21_1
   try clear hcz23_0
   try clear hcz23_1
   try clear hcz24_0
   try clear hcz24_1
   try clear hcz32_0
   try clear hcz32_1
   try clear hcz36_0
   try clear hcz36_1
   try clear hcz37_0
   try clear hcz37_1
   try clear hcz47_0
   try clear hcz47_1
   try clear hcz53_0
   try clear hcz53_1
   try clear hcz54_0
   try clear hcz54_1
   try clear hcz65_0
   try clear hcz65_1
   try clear hcz65_2
   try clear hcz67_0
   try clear hcz67_1
   try clear hcz79_0
   try clear hcz79_1
   try clear hcz79_2
   try clear hcz81_0
   try clear hcz81_1
   try clear hcz94_0
   try clear hcz94_1
   try clear hcz94_2
   try clear hfz15_0
   try clear hfz15_1
   try clear hfz21_0
   try clear hfz21_1
   try clear hfz23_0
   try clear hfz23_1
   try clear hfz24_0
   try clear hfz24_1
   try clear hfz32_0
   try clear hfz32_1
   try clear hfz36_0
   try clear hfz36_1
   try clear hfz37_0
   try clear hfz37_1
   try clear hfz47_0
   try clear hfz47_1
   try clear hfz53_0
   try clear hfz53_1
   try clear hfz54_0
   try clear hfz54_1
   try clear hfz65_0
   try clear hfz65_1
   try clear hfz65_2
   try clear hfz67_0
   try clear hfz67_1
   try clear hfz79_0
   try clear hfz79_1
   try clear hfz79_2
   try clear hfz81_0
   try clear hfz81_1
   try clear hfz94_0
   try clear hfz94_1
   try clear hfz94_2
   obtain ⟨x22_1, x23_1, rfl, HA, HK1, HO_12, HO_22, HO_326002, HO_332002, HO_338002, BK291, BK300, BK301, BK309, BK310, BK318, BK319, BK325, BK331, BK337, HB⟩ := hrel
   cases gk with
   | zero => exact absurd HA.out (by simp [gristmilllaw06_AggTurns.l0])
   | succ k1 =>
    have H := HA.out
    clear HA
    simp only [gristmilllaw06_AggTurns.l0] at H
    by_cases c96 : x23_1 ≥ 0
    ·rw [if_pos c96] at H
     have c96b0 : decide (0 ≤ x23_1) = true := decide_eq_true c96
     clear c96
     by_cases c97 : 0 ≤ x23_1
     ·rw [if_pos c97] at H
      have c97b0 : decide (0 ≤ x23_1) = true := decide_eq_true c97
      clear c97
      by_cases c98 : x23_1 < (t297.length : Int)
      ·rw [if_pos c98] at H
       have c98b0 : decide (x23_1 < (t297.length : Int)) = true := decide_eq_true c98
       clear c98
       by_cases c99 : x22_1.length < 2199023255552
       ·rw [if_pos c99] at H
        have LMc99 := Aside0.mk c99
        clear c99
        obtain ⟨y339, hy339⟩ : ∃ y_ : List (S44), y_ = (x22_1 ++ [(⟨(⟨(rd_T44 t297 x23_1).f0.f0, (rd_T44 t297 x23_1).f0.f1, (rd_T44 t297 x23_1).f0.f2⟩ : S42), (rd_T44 t297 x23_1).f1⟩ : S44)]) := ⟨_, rfl⟩
        replace H : (gristmilllaw06_AggTurns.l0 k1 t297 y339 (wrap64 (x23_1 - 1)) t295 t296 t320 t321 t322 t326 t327 t328 t332 t333 t334) = some r := by first | (rw [hy339]; with_reducible exact H) | (have H2_ := (Option.bind_some _ _).symm.trans H; rw [hy339]; with_reducible exact H2_) | (have H2_ := (Option.bind_some _ _).symm.trans H; with_reducible exact H2_) | with_reducible exact H | (rw [hy339]; exact H) | exact H
        have Ny339 := Aside0.mk hy339
        clear hy339
        have H' := Aside0.mk H
        clear H
        have p338 : 0 ≤ (x23_1 : Int) := of_decide_eq_true (by assumption)
        have q338 : x23_1 < (t297.length : Int) := of_decide_eq_true (by assumption)
        obtain ⟨ad338, A338_1, c338_1, A338_2, c338_2, e338, hx338_0, hx338_1, hx338_2, hx338_3, hl338_1, hi338_1, hl338_2, hi338_2⟩ := at_T44 (Kd.N_reads' HO_12.out).2.2 x23_1 p338 q338
        cases e338
        obtain ⟨ce338, hce338, hMe338, hcc338⟩ := Kd.N_get HO_12.out z44 x23_1 p338 (by first | exact q338 | exact of_decide_eq_true (by assumption) | (have e_ := (Kd.N_reads' HO_12.out).1; omega))
        obtain ⟨ua338_1, uc338_1, ua338_2, uc338_2, rfl, ul338_1, ge338_1, ul338_2, ge338_2⟩ := k44_openF hMe338
        have hv338_1 := hcc338 1 _ rfl
        rw [add_field _ _ 1 (by omega)] at hv338_1
        replace hv338_1 := Option.some.inj (hv338_1.symm.trans hx338_1)
        injection hv338_1 with hva_ hvn_ hvc_
        rw [hva_] at ge338_1
        rw [hvc_] at ul338_1
        have HL338_1 := Aside0.mk (show Kd.V Kd.string 9 _ w.heap.size _ _ ((rd_T44 t297 x23_1).f0.f1) from Kd.V_mk ul338_1 ge338_1)
        clear hva_ hvn_ hvc_ ge338_1 ul338_1
        have hv338_2 := hcc338 2 _ rfl
        rw [add_field _ _ 2 (by omega)] at hv338_2
        replace hv338_2 := Option.some.inj (hv338_2.symm.trans hx338_2)
        injection hv338_2 with hva_ hvn_ hvc_
        rw [hva_] at ge338_2
        rw [hvc_] at ul338_2
        have HL338_2 := Aside0.mk (show Kd.V (Kd.int .i64) 2 _ w.heap.size _ _ ((rd_T44 t297 x23_1).f0.f2) from Kd.V_mk ul338_2 ge338_2)
        clear hva_ hvn_ hvc_ ge338_2 ul338_2
        clear hcc338 hce338
        have HR338_1 := Aside0.mk hi338_1
        have HC338_1 := Aside0.mk hl338_1
        clear hi338_1 hl338_1
        have HR338_2 := Aside0.mk hi338_2
        have HC338_2 := Aside0.mk hl338_2
        clear hi338_2 hl338_2
        replace p338 := eq_true p338
        replace q338 := eq_true q338
        go_wp2_with (first | ((with_reducible refine gate_builtin (b := .append) (xs := #[.tmp 66, .tmp 71]) rfl ?_); at_builtin; refine Kd.N_append k44 (w0 := w) w.heap.size rfl (.tmp 66) (.tmp 71) 24 44 (.agg #[(.int .i64 0), (.slice none 0 0), (.slice none 0 0), (.int .u64 0)]) 64 rfl Try.underlying24 info44 rfl (by decide) (by omega) u22 x22_1 (⟨(⟨(rd_T44 t297 x23_1).f0.f0, (rd_T44 t297 x23_1).f0.f1, (rd_T44 t297 x23_1).f0.f2⟩ : S42), (rd_T44 t297 x23_1).f1⟩ : S44) [.int .i64 ((rd_T44 t297 x23_1).f0.f0), .slice A338_1 ((rd_T44 t297 x23_1).f0.f1).length c338_1, .slice A338_2 ((rd_T44 t297 x23_1).f0.f2).length c338_2, .int .u64 ((rd_T44 t297 x23_1).f1)] (fun k_ => some k_ ≠ (.slice (some ad338) t297.length co55 : Value).ownBlock ∧ some k_ ≠ (.slice Ao66 t322.length co66 : Value).ownBlock ∧ some k_ ≠ (.slice Ao80 t328.length co80 : Value).ownBlock ∧ some k_ ≠ (.slice Ao95 t334.length co95 : Value).ownBlock ∧ k_ ≠ gb291 ∧ k_ ≠ gb300 ∧ k_ ≠ gb301 ∧ k_ ≠ gb309 ∧ k_ ≠ gb310 ∧ k_ ≠ gb318 ∧ k_ ≠ gb319 ∧ k_ ≠ gb325 ∧ k_ ≠ gb331 ∧ k_ ≠ gb337) (fun k_ => ((fun k_ => some k_ ≠ (.slice (some ad338) t297.length co55 : Value).ownBlock ∧ some k_ ≠ (.slice Ao66 t322.length co66 : Value).ownBlock ∧ some k_ ≠ (.slice Ao80 t328.length co80 : Value).ownBlock ∧ some k_ ≠ (.slice Ao95 t334.length co95 : Value).ownBlock ∧ k_ ≠ gb291 ∧ k_ ≠ gb300 ∧ k_ ≠ gb301 ∧ k_ ≠ gb309 ∧ k_ ≠ gb310 ∧ k_ ≠ gb318 ∧ k_ ≠ gb319 ∧ k_ ≠ gb325 ∧ k_ ≠ gb331 ∧ k_ ≠ gb337)) k_ ∧ some k_ ≠ (u22 : Value).ownBlock) rfl rfl ?aP (fun _ hk => hk) ?aF ?aO ?aB ?aS ?aL ?_; (case aP => exact (k44_mkF _ _ (⟨(⟨(rd_T44 t297 x23_1).f0.f0, (rd_T44 t297 x23_1).f0.f1, (rd_T44 t297 x23_1).f0.f2⟩ : S42), (rd_T44 t297 x23_1).f1⟩ : S44) (Kd.V_reads' (Kd.V_mono (ok' := (fun k_ => ((fun k_ => some k_ ≠ (.slice (some ad338) t297.length co55 : Value).ownBlock ∧ some k_ ≠ (.slice Ao66 t322.length co66 : Value).ownBlock ∧ some k_ ≠ (.slice Ao80 t328.length co80 : Value).ownBlock ∧ some k_ ≠ (.slice Ao95 t334.length co95 : Value).ownBlock ∧ k_ ≠ gb291 ∧ k_ ≠ gb300 ∧ k_ ≠ gb301 ∧ k_ ≠ gb309 ∧ k_ ≠ gb310 ∧ k_ ≠ gb318 ∧ k_ ≠ gb319 ∧ k_ ≠ gb325 ∧ k_ ≠ gb331 ∧ k_ ≠ gb337)) k_ ∧ some k_ ≠ (u22 : Value).ownBlock)) (HL338_1.out) (fun k_ hk => ⟨⟨hk.2, ⟨hk.1.2.1, ⟨hk.1.2.2.1, ⟨hk.1.2.2.2.1, ⟨hk.1.2.2.2.2.1, ⟨hk.1.2.2.2.2.2.1, ⟨hk.1.2.2.2.2.2.2.1, ⟨hk.1.2.2.2.2.2.2.2.1, ⟨hk.1.2.2.2.2.2.2.2.2.1, ⟨hk.1.2.2.2.2.2.2.2.2.2.1, ⟨hk.1.2.2.2.2.2.2.2.2.2.2.1, ⟨hk.1.2.2.2.2.2.2.2.2.2.2.2.1, ⟨hk.1.2.2.2.2.2.2.2.2.2.2.2.2.1, hk.1.2.2.2.2.2.2.2.2.2.2.2.2.2⟩⟩⟩⟩⟩⟩⟩⟩⟩⟩⟩⟩⟩, hk.1.1⟩))).2.1 (Kd.V_F (Kd.V_mono (ok' := (fun k_ => ((fun k_ => some k_ ≠ (.slice (some ad338) t297.length co55 : Value).ownBlock ∧ some k_ ≠ (.slice Ao66 t322.length co66 : Value).ownBlock ∧ some k_ ≠ (.slice Ao80 t328.length co80 : Value).ownBlock ∧ some k_ ≠ (.slice Ao95 t334.length co95 : Value).ownBlock ∧ k_ ≠ gb291 ∧ k_ ≠ gb300 ∧ k_ ≠ gb301 ∧ k_ ≠ gb309 ∧ k_ ≠ gb310 ∧ k_ ≠ gb318 ∧ k_ ≠ gb319 ∧ k_ ≠ gb325 ∧ k_ ≠ gb331 ∧ k_ ≠ gb337)) k_ ∧ some k_ ≠ (u22 : Value).ownBlock)) (HL338_1.out) (fun k_ hk => ⟨⟨hk.2, ⟨hk.1.2.1, ⟨hk.1.2.2.1, ⟨hk.1.2.2.2.1, ⟨hk.1.2.2.2.2.1, ⟨hk.1.2.2.2.2.2.1, ⟨hk.1.2.2.2.2.2.2.1, ⟨hk.1.2.2.2.2.2.2.2.1, ⟨hk.1.2.2.2.2.2.2.2.2.1, ⟨hk.1.2.2.2.2.2.2.2.2.2.1, ⟨hk.1.2.2.2.2.2.2.2.2.2.2.1, ⟨hk.1.2.2.2.2.2.2.2.2.2.2.2.1, ⟨hk.1.2.2.2.2.2.2.2.2.2.2.2.2.1, hk.1.2.2.2.2.2.2.2.2.2.2.2.2.2⟩⟩⟩⟩⟩⟩⟩⟩⟩⟩⟩⟩⟩, hk.1.1⟩))) (Kd.V_reads' (Kd.V_mono (ok' := (fun k_ => ((fun k_ => some k_ ≠ (.slice (some ad338) t297.length co55 : Value).ownBlock ∧ some k_ ≠ (.slice Ao66 t322.length co66 : Value).ownBlock ∧ some k_ ≠ (.slice Ao80 t328.length co80 : Value).ownBlock ∧ some k_ ≠ (.slice Ao95 t334.length co95 : Value).ownBlock ∧ k_ ≠ gb291 ∧ k_ ≠ gb300 ∧ k_ ≠ gb301 ∧ k_ ≠ gb309 ∧ k_ ≠ gb310 ∧ k_ ≠ gb318 ∧ k_ ≠ gb319 ∧ k_ ≠ gb325 ∧ k_ ≠ gb331 ∧ k_ ≠ gb337)) k_ ∧ some k_ ≠ (u22 : Value).ownBlock)) (HL338_2.out) (fun k_ hk => ⟨⟨hk.2, ⟨hk.1.2.1, ⟨hk.1.2.2.1, ⟨hk.1.2.2.2.1, ⟨hk.1.2.2.2.2.1, ⟨hk.1.2.2.2.2.2.1, ⟨hk.1.2.2.2.2.2.2.1, ⟨hk.1.2.2.2.2.2.2.2.1, ⟨hk.1.2.2.2.2.2.2.2.2.1, ⟨hk.1.2.2.2.2.2.2.2.2.2.1, ⟨hk.1.2.2.2.2.2.2.2.2.2.2.1, ⟨hk.1.2.2.2.2.2.2.2.2.2.2.2.1, ⟨hk.1.2.2.2.2.2.2.2.2.2.2.2.2.1, hk.1.2.2.2.2.2.2.2.2.2.2.2.2.2⟩⟩⟩⟩⟩⟩⟩⟩⟩⟩⟩⟩⟩, hk.1.1⟩))).2.1 (Kd.V_F (Kd.V_mono (ok' := (fun k_ => ((fun k_ => some k_ ≠ (.slice (some ad338) t297.length co55 : Value).ownBlock ∧ some k_ ≠ (.slice Ao66 t322.length co66 : Value).ownBlock ∧ some k_ ≠ (.slice Ao80 t328.length co80 : Value).ownBlock ∧ some k_ ≠ (.slice Ao95 t334.length co95 : Value).ownBlock ∧ k_ ≠ gb291 ∧ k_ ≠ gb300 ∧ k_ ≠ gb301 ∧ k_ ≠ gb309 ∧ k_ ≠ gb310 ∧ k_ ≠ gb318 ∧ k_ ≠ gb319 ∧ k_ ≠ gb325 ∧ k_ ≠ gb331 ∧ k_ ≠ gb337)) k_ ∧ some k_ ≠ (u22 : Value).ownBlock)) (HL338_2.out) (fun k_ hk => ⟨⟨hk.2, ⟨hk.1.2.1, ⟨hk.1.2.2.1, ⟨hk.1.2.2.2.1, ⟨hk.1.2.2.2.2.1, ⟨hk.1.2.2.2.2.2.1, ⟨hk.1.2.2.2.2.2.2.1, ⟨hk.1.2.2.2.2.2.2.2.1, ⟨hk.1.2.2.2.2.2.2.2.2.1, ⟨hk.1.2.2.2.2.2.2.2.2.2.1, ⟨hk.1.2.2.2.2.2.2.2.2.2.2.1, ⟨hk.1.2.2.2.2.2.2.2.2.2.2.2.1, ⟨hk.1.2.2.2.2.2.2.2.2.2.2.2.2.1, hk.1.2.2.2.2.2.2.2.2.2.2.2.2.2⟩⟩⟩⟩⟩⟩⟩⟩⟩⟩⟩⟩⟩, hk.1.1⟩))))); (case aB => exact (bw_ HB.out)); (case aF => exact (fun k_ hk => ⟨Kd.fresh' (Kd.N_lt (by (with_reducible repeat (first | apply Kd.N_alloc | apply Kd.N_drewN | apply Kd.N_drew)); exact HO_12.out)) k_ hk, Kd.fresh' (Kd.R_lt (by (with_reducible repeat (first | apply Kd.R_alloc | apply Kd.R_drewN | apply Kd.R_drew)); exact HO_326002.out)) k_ hk, Kd.fresh' (Kd.R_lt (by (with_reducible repeat (first | apply Kd.R_alloc | apply Kd.R_drewN | apply Kd.R_drew)); exact HO_332002.out)) k_ hk, Kd.fresh' (Kd.R_lt (by (with_reducible repeat (first | apply Kd.R_alloc | apply Kd.R_drewN | apply Kd.R_drew)); exact HO_338002.out)) k_ hk, Kd.freshB (g := gb291) (o := .cells #[.int .i64 a0_0, .int .i64 a0_1] 23 (0, 0)) (bk_ BK291.out) k_ hk, Kd.freshB (g := gb300) (o := .cells #[.int .i64 t293, .int .i64 t294] 27 (0, 0)) (bk_ BK300.out) k_ hk, Kd.freshB (g := gb301) (o := .cells #[.int .i64 t295, .int .i64 t296] 23 (0, 0)) (bk_ BK301.out) k_ hk, Kd.freshB (g := gb309) (o := .cells #[.int .i64 t302, .int .i64 t303] 27 (0, 0)) (bk_ BK309.out) k_ hk, Kd.freshB (g := gb310) (o := .cells #[.int .i64 t304, .int .i64 t305] 23 (0, 0)) (bk_ BK310.out) k_ hk, Kd.freshB (g := gb318) (o := .cells #[.int .i64 t311, .int .i64 t312] 27 (0, 0)) (bk_ BK318.out) k_ hk, Kd.freshB (g := gb319) (o := .cells #[.int .i64 t313, .int .i64 t314] 23 (0, 0)) (bk_ BK319.out) k_ hk, Kd.freshB (g := gb325) (o := .cells #[.int .u64 t320, .int .i64 t321, .slice Ao66 t322.length co66] 33 (0, 0)) (bk_ BK325.out) k_ hk, Kd.freshB (g := gb331) (o := .cells #[.int .u64 t326, .int .i64 t327, .slice Ao80 t328.length co80] 33 (0, 0)) (bk_ BK331.out) k_ hk, Kd.freshB (g := gb337) (o := .cells #[.int .u64 t332, .int .i64 t333, .slice Ao95 t334.length co95] 33 (0, 0)) (bk_ BK337.out) k_ hk⟩)); (case aO => exact (by (with_reducible repeat (first | apply Kd.N_alloc | apply Kd.N_drewN | apply Kd.N_drew)); exact HO_22.out)); (case aS => exact (below_size (bw_ HB.out))); (case aL => have := LMc99.out; omega); intro v340 w100 ho hb hg hat; rw [← Ny339.out] at ho; have n0_ := Aside0.mk (Kd.N_afterv (ok := (fun k_ => some k_ ≠ (.slice Ao66 t322.length co66 : Value).ownBlock ∧ some k_ ≠ (.slice Ao80 t328.length co80 : Value).ownBlock ∧ some k_ ≠ (.slice Ao95 t334.length co95 : Value).ownBlock ∧ k_ ≠ gb291 ∧ k_ ≠ gb300 ∧ k_ ≠ gb301 ∧ k_ ≠ gb309 ∧ k_ ≠ gb310 ∧ k_ ≠ gb318 ∧ k_ ≠ gb319 ∧ k_ ≠ gb325 ∧ k_ ≠ gb331 ∧ k_ ≠ gb337)) (by (with_reducible repeat (first | apply Kd.N_alloc | apply Kd.N_drewN | apply Kd.N_drew)); exact Kd.N_mono HO_12.out (fun _ hk => ⟨⟨hk.2.1, ⟨hk.2.2.1, ⟨hk.2.2.2.1, ⟨hk.2.2.2.2.1, ⟨hk.2.2.2.2.2.1, ⟨hk.2.2.2.2.2.2.1, ⟨hk.2.2.2.2.2.2.2.1, ⟨hk.2.2.2.2.2.2.2.2.1, ⟨hk.2.2.2.2.2.2.2.2.2.1, ⟨hk.2.2.2.2.2.2.2.2.2.2.1, ⟨hk.2.2.2.2.2.2.2.2.2.2.2.1, ⟨hk.2.2.2.2.2.2.2.2.2.2.2.2.1, hk.2.2.2.2.2.2.2.2.2.2.2.2.2⟩⟩⟩⟩⟩⟩⟩⟩⟩⟩⟩⟩, hk.1⟩)) hg hat); have n1_ := Aside0.mk (Kd.R_over' (by (with_reducible repeat (first | apply Kd.R_alloc | apply Kd.R_drewN | apply Kd.R_drew)); exact HO_326002.out) (Kd.N_typed (by (with_reducible repeat (first | apply Kd.N_alloc | apply Kd.N_drewN | apply Kd.N_drew)); exact HO_22.out)) (by decide) hg); have n2_ := Aside0.mk (Kd.R_over' (by (with_reducible repeat (first | apply Kd.R_alloc | apply Kd.R_drewN | apply Kd.R_drew)); exact HO_332002.out) (Kd.N_typed (by (with_reducible repeat (first | apply Kd.N_alloc | apply Kd.N_drewN | apply Kd.N_drew)); exact HO_22.out)) (by decide) hg); have n3_ := Aside0.mk (Kd.R_over' (by (with_reducible repeat (first | apply Kd.R_alloc | apply Kd.R_drewN | apply Kd.R_drew)); exact HO_338002.out) (Kd.N_typed (by (with_reducible repeat (first | apply Kd.N_alloc | apply Kd.N_drewN | apply Kd.N_drew)); exact HO_22.out)) (by decide) hg); have n4_ := Aside0.mk (blk_grown (g := gb291) (o := .cells #[.int .i64 a0_0, .int .i64 a0_1] 23 (0, 0)) (bk_ BK291.out) hg (Kd.N_ne HO_22.out BK291.out (by decide))); have n5_ := Aside0.mk (blk_grown (g := gb300) (o := .cells #[.int .i64 t293, .int .i64 t294] 27 (0, 0)) (bk_ BK300.out) hg (Kd.N_ne HO_22.out BK300.out (by decide))); have n6_ := Aside0.mk (blk_grown (g := gb301) (o := .cells #[.int .i64 t295, .int .i64 t296] 23 (0, 0)) (bk_ BK301.out) hg (Kd.N_ne HO_22.out BK301.out (by decide))); have n7_ := Aside0.mk (blk_grown (g := gb309) (o := .cells #[.int .i64 t302, .int .i64 t303] 27 (0, 0)) (bk_ BK309.out) hg (Kd.N_ne HO_22.out BK309.out (by decide))); have n8_ := Aside0.mk (blk_grown (g := gb310) (o := .cells #[.int .i64 t304, .int .i64 t305] 23 (0, 0)) (bk_ BK310.out) hg (Kd.N_ne HO_22.out BK310.out (by decide))); have n9_ := Aside0.mk (blk_grown (g := gb318) (o := .cells #[.int .i64 t311, .int .i64 t312] 27 (0, 0)) (bk_ BK318.out) hg (Kd.N_ne HO_22.out BK318.out (by decide))); have n10_ := Aside0.mk (blk_grown (g := gb319) (o := .cells #[.int .i64 t313, .int .i64 t314] 23 (0, 0)) (bk_ BK319.out) hg (Kd.N_ne HO_22.out BK319.out (by decide))); have n11_ := Aside0.mk (blk_grown (g := gb325) (o := .cells #[.int .u64 t320, .int .i64 t321, .slice Ao66 t322.length co66] 33 (0, 0)) (bk_ BK325.out) hg (Kd.N_ne HO_22.out BK325.out (by decide))); have n12_ := Aside0.mk (blk_grown (g := gb331) (o := .cells #[.int .u64 t326, .int .i64 t327, .slice Ao80 t328.length co80] 33 (0, 0)) (bk_ BK331.out) hg (Kd.N_ne HO_22.out BK331.out (by decide))); have n13_ := Aside0.mk (blk_grown (g := gb337) (o := .cells #[.int .u64 t332, .int .i64 t333, .slice Ao95 t334.length co95] 33 (0, 0)) (bk_ BK337.out) hg (Kd.N_ne HO_22.out BK337.out (by decide))); have n14_ := Aside0.mk (Kd.V_afterv (ok := (fun k_ => some k_ ≠ (.slice (some ad338) t297.length co55 : Value).ownBlock ∧ some k_ ≠ (.slice Ao66 t322.length co66 : Value).ownBlock ∧ some k_ ≠ (.slice Ao80 t328.length co80 : Value).ownBlock ∧ some k_ ≠ (.slice Ao95 t334.length co95 : Value).ownBlock ∧ k_ ≠ gb291 ∧ k_ ≠ gb300 ∧ k_ ≠ gb301 ∧ k_ ≠ gb309 ∧ k_ ≠ gb310 ∧ k_ ≠ gb318 ∧ k_ ≠ gb319 ∧ k_ ≠ gb325 ∧ k_ ≠ gb331 ∧ k_ ≠ gb337)) (by (with_reducible repeat (first | apply Kd.V_alloc | apply Kd.V_drewN | apply Kd.V_drew)); exact Kd.V_mono HL338_1.out (fun _ hk => ⟨⟨hk.2, ⟨hk.1.2.1, ⟨hk.1.2.2.1, ⟨hk.1.2.2.2.1, ⟨hk.1.2.2.2.2.1, ⟨hk.1.2.2.2.2.2.1, ⟨hk.1.2.2.2.2.2.2.1, ⟨hk.1.2.2.2.2.2.2.2.1, ⟨hk.1.2.2.2.2.2.2.2.2.1, ⟨hk.1.2.2.2.2.2.2.2.2.2.1, ⟨hk.1.2.2.2.2.2.2.2.2.2.2.1, ⟨hk.1.2.2.2.2.2.2.2.2.2.2.2.1, ⟨hk.1.2.2.2.2.2.2.2.2.2.2.2.2.1, hk.1.2.2.2.2.2.2.2.2.2.2.2.2.2⟩⟩⟩⟩⟩⟩⟩⟩⟩⟩⟩⟩⟩, hk.1.1⟩)) hg hat); have n15_ := Aside0.mk (Kd.V_afterv (ok := (fun k_ => some k_ ≠ (.slice (some ad338) t297.length co55 : Value).ownBlock ∧ some k_ ≠ (.slice Ao66 t322.length co66 : Value).ownBlock ∧ some k_ ≠ (.slice Ao80 t328.length co80 : Value).ownBlock ∧ some k_ ≠ (.slice Ao95 t334.length co95 : Value).ownBlock ∧ k_ ≠ gb291 ∧ k_ ≠ gb300 ∧ k_ ≠ gb301 ∧ k_ ≠ gb309 ∧ k_ ≠ gb310 ∧ k_ ≠ gb318 ∧ k_ ≠ gb319 ∧ k_ ≠ gb325 ∧ k_ ≠ gb331 ∧ k_ ≠ gb337)) (by (with_reducible repeat (first | apply Kd.V_alloc | apply Kd.V_drewN | apply Kd.V_drew)); exact Kd.V_mono HL338_2.out (fun _ hk => ⟨⟨hk.2, ⟨hk.1.2.1, ⟨hk.1.2.2.1, ⟨hk.1.2.2.2.1, ⟨hk.1.2.2.2.2.1, ⟨hk.1.2.2.2.2.2.1, ⟨hk.1.2.2.2.2.2.2.1, ⟨hk.1.2.2.2.2.2.2.2.1, ⟨hk.1.2.2.2.2.2.2.2.2.1, ⟨hk.1.2.2.2.2.2.2.2.2.2.1, ⟨hk.1.2.2.2.2.2.2.2.2.2.2.1, ⟨hk.1.2.2.2.2.2.2.2.2.2.2.2.1, ⟨hk.1.2.2.2.2.2.2.2.2.2.2.2.2.1, hk.1.2.2.2.2.2.2.2.2.2.2.2.2.2⟩⟩⟩⟩⟩⟩⟩⟩⟩⟩⟩⟩⟩, hk.1.1⟩)) hg hat); have n16_ := Aside0.mk (hb); have n17_ := Aside0.mk (ho); clear HO_12 HO_326002 HO_332002 HO_338002 BK291 BK300 BK301 BK309 BK310 BK318 BK319 BK325 BK331 BK337 HL338_1 HL338_2 HB HO_22; have HO_12 := n0_; have HO_326002 := n1_; have HO_332002 := n2_; have HO_338002 := n3_; have BK291 := n4_; have BK300 := n5_; have BK301 := n6_; have BK309 := n7_; have BK310 := n8_; have BK318 := n9_; have BK319 := n10_; have BK325 := n11_; have BK331 := n12_; have BK337 := n13_; have HL338_1 := n14_; have HL338_2 := n15_; have HB := n16_; have HO341 := n17_; clear n0_ n1_ n2_ n3_ n4_ n5_ n6_ n7_ n8_ n9_ n10_ n11_ n12_ n13_ n14_ n15_ n16_ n17_; clear ho hb hg hat))
        go_roundg k1
        case measure => have := HK1.out; omega
        case rel => exact ⟨(y339), (wrap64 (x23_1 - 1)), (by first | rfl | (simp; done) | (simp [*]; done)), H', ⟨by have := HK1.out; omega⟩, ⟨by (with_reducible repeat (first | apply Kd.N_alloc | apply Kd.N_drewN | apply Kd.N_drew)); exact Kd.N_mono HO_12.out (fun _ hk => ⟨hk.2, ⟨hk.1.1, ⟨hk.1.2.1, ⟨hk.1.2.2.1, ⟨hk.1.2.2.2.1, ⟨hk.1.2.2.2.2.1, ⟨hk.1.2.2.2.2.2.1, ⟨hk.1.2.2.2.2.2.2.1, ⟨hk.1.2.2.2.2.2.2.2.1, ⟨hk.1.2.2.2.2.2.2.2.2.1, ⟨hk.1.2.2.2.2.2.2.2.2.2.1, ⟨hk.1.2.2.2.2.2.2.2.2.2.2.1, ⟨hk.1.2.2.2.2.2.2.2.2.2.2.2.1, hk.1.2.2.2.2.2.2.2.2.2.2.2.2⟩⟩⟩⟩⟩⟩⟩⟩⟩⟩⟩⟩⟩)⟩, ⟨by (with_reducible repeat (first | apply Kd.N_alloc | apply Kd.N_drewN | apply Kd.N_drew)); exact HO341.out⟩, ⟨by (with_reducible repeat (first | apply Kd.R_alloc | apply Kd.R_drewN | apply Kd.R_drew)); exact HO_326002.out⟩, ⟨by (with_reducible repeat (first | apply Kd.R_alloc | apply Kd.R_drewN | apply Kd.R_drew)); exact HO_332002.out⟩, ⟨by (with_reducible repeat (first | apply Kd.R_alloc | apply Kd.R_drewN | apply Kd.R_drew)); exact HO_338002.out⟩, ⟨by (with_reducible repeat (first | refine blk_drewN ?_ _ | refine blk_drew ?_ | refine blk_alloc ?_ _)); exact BK291.out⟩, ⟨by (with_reducible repeat (first | refine blk_drewN ?_ _ | refine blk_drew ?_ | refine blk_alloc ?_ _)); exact BK300.out⟩, ⟨by (with_reducible repeat (first | refine blk_drewN ?_ _ | refine blk_drew ?_ | refine blk_alloc ?_ _)); exact BK301.out⟩, ⟨by (with_reducible repeat (first | refine blk_drewN ?_ _ | refine blk_drew ?_ | refine blk_alloc ?_ _)); exact BK309.out⟩, ⟨by (with_reducible repeat (first | refine blk_drewN ?_ _ | refine blk_drew ?_ | refine blk_alloc ?_ _)); exact BK310.out⟩, ⟨by (with_reducible repeat (first | refine blk_drewN ?_ _ | refine blk_drew ?_ | refine blk_alloc ?_ _)); exact BK318.out⟩, ⟨by (with_reducible repeat (first | refine blk_drewN ?_ _ | refine blk_drew ?_ | refine blk_alloc ?_ _)); exact BK319.out⟩, ⟨by (with_reducible repeat (first | refine blk_drewN ?_ _ | refine blk_drew ?_ | refine blk_alloc ?_ _)); exact BK325.out⟩, ⟨by (with_reducible repeat (first | refine blk_drewN ?_ _ | refine blk_drew ?_ | refine blk_alloc ?_ _)); exact BK331.out⟩, ⟨by (with_reducible repeat (first | refine blk_drewN ?_ _ | refine blk_drew ?_ | refine blk_alloc ?_ _)); exact BK337.out⟩, ⟨by repeat (first | (with_reducible first | exact HB.out | apply below_alloc | apply pw_below_drewN | apply below_drew1 | refine below_set ?_ GE291.out | refine below_set ?_ GE300.out | refine below_set ?_ GE301.out | refine below_set ?_ GE309.out | refine below_set ?_ GE310.out | refine below_set ?_ GE318.out | refine below_set ?_ GE319.out | refine below_set ?_ GE325.out | refine below_set ?_ GE331.out | refine below_set ?_ GE337.out) | exact HB.out)⟩⟩
       ·rw [if_neg c99] at H
        exact absurd H (by simp)
      ·rw [if_neg c98] at H
       exact absurd H (by simp)
     ·rw [if_neg c97] at H
      exact absurd H (by simp)
    ·rw [if_neg c96] at H
     have c96b0 : decide (0 ≤ x23_1) = false := decide_eq_false c96
     clear c96
     replace H := Option.bind_eq_some_iff.mp H
     obtain ⟨⟨t342, t343, t344⟩, A1010, H⟩ := H
     replace H : ((agg_Merge.f t295 t296 t326 t327 t328 t320 t321 t322).bind fun bt347 => ((gristmillref06_Same.f k1 t342 t343 t344 bt347.1 bt347.2.1 bt347.2.2).bind fun t352 => ((agg_Merge.f t295 t296 t320 t321 t322 t326 t327 t328).bind fun bt353 => ((agg_Merge.f t295 t296 bt353.1 bt353.2.1 bt353.2.2 t332 t333 t334).bind fun bt358 => ((agg_Merge.f t295 t296 t326 t327 t328 t332 t333 t334).bind fun bt363 => ((agg_Merge.f t295 t296 t320 t321 t322 bt363.1 bt363.2.1 bt363.2.2).bind fun bt368 => ((gristmillref06_Same.f k1 bt358.1 bt358.2.1 bt358.2.2 bt368.1 bt368.2.1 bt368.2.2).bind fun t373 => (if t352 = true then (if t373 = true then ((gristmilllaw06_of.f k1 t295 t296 x22_1).bind fun bt374 => ((gristmillref06_Same.f k1 bt374.1 bt374.2.1 bt374.2.2 t320 t321 t322).bind fun t379 => (if t379 = true then ((agg_Start.f t295 t296).bind fun bt380 => ((agg_Merge.f t295 t296 t320 t321 t322 bt380.1 bt380.2.1 bt380.2.2).bind fun bt385 => ((gristmillref06_Same.f k1 bt385.1 bt385.2.1 bt385.2.2 t320 t321 t322).bind fun t390 => (if t390 = true then ((agg_Start.f t295 t296).bind fun bt391 => ((agg_Merge.f t295 t296 bt391.1 bt391.2.1 bt391.2.2 t320 t321 t322).bind fun bt396 => ((gristmillref06_Same.f k1 bt396.1 bt396.2.1 bt396.2.2 t320 t321 t322).bind fun t401 => (some t401)))) else (some false))))) else (some false)))) else (some false)) else (some false))))))))) = some r := H
     have A101 := Aside0.mk A1010
     clear A1010
     replace H := Option.bind_eq_some_iff.mp H
     obtain ⟨⟨t347, t348, t349⟩, A1020, H⟩ := H
     replace H : ((gristmillref06_Same.f k1 t342 t343 t344 t347 t348 t349).bind fun t352 => ((agg_Merge.f t295 t296 t320 t321 t322 t326 t327 t328).bind fun bt353 => ((agg_Merge.f t295 t296 bt353.1 bt353.2.1 bt353.2.2 t332 t333 t334).bind fun bt358 => ((agg_Merge.f t295 t296 t326 t327 t328 t332 t333 t334).bind fun bt363 => ((agg_Merge.f t295 t296 t320 t321 t322 bt363.1 bt363.2.1 bt363.2.2).bind fun bt368 => ((gristmillref06_Same.f k1 bt358.1 bt358.2.1 bt358.2.2 bt368.1 bt368.2.1 bt368.2.2).bind fun t373 => (if t352 = true then (if t373 = true then ((gristmilllaw06_of.f k1 t295 t296 x22_1).bind fun bt374 => ((gristmillref06_Same.f k1 bt374.1 bt374.2.1 bt374.2.2 t320 t321 t322).bind fun t379 => (if t379 = true then ((agg_Start.f t295 t296).bind fun bt380 => ((agg_Merge.f t295 t296 t320 t321 t322 bt380.1 bt380.2.1 bt380.2.2).bind fun bt385 => ((gristmillref06_Same.f k1 bt385.1 bt385.2.1 bt385.2.2 t320 t321 t322).bind fun t390 => (if t390 = true then ((agg_Start.f t295 t296).bind fun bt391 => ((agg_Merge.f t295 t296 bt391.1 bt391.2.1 bt391.2.2 t320 t321 t322).bind fun bt396 => ((gristmillref06_Same.f k1 bt396.1 bt396.2.1 bt396.2.2 t320 t321 t322).bind fun t401 => (some t401)))) else (some false))))) else (some false)))) else (some false)) else (some false)))))))) = some r := H
     have A102 := Aside0.mk A1020
     clear A1020
     replace H := Option.bind_eq_some_iff.mp H
     obtain ⟨t352, A1030, H⟩ := H
     replace H : ((agg_Merge.f t295 t296 t320 t321 t322 t326 t327 t328).bind fun bt353 => ((agg_Merge.f t295 t296 bt353.1 bt353.2.1 bt353.2.2 t332 t333 t334).bind fun bt358 => ((agg_Merge.f t295 t296 t326 t327 t328 t332 t333 t334).bind fun bt363 => ((agg_Merge.f t295 t296 t320 t321 t322 bt363.1 bt363.2.1 bt363.2.2).bind fun bt368 => ((gristmillref06_Same.f k1 bt358.1 bt358.2.1 bt358.2.2 bt368.1 bt368.2.1 bt368.2.2).bind fun t373 => (if t352 = true then (if t373 = true then ((gristmilllaw06_of.f k1 t295 t296 x22_1).bind fun bt374 => ((gristmillref06_Same.f k1 bt374.1 bt374.2.1 bt374.2.2 t320 t321 t322).bind fun t379 => (if t379 = true then ((agg_Start.f t295 t296).bind fun bt380 => ((agg_Merge.f t295 t296 t320 t321 t322 bt380.1 bt380.2.1 bt380.2.2).bind fun bt385 => ((gristmillref06_Same.f k1 bt385.1 bt385.2.1 bt385.2.2 t320 t321 t322).bind fun t390 => (if t390 = true then ((agg_Start.f t295 t296).bind fun bt391 => ((agg_Merge.f t295 t296 bt391.1 bt391.2.1 bt391.2.2 t320 t321 t322).bind fun bt396 => ((gristmillref06_Same.f k1 bt396.1 bt396.2.1 bt396.2.2 t320 t321 t322).bind fun t401 => (some t401)))) else (some false))))) else (some false)))) else (some false)) else (some false))))))) = some r := H
     have A103 := Aside0.mk A1030
     clear A1030
     replace H := Option.bind_eq_some_iff.mp H
     obtain ⟨⟨t353, t354, t355⟩, A1040, H⟩ := H
     replace H : ((agg_Merge.f t295 t296 t353 t354 t355 t332 t333 t334).bind fun bt358 => ((agg_Merge.f t295 t296 t326 t327 t328 t332 t333 t334).bind fun bt363 => ((agg_Merge.f t295 t296 t320 t321 t322 bt363.1 bt363.2.1 bt363.2.2).bind fun bt368 => ((gristmillref06_Same.f k1 bt358.1 bt358.2.1 bt358.2.2 bt368.1 bt368.2.1 bt368.2.2).bind fun t373 => (if t352 = true then (if t373 = true then ((gristmilllaw06_of.f k1 t295 t296 x22_1).bind fun bt374 => ((gristmillref06_Same.f k1 bt374.1 bt374.2.1 bt374.2.2 t320 t321 t322).bind fun t379 => (if t379 = true then ((agg_Start.f t295 t296).bind fun bt380 => ((agg_Merge.f t295 t296 t320 t321 t322 bt380.1 bt380.2.1 bt380.2.2).bind fun bt385 => ((gristmillref06_Same.f k1 bt385.1 bt385.2.1 bt385.2.2 t320 t321 t322).bind fun t390 => (if t390 = true then ((agg_Start.f t295 t296).bind fun bt391 => ((agg_Merge.f t295 t296 bt391.1 bt391.2.1 bt391.2.2 t320 t321 t322).bind fun bt396 => ((gristmillref06_Same.f k1 bt396.1 bt396.2.1 bt396.2.2 t320 t321 t322).bind fun t401 => (some t401)))) else (some false))))) else (some false)))) else (some false)) else (some false)))))) = some r := H
     have A104 := Aside0.mk A1040
     clear A1040
     replace H := Option.bind_eq_some_iff.mp H
     obtain ⟨⟨t358, t359, t360⟩, A1050, H⟩ := H
     replace H : ((agg_Merge.f t295 t296 t326 t327 t328 t332 t333 t334).bind fun bt363 => ((agg_Merge.f t295 t296 t320 t321 t322 bt363.1 bt363.2.1 bt363.2.2).bind fun bt368 => ((gristmillref06_Same.f k1 t358 t359 t360 bt368.1 bt368.2.1 bt368.2.2).bind fun t373 => (if t352 = true then (if t373 = true then ((gristmilllaw06_of.f k1 t295 t296 x22_1).bind fun bt374 => ((gristmillref06_Same.f k1 bt374.1 bt374.2.1 bt374.2.2 t320 t321 t322).bind fun t379 => (if t379 = true then ((agg_Start.f t295 t296).bind fun bt380 => ((agg_Merge.f t295 t296 t320 t321 t322 bt380.1 bt380.2.1 bt380.2.2).bind fun bt385 => ((gristmillref06_Same.f k1 bt385.1 bt385.2.1 bt385.2.2 t320 t321 t322).bind fun t390 => (if t390 = true then ((agg_Start.f t295 t296).bind fun bt391 => ((agg_Merge.f t295 t296 bt391.1 bt391.2.1 bt391.2.2 t320 t321 t322).bind fun bt396 => ((gristmillref06_Same.f k1 bt396.1 bt396.2.1 bt396.2.2 t320 t321 t322).bind fun t401 => (some t401)))) else (some false))))) else (some false)))) else (some false)) else (some false))))) = some r := H
     have A105 := Aside0.mk A1050
     clear A1050
     replace H := Option.bind_eq_some_iff.mp H
     obtain ⟨⟨t363, t364, t365⟩, A1060, H⟩ := H
     replace H : ((agg_Merge.f t295 t296 t320 t321 t322 t363 t364 t365).bind fun bt368 => ((gristmillref06_Same.f k1 t358 t359 t360 bt368.1 bt368.2.1 bt368.2.2).bind fun t373 => (if t352 = true then (if t373 = true then ((gristmilllaw06_of.f k1 t295 t296 x22_1).bind fun bt374 => ((gristmillref06_Same.f k1 bt374.1 bt374.2.1 bt374.2.2 t320 t321 t322).bind fun t379 => (if t379 = true then ((agg_Start.f t295 t296).bind fun bt380 => ((agg_Merge.f t295 t296 t320 t321 t322 bt380.1 bt380.2.1 bt380.2.2).bind fun bt385 => ((gristmillref06_Same.f k1 bt385.1 bt385.2.1 bt385.2.2 t320 t321 t322).bind fun t390 => (if t390 = true then ((agg_Start.f t295 t296).bind fun bt391 => ((agg_Merge.f t295 t296 bt391.1 bt391.2.1 bt391.2.2 t320 t321 t322).bind fun bt396 => ((gristmillref06_Same.f k1 bt396.1 bt396.2.1 bt396.2.2 t320 t321 t322).bind fun t401 => (some t401)))) else (some false))))) else (some false)))) else (some false)) else (some false)))) = some r := H
     have A106 := Aside0.mk A1060
     clear A1060
     replace H := Option.bind_eq_some_iff.mp H
     obtain ⟨⟨t368, t369, t370⟩, A1070, H⟩ := H
     replace H : ((gristmillref06_Same.f k1 t358 t359 t360 t368 t369 t370).bind fun t373 => (if t352 = true then (if t373 = true then ((gristmilllaw06_of.f k1 t295 t296 x22_1).bind fun bt374 => ((gristmillref06_Same.f k1 bt374.1 bt374.2.1 bt374.2.2 t320 t321 t322).bind fun t379 => (if t379 = true then ((agg_Start.f t295 t296).bind fun bt380 => ((agg_Merge.f t295 t296 t320 t321 t322 bt380.1 bt380.2.1 bt380.2.2).bind fun bt385 => ((gristmillref06_Same.f k1 bt385.1 bt385.2.1 bt385.2.2 t320 t321 t322).bind fun t390 => (if t390 = true then ((agg_Start.f t295 t296).bind fun bt391 => ((agg_Merge.f t295 t296 bt391.1 bt391.2.1 bt391.2.2 t320 t321 t322).bind fun bt396 => ((gristmillref06_Same.f k1 bt396.1 bt396.2.1 bt396.2.2 t320 t321 t322).bind fun t401 => (some t401)))) else (some false))))) else (some false)))) else (some false)) else (some false))) = some r := H
     have A107 := Aside0.mk A1070
     clear A1070
     replace H := Option.bind_eq_some_iff.mp H
     obtain ⟨t373, A1080, H⟩ := H
     replace H : (if t352 = true then (if t373 = true then ((gristmilllaw06_of.f k1 t295 t296 x22_1).bind fun bt374 => ((gristmillref06_Same.f k1 bt374.1 bt374.2.1 bt374.2.2 t320 t321 t322).bind fun t379 => (if t379 = true then ((agg_Start.f t295 t296).bind fun bt380 => ((agg_Merge.f t295 t296 t320 t321 t322 bt380.1 bt380.2.1 bt380.2.2).bind fun bt385 => ((gristmillref06_Same.f k1 bt385.1 bt385.2.1 bt385.2.2 t320 t321 t322).bind fun t390 => (if t390 = true then ((agg_Start.f t295 t296).bind fun bt391 => ((agg_Merge.f t295 t296 bt391.1 bt391.2.1 bt391.2.2 t320 t321 t322).bind fun bt396 => ((gristmillref06_Same.f k1 bt396.1 bt396.2.1 bt396.2.2 t320 t321 t322).bind fun t401 => (some t401)))) else (some false))))) else (some false)))) else (some false)) else (some false)) = some r := H
     have A108 := Aside0.mk A1080
     clear A1080
     by_cases c109 : t352 = true
     ·subst c109
      have H1 : (if t373 = true then ((gristmilllaw06_of.f k1 t295 t296 x22_1).bind fun bt374 => ((gristmillref06_Same.f k1 bt374.1 bt374.2.1 bt374.2.2 t320 t321 t322).bind fun t379 => (if t379 = true then ((agg_Start.f t295 t296).bind fun bt380 => ((agg_Merge.f t295 t296 t320 t321 t322 bt380.1 bt380.2.1 bt380.2.2).bind fun bt385 => ((gristmillref06_Same.f k1 bt385.1 bt385.2.1 bt385.2.2 t320 t321 t322).bind fun t390 => (if t390 = true then ((agg_Start.f t295 t296).bind fun bt391 => ((agg_Merge.f t295 t296 bt391.1 bt391.2.1 bt391.2.2 t320 t321 t322).bind fun bt396 => ((gristmillref06_Same.f k1 bt396.1 bt396.2.1 bt396.2.2 t320 t321 t322).bind fun t401 => (some t401)))) else (some false))))) else (some false)))) else (some false)) = some r := by rw [if_pos rfl] at H; exact H
      clear H
      have H := H1
      clear H1
      by_cases c110 : t373 = true
      ·subst c110
       have H1 : ((gristmilllaw06_of.f k1 t295 t296 x22_1).bind fun bt374 => ((gristmillref06_Same.f k1 bt374.1 bt374.2.1 bt374.2.2 t320 t321 t322).bind fun t379 => (if t379 = true then ((agg_Start.f t295 t296).bind fun bt380 => ((agg_Merge.f t295 t296 t320 t321 t322 bt380.1 bt380.2.1 bt380.2.2).bind fun bt385 => ((gristmillref06_Same.f k1 bt385.1 bt385.2.1 bt385.2.2 t320 t321 t322).bind fun t390 => (if t390 = true then ((agg_Start.f t295 t296).bind fun bt391 => ((agg_Merge.f t295 t296 bt391.1 bt391.2.1 bt391.2.2 t320 t321 t322).bind fun bt396 => ((gristmillref06_Same.f k1 bt396.1 bt396.2.1 bt396.2.2 t320 t321 t322).bind fun t401 => (some t401)))) else (some false))))) else (some false)))) = some r := by rw [if_pos rfl] at H; exact H
       clear H
       have H := H1
       clear H1
       replace H := Option.bind_eq_some_iff.mp H
       obtain ⟨⟨t374, t375, t376⟩, A1110, H⟩ := H
       replace H : ((gristmillref06_Same.f k1 t374 t375 t376 t320 t321 t322).bind fun t379 => (if t379 = true then ((agg_Start.f t295 t296).bind fun bt380 => ((agg_Merge.f t295 t296 t320 t321 t322 bt380.1 bt380.2.1 bt380.2.2).bind fun bt385 => ((gristmillref06_Same.f k1 bt385.1 bt385.2.1 bt385.2.2 t320 t321 t322).bind fun t390 => (if t390 = true then ((agg_Start.f t295 t296).bind fun bt391 => ((agg_Merge.f t295 t296 bt391.1 bt391.2.1 bt391.2.2 t320 t321 t322).bind fun bt396 => ((gristmillref06_Same.f k1 bt396.1 bt396.2.1 bt396.2.2 t320 t321 t322).bind fun t401 => (some t401)))) else (some false))))) else (some false))) = some r := H
       have A111 := Aside0.mk A1110
       clear A1110
       replace H := Option.bind_eq_some_iff.mp H
       obtain ⟨t379, A1120, H⟩ := H
       replace H : (if t379 = true then ((agg_Start.f t295 t296).bind fun bt380 => ((agg_Merge.f t295 t296 t320 t321 t322 bt380.1 bt380.2.1 bt380.2.2).bind fun bt385 => ((gristmillref06_Same.f k1 bt385.1 bt385.2.1 bt385.2.2 t320 t321 t322).bind fun t390 => (if t390 = true then ((agg_Start.f t295 t296).bind fun bt391 => ((agg_Merge.f t295 t296 bt391.1 bt391.2.1 bt391.2.2 t320 t321 t322).bind fun bt396 => ((gristmillref06_Same.f k1 bt396.1 bt396.2.1 bt396.2.2 t320 t321 t322).bind fun t401 => (some t401)))) else (some false))))) else (some false)) = some r := H
       have A112 := Aside0.mk A1120
       clear A1120
       by_cases c113 : t379 = true
       ·subst c113
        have H1 : ((agg_Start.f t295 t296).bind fun bt380 => ((agg_Merge.f t295 t296 t320 t321 t322 bt380.1 bt380.2.1 bt380.2.2).bind fun bt385 => ((gristmillref06_Same.f k1 bt385.1 bt385.2.1 bt385.2.2 t320 t321 t322).bind fun t390 => (if t390 = true then ((agg_Start.f t295 t296).bind fun bt391 => ((agg_Merge.f t295 t296 bt391.1 bt391.2.1 bt391.2.2 t320 t321 t322).bind fun bt396 => ((gristmillref06_Same.f k1 bt396.1 bt396.2.1 bt396.2.2 t320 t321 t322).bind fun t401 => (some t401)))) else (some false))))) = some r := by rw [if_pos rfl] at H; exact H
        clear H
        have H := H1
        clear H1
        replace H := Option.bind_eq_some_iff.mp H
        obtain ⟨⟨t380, t381, t382⟩, A1140, H⟩ := H
        replace H : ((agg_Merge.f t295 t296 t320 t321 t322 t380 t381 t382).bind fun bt385 => ((gristmillref06_Same.f k1 bt385.1 bt385.2.1 bt385.2.2 t320 t321 t322).bind fun t390 => (if t390 = true then ((agg_Start.f t295 t296).bind fun bt391 => ((agg_Merge.f t295 t296 bt391.1 bt391.2.1 bt391.2.2 t320 t321 t322).bind fun bt396 => ((gristmillref06_Same.f k1 bt396.1 bt396.2.1 bt396.2.2 t320 t321 t322).bind fun t401 => (some t401)))) else (some false)))) = some r := H
        have A114 := Aside0.mk A1140
        clear A1140
        replace H := Option.bind_eq_some_iff.mp H
        obtain ⟨⟨t385, t386, t387⟩, A1150, H⟩ := H
        replace H : ((gristmillref06_Same.f k1 t385 t386 t387 t320 t321 t322).bind fun t390 => (if t390 = true then ((agg_Start.f t295 t296).bind fun bt391 => ((agg_Merge.f t295 t296 bt391.1 bt391.2.1 bt391.2.2 t320 t321 t322).bind fun bt396 => ((gristmillref06_Same.f k1 bt396.1 bt396.2.1 bt396.2.2 t320 t321 t322).bind fun t401 => (some t401)))) else (some false))) = some r := H
        have A115 := Aside0.mk A1150
        clear A1150
        replace H := Option.bind_eq_some_iff.mp H
        obtain ⟨t390, A1160, H⟩ := H
        replace H : (if t390 = true then ((agg_Start.f t295 t296).bind fun bt391 => ((agg_Merge.f t295 t296 bt391.1 bt391.2.1 bt391.2.2 t320 t321 t322).bind fun bt396 => ((gristmillref06_Same.f k1 bt396.1 bt396.2.1 bt396.2.2 t320 t321 t322).bind fun t401 => (some t401)))) else (some false)) = some r := H
        have A116 := Aside0.mk A1160
        clear A1160
        by_cases c117 : t390 = true
        ·subst c117
         have H1 : ((agg_Start.f t295 t296).bind fun bt391 => ((agg_Merge.f t295 t296 bt391.1 bt391.2.1 bt391.2.2 t320 t321 t322).bind fun bt396 => ((gristmillref06_Same.f k1 bt396.1 bt396.2.1 bt396.2.2 t320 t321 t322).bind fun t401 => (some t401)))) = some r := by rw [if_pos rfl] at H; exact H
         clear H
         have H := H1
         clear H1
         replace H := Option.bind_eq_some_iff.mp H
         obtain ⟨⟨t391, t392, t393⟩, A1180, H⟩ := H
         replace H : ((agg_Merge.f t295 t296 t391 t392 t393 t320 t321 t322).bind fun bt396 => ((gristmillref06_Same.f k1 bt396.1 bt396.2.1 bt396.2.2 t320 t321 t322).bind fun t401 => (some t401))) = some r := H
         have A118 := Aside0.mk A1180
         clear A1180
         replace H := Option.bind_eq_some_iff.mp H
         obtain ⟨⟨t396, t397, t398⟩, A1190, H⟩ := H
         replace H : ((gristmillref06_Same.f k1 t396 t397 t398 t320 t321 t322).bind fun t401 => (some t401)) = some r := H
         have A119 := Aside0.mk A1190
         clear A1190
         replace H := Option.bind_eq_some_iff.mp H
         obtain ⟨t401, A1200, H⟩ := H
         replace H : (some t401) = some r := H
         have A120 := Aside0.mk A1200
         clear A1200
         obtain rfl := Option.some.inj H
         try go_wp2
         have n0_ := Aside0.mk (Kd.N_drew HO_12.out)
         have n1_ := Aside0.mk (Kd.N_drew HO_22.out)
         have n2_ := Aside0.mk (Kd.R_drew HO_326002.out)
         have n3_ := Aside0.mk (Kd.R_drew HO_332002.out)
         have n4_ := Aside0.mk (Kd.R_drew HO_338002.out)
         have n5_ := Aside0.mk (blk_drew BK291.out)
         have n6_ := Aside0.mk (blk_drew BK300.out)
         have n7_ := Aside0.mk (blk_drew BK301.out)
         have n8_ := Aside0.mk (blk_drew BK309.out)
         have n9_ := Aside0.mk (blk_drew BK310.out)
         have n10_ := Aside0.mk (blk_drew BK318.out)
         have n11_ := Aside0.mk (blk_drew BK319.out)
         have n12_ := Aside0.mk (blk_drew BK325.out)
         have n13_ := Aside0.mk (blk_drew BK331.out)
         have n14_ := Aside0.mk (blk_drew BK337.out)
         have n15_ := Aside0.mk (below_drew1 HB.out)
         clear HO_12
         clear HO_22
         clear HO_326002
         clear HO_332002
         clear HO_338002
         clear BK291
         clear BK300
         clear BK301
         clear BK309
         clear BK310
         clear BK318
         clear BK319
         clear BK325
         clear BK331
         clear BK337
         clear HB
         have HO_12 := n0_
         have HO_22 := n1_
         have HO_326002 := n2_
         have HO_332002 := n3_
         have HO_338002 := n4_
         have BK291 := n5_
         have BK300 := n6_
         have BK301 := n7_
         have BK309 := n8_
         have BK310 := n9_
         have BK318 := n10_
         have BK319 := n11_
         have BK325 := n12_
         have BK331 := n13_
         have BK337 := n14_
         have HB := n15_
         clear n0_ n1_ n2_ n3_ n4_ n5_ n6_ n7_ n8_ n9_ n10_ n11_ n12_ n13_ n14_ n15_
         refine start_ (n := 10) (S := fun w' => w'.cell? ⟨gb301, 0, none⟩ = some (.int .i64 t295) ∧ w'.cell? ⟨gb301, 1, none⟩ = some (.int .i64 t296) ∧ w'.cell? ⟨gb325, 0, none⟩ = some (.int .u64 t320) ∧ w'.cell? ⟨gb325, 1, none⟩ = some (.int .i64 t321) ∧ w'.cell? ⟨gb325, 2, none⟩ = some (.slice Ao66 t322.length co66) ∧ w'.cell? ⟨gb331, 0, none⟩ = some (.int .u64 t326) ∧ w'.cell? ⟨gb331, 1, none⟩ = some (.int .i64 t327) ∧ w'.cell? ⟨gb331, 2, none⟩ = some (.slice Ao80 t328.length co80)) (ds := []) #[false, false, false, false, false, false, false, false, false, false] (by kernel_rfl) rfl rfl ⟨(blk_cell BK301.out 0).trans rfl, (blk_cell BK301.out 1).trans rfl, (blk_cell BK325.out 0).trans rfl, (blk_cell BK325.out 1).trans rfl, (blk_cell BK325.out 2).trans rfl, (blk_cell BK331.out 0).trans rfl, (blk_cell BK331.out 1).trans rfl, (blk_cell BK331.out 2).trans rfl⟩ (fun hHeld => ?_); refine with_tabW gristmilllaw06_AggTurns.tab15 gristmilllaw06_AggTurns.bits15 (fun HT_ HW_ => ?_)
         generalize wr.drew = w121 at HO_12 HO_22 HO_326002 HO_332002 HO_338002 BK291 BK300 BK301 BK309 BK310 BK318 BK319 BK325 BK331 BK337 HB hHeld ⊢
         refine take_ (i := 0) (N := some 73) (v := ?_) (a' := ?_) #[true, false, false, false, false, false, false, false, false, false] rfl rfl (take_ofW HT_.out HW_.out (by kernel_rfl)) (fun _ _ _ h => h) (Or.inl ⟨by rfl, ?_⟩) hHeld ?_ ?_
         rotate_left
         ·rintro w' ⟨s0, s1, s2, s3, s4, s5, s6, s7⟩
          go_simp
          with_reducible rfl
         rotate_left
         ·simp only [Act.put, q1_, q2_, q3_, i64_w, i32_w]
          rfl
         refine take_ (i := 1) (N := some 74) (v := ?_) (a' := ?_) #[true, true, false, false, false, false, false, false, false, false] rfl rfl (take_ofW HT_.out HW_.out (by kernel_rfl)) (fun _ _ _ h => h) (Or.inl ⟨by rfl, ?_⟩) hHeld ?_ ?_
         rotate_left
         ·rintro w' ⟨s0, s1, s2, s3, s4, s5, s6, s7⟩
          go_simp
          with_reducible rfl
         rotate_left
         ·simp only [Act.put, q1_, q2_, q3_, i64_w, i32_w]
          rfl
         refine take_ (i := 2) (N := some 75) (v := ?_) (a' := ?_) #[true, true, true, false, false, false, false, false, false, false] rfl rfl (take_ofW HT_.out HW_.out (by kernel_rfl)) (fun _ _ _ h => h) (Or.inl ⟨by rfl, ?_⟩) hHeld ?_ ?_
         rotate_left
         ·rintro w' ⟨s0, s1, s2, s3, s4, s5, s6, s7⟩
          go_simp
          with_reducible rfl
         rotate_left
         ·simp only [Act.put, q1_, q2_, q3_, i64_w, i32_w]
          rfl
         refine take_ (i := 4) (N := some 77) (v := ?_) (a' := ?_) #[true, true, true, false, true, false, false, false, false, false] rfl rfl (take_ofW HT_.out HW_.out (by kernel_rfl)) (fun _ _ _ h => h) (Or.inl ⟨by rfl, ?_⟩) hHeld ?_ ?_
         rotate_left
         ·rintro w' ⟨s0, s1, s2, s3, s4, s5, s6, s7⟩
          go_simp
          with_reducible rfl
         rotate_left
         ·simp only [Act.put, q1_, q2_, q3_, i64_w, i32_w]
          rfl
         refine take_ (i := 5) (N := some 78) (v := ?_) (a' := ?_) #[true, true, true, false, true, true, false, false, false, false] rfl rfl (take_ofW HT_.out HW_.out (by kernel_rfl)) (fun _ _ _ h => h) (Or.inl ⟨by rfl, ?_⟩) hHeld ?_ ?_
         rotate_left
         ·rintro w' ⟨s0, s1, s2, s3, s4, s5, s6, s7⟩
          go_simp
          with_reducible rfl
         rotate_left
         ·simp only [Act.put, q1_, q2_, q3_, i64_w, i32_w]
          rfl
         refine take_ (i := 6) (N := some 79) (v := ?_) (a' := ?_) #[true, true, true, false, true, true, true, false, false, false] rfl rfl (take_ofW HT_.out HW_.out (by kernel_rfl)) (fun _ _ _ h => h) (Or.inl ⟨by rfl, ?_⟩) hHeld ?_ ?_
         rotate_left
         ·rintro w' ⟨s0, s1, s2, s3, s4, s5, s6, s7⟩
          go_simp
          with_reducible rfl
         rotate_left
         ·simp only [Act.put, q1_, q2_, q3_, i64_w, i32_w]
          rfl
         refine one_ (i := 3) (N := some 76) #[true, true, true, true, true, true, true, false, false, false] rfl rfl (one_of HT_.out (by kernel_rfl)) (by decide) (fun K hK => ?_)
         refine goes_ Try.func17 (by kernel_rfl) rfl #[.agg #[.int .i64 t295, .int .i64 t296], .agg #[.int .u64 t320, .int .i64 t321, .slice Ao66 t322.length co66], .agg #[.int .u64 t326, .int .i64 t327, .slice Ao80 t328.length co80]] (by rfl) rfl rfl (by (try simp only [List.map_toArray, List.map_cons, List.map_nil]); first | done | rfl | (simp only [List.length_drop, List.length_take]; rfl)) ?_
         with_reducible refine (agg_Merge.calls t295 t296 t320 t321 _ _ t322 t326 t327 _ _ t328 t342 t343 t344 _ ?side1 ?side2 ?side3 ?side4 A101.out).mono ?_
         (case side1 => repeat (first | exact (Kd.R_reads' HO_326002.out).2.2 | (with_reducible refine Kd.C_alloc ?_ _) | (with_reducible refine Kd.C_drewN ?_ _) | (with_reducible refine Kd.C_drew ?_)))
         (case side2 => exact (Kd.R_reads' HO_326002.out).2.1)
         (case side3 => repeat (first | exact (Kd.R_reads' HO_332002.out).2.2 | (with_reducible refine Kd.C_alloc ?_ _) | (with_reducible refine Kd.C_drewN ?_ _) | (with_reducible refine Kd.C_drew ?_)))
         (case side4 => exact (Kd.R_reads' HO_332002.out).2.1)
         rintro e w122 ⟨v345, rfl, ho0, hb⟩
         refine ⟨_, rfl, ?_⟩
         have n0_ := Aside0.mk (Kd.N_elder' (by (with_reducible repeat (first | apply Kd.N_alloc | apply Kd.N_drewN | apply Kd.N_drew)); exact HO_12.out) (Kd.R_base ho0) hb)
         have n1_ := Aside0.mk (Kd.N_elder' (by (with_reducible repeat (first | apply Kd.N_alloc | apply Kd.N_drewN | apply Kd.N_drew)); exact HO_22.out) (Kd.R_base ho0) hb)
         have n2_ := Aside0.mk (Kd.R_elder' (by (with_reducible repeat (first | apply Kd.R_alloc | apply Kd.R_drewN | apply Kd.R_drew)); exact HO_326002.out) (Kd.R_base ho0) hb)
         have n3_ := Aside0.mk (Kd.R_elder' (by (with_reducible repeat (first | apply Kd.R_alloc | apply Kd.R_drewN | apply Kd.R_drew)); exact HO_332002.out) (Kd.R_base ho0) hb)
         have n4_ := Aside0.mk (Kd.R_elder' (by (with_reducible repeat (first | apply Kd.R_alloc | apply Kd.R_drewN | apply Kd.R_drew)); exact HO_338002.out) (Kd.R_base ho0) hb)
         have n5_ := Aside0.mk (Kd.R_lower (Kd.R_new' (Kd.R_new' (Kd.R_new' ho0 (Kd.R_lt (by (with_reducible repeat (first | apply Kd.R_alloc | apply Kd.R_drewN | apply Kd.R_drew)); exact HO_326002.out))) (Kd.R_lt (by (with_reducible repeat (first | apply Kd.R_alloc | apply Kd.R_drewN | apply Kd.R_drew)); exact HO_332002.out))) (Kd.R_lt (by (with_reducible repeat (first | apply Kd.R_alloc | apply Kd.R_drewN | apply Kd.R_drew)); exact HO_338002.out))) (below_size (bw_ HB.out)))
         have n6_ := Aside0.mk (blk_below (bk_ BK291.out) hb)
         have n7_ := Aside0.mk (blk_below (bk_ BK300.out) hb)
         have n8_ := Aside0.mk (blk_below (bk_ BK301.out) hb)
         have n9_ := Aside0.mk (blk_below (bk_ BK309.out) hb)
         have n10_ := Aside0.mk (blk_below (bk_ BK310.out) hb)
         have n11_ := Aside0.mk (blk_below (bk_ BK318.out) hb)
         have n12_ := Aside0.mk (blk_below (bk_ BK319.out) hb)
         have n13_ := Aside0.mk (blk_below (bk_ BK325.out) hb)
         have n14_ := Aside0.mk (blk_below (bk_ BK331.out) hb)
         have n15_ := Aside0.mk (blk_below (bk_ BK337.out) hb)
         have n16_ := Aside0.mk (below_step (bw_ HB.out) hb)
         clear HO_12
         clear HO_22
         clear HO_326002
         clear HO_332002
         clear HO_338002
         clear BK291
         clear BK300
         clear BK301
         clear BK309
         clear BK310
         clear BK318
         clear BK319
         clear BK325
         clear BK331
         clear BK337
         clear HB
         have HO_12 := n0_
         have HO_22 := n1_
         have HO_326002 := n2_
         have HO_332002 := n3_
         have HO_338002 := n4_
         have HO346 := n5_
         have BK291 := n6_
         have BK300 := n7_
         have BK301 := n8_
         have BK309 := n9_
         have BK310 := n10_
         have BK318 := n11_
         have BK319 := n12_
         have BK325 := n13_
         have BK331 := n14_
         have BK337 := n15_
         have HB := n16_
         clear n0_ n1_ n2_ n3_ n4_ n5_ n6_ n7_ n8_ n9_ n10_ n11_ n12_ n13_ n14_ n15_ n16_
         (try clear hb)
         (try clear hb2)
         (try clear hk)
         (try clear hi)
         (try clear ho0)
         refine hK.out _ _ ⟨(blk_cell BK301.out 0).trans rfl, (blk_cell BK301.out 1).trans rfl, (blk_cell BK325.out 0).trans rfl, (blk_cell BK325.out 1).trans rfl, (blk_cell BK325.out 2).trans rfl, (blk_cell BK331.out 0).trans rfl, (blk_cell BK331.out 1).trans rfl, (blk_cell BK331.out 2).trans rfl⟩ (fun hHeld => ?_)
         clear hK K
         refine norm_ (a' := ?_) ?_ ?_
         rotate_left
         ·show Act.put _ (some 76) _ = _
          simp only [Act.put, q1_, q2_, q3_, i64_w, i32_w]
          rfl
         refine one_ (i := 7) (N := some 80) #[true, true, true, true, true, true, true, true, false, false] rfl rfl (one_of HT_.out (by kernel_rfl)) (by decide) (fun K hK => ?_)
         refine goes_ Try.func17 (by kernel_rfl) rfl #[.agg #[.int .i64 t295, .int .i64 t296], .agg #[.int .u64 t326, .int .i64 t327, .slice Ao80 t328.length co80], .agg #[.int .u64 t320, .int .i64 t321, .slice Ao66 t322.length co66]] (by rfl) rfl rfl (by (try simp only [List.map_toArray, List.map_cons, List.map_nil]); first | done | rfl | (simp only [List.length_drop, List.length_take]; rfl)) ?_
         with_reducible refine (agg_Merge.calls t295 t296 t326 t327 _ _ t328 t320 t321 _ _ t322 t347 t348 t349 _ ?side1 ?side2 ?side3 ?side4 A102.out).mono ?_
         (case side1 => repeat (first | exact (Kd.R_reads' HO_332002.out).2.2 | (with_reducible refine Kd.C_alloc ?_ _) | (with_reducible refine Kd.C_drewN ?_ _) | (with_reducible refine Kd.C_drew ?_)))
         (case side2 => exact (Kd.R_reads' HO_332002.out).2.1)
         (case side3 => repeat (first | exact (Kd.R_reads' HO_326002.out).2.2 | (with_reducible refine Kd.C_alloc ?_ _) | (with_reducible refine Kd.C_drewN ?_ _) | (with_reducible refine Kd.C_drew ?_)))
         (case side4 => exact (Kd.R_reads' HO_326002.out).2.1)
         rintro e w123 ⟨v350, rfl, ho0, hb⟩
         refine ⟨_, rfl, ?_⟩
         have n0_ := Aside0.mk (Kd.N_elder' (by (with_reducible repeat (first | apply Kd.N_alloc | apply Kd.N_drewN | apply Kd.N_drew)); exact HO_12.out) (Kd.R_base ho0) hb)
         have n1_ := Aside0.mk (Kd.N_elder' (by (with_reducible repeat (first | apply Kd.N_alloc | apply Kd.N_drewN | apply Kd.N_drew)); exact HO_22.out) (Kd.R_base ho0) hb)
         have n2_ := Aside0.mk (Kd.R_elder' (by (with_reducible repeat (first | apply Kd.R_alloc | apply Kd.R_drewN | apply Kd.R_drew)); exact HO_326002.out) (Kd.R_base ho0) hb)
         have n3_ := Aside0.mk (Kd.R_elder' (by (with_reducible repeat (first | apply Kd.R_alloc | apply Kd.R_drewN | apply Kd.R_drew)); exact HO_332002.out) (Kd.R_base ho0) hb)
         have n4_ := Aside0.mk (Kd.R_elder' (by (with_reducible repeat (first | apply Kd.R_alloc | apply Kd.R_drewN | apply Kd.R_drew)); exact HO_338002.out) (Kd.R_base ho0) hb)
         have n5_ := Aside0.mk (Kd.R_elder' (by (with_reducible repeat (first | apply Kd.R_alloc | apply Kd.R_drewN | apply Kd.R_drew)); exact HO346.out) (Kd.R_base ho0) hb)
         have n6_ := Aside0.mk (Kd.R_lower (Kd.R_new' (Kd.R_new' (Kd.R_new' (Kd.R_new' ho0 (Kd.R_lt (by (with_reducible repeat (first | apply Kd.R_alloc | apply Kd.R_drewN | apply Kd.R_drew)); exact HO_326002.out))) (Kd.R_lt (by (with_reducible repeat (first | apply Kd.R_alloc | apply Kd.R_drewN | apply Kd.R_drew)); exact HO_332002.out))) (Kd.R_lt (by (with_reducible repeat (first | apply Kd.R_alloc | apply Kd.R_drewN | apply Kd.R_drew)); exact HO_338002.out))) (Kd.R_lt (by (with_reducible repeat (first | apply Kd.R_alloc | apply Kd.R_drewN | apply Kd.R_drew)); exact HO346.out))) (below_size (bw_ HB.out)))
         have n7_ := Aside0.mk (blk_below (bk_ BK291.out) hb)
         have n8_ := Aside0.mk (blk_below (bk_ BK300.out) hb)
         have n9_ := Aside0.mk (blk_below (bk_ BK301.out) hb)
         have n10_ := Aside0.mk (blk_below (bk_ BK309.out) hb)
         have n11_ := Aside0.mk (blk_below (bk_ BK310.out) hb)
         have n12_ := Aside0.mk (blk_below (bk_ BK318.out) hb)
         have n13_ := Aside0.mk (blk_below (bk_ BK319.out) hb)
         have n14_ := Aside0.mk (blk_below (bk_ BK325.out) hb)
         have n15_ := Aside0.mk (blk_below (bk_ BK331.out) hb)
         have n16_ := Aside0.mk (blk_below (bk_ BK337.out) hb)
         have n17_ := Aside0.mk (below_step (bw_ HB.out) hb)
         clear HO_12
         clear HO_22
         clear HO_326002
         clear HO_332002
         clear HO_338002
         clear HO346
         clear BK291
         clear BK300
         clear BK301
         clear BK309
         clear BK310
         clear BK318
         clear BK319
         clear BK325
         clear BK331
         clear BK337
         clear HB
         have HO_12 := n0_
         have HO_22 := n1_
         have HO_326002 := n2_
         have HO_332002 := n3_
         have HO_338002 := n4_
         have HO346 := n5_
         have HO351 := n6_
         have BK291 := n7_
         have BK300 := n8_
         have BK301 := n9_
         have BK309 := n10_
         have BK310 := n11_
         have BK318 := n12_
         have BK319 := n13_
         have BK325 := n14_
         have BK331 := n15_
         have BK337 := n16_
         have HB := n17_
         clear n0_ n1_ n2_ n3_ n4_ n5_ n6_ n7_ n8_ n9_ n10_ n11_ n12_ n13_ n14_ n15_ n16_ n17_
         (try clear hb)
         (try clear hb2)
         (try clear hk)
         (try clear hi)
         (try clear ho0)
         obtain ⟨Ao124, co124, eo124⟩ := Kd.R_slice HO346.out
         (first | subst eo124 | (injection eo124 with f1_ f2_ f3_; have f4_ := f1_.symm; have f5_ := f3_.symm; clear f1_ f2_ f3_; subst f4_; subst f5_))
         obtain ⟨Ao125, co125, eo125⟩ := Kd.R_slice HO351.out
         (first | subst eo125 | (injection eo125 with f1_ f2_ f3_; have f4_ := f1_.symm; have f5_ := f3_.symm; clear f1_ f2_ f3_; subst f4_; subst f5_))
         refine hK.out _ _ ⟨(blk_cell BK301.out 0).trans rfl, (blk_cell BK301.out 1).trans rfl, (blk_cell BK325.out 0).trans rfl, (blk_cell BK325.out 1).trans rfl, (blk_cell BK325.out 2).trans rfl, (blk_cell BK331.out 0).trans rfl, (blk_cell BK331.out 1).trans rfl, (blk_cell BK331.out 2).trans rfl⟩ (fun hHeld => ?_)
         clear hK K
         refine norm_ (a' := ?_) ?_ ?_
         rotate_left
         ·show Act.put _ (some 80) _ = _
          simp only [Act.put, q1_, q2_, q3_, i64_w, i32_w]
          rfl
         refine one_ (i := 8) (N := some 81) #[true, true, true, true, true, true, true, true, true, false] rfl rfl (one_of HT_.out (by kernel_rfl)) (by decide) (fun K hK => ?_)
         refine goes_ Try.func14 (by kernel_rfl) rfl #[.agg #[.int .u64 t342, .int .i64 t343, .slice Ao124 t344.length co124], .agg #[.int .u64 t347, .int .i64 t348, .slice Ao125 t349.length co125]] (by rfl) rfl rfl (by (try simp only [List.map_toArray, List.map_cons, List.map_nil]); first | done | rfl | (simp only [List.length_drop, List.length_take]; rfl)) ?_
         with_reducible refine (gristmillref06_Same.calls k1 t342 t343 _ _ t344 t347 t348 _ _ t349 true _ ?side1 ?side2 ?side3 ?side4 A103.out).mono ?_
         (case side1 => repeat (first | exact (Kd.R_reads' HO346.out).2.2 | (with_reducible refine Kd.C_alloc ?_ _) | (with_reducible refine Kd.C_drewN ?_ _) | (with_reducible refine Kd.C_drew ?_)))
         (case side2 => exact (Kd.R_reads' HO346.out).2.1)
         (case side3 => repeat (first | exact (Kd.R_reads' HO351.out).2.2 | (with_reducible refine Kd.C_alloc ?_ _) | (with_reducible refine Kd.C_drewN ?_ _) | (with_reducible refine Kd.C_drew ?_)))
         (case side4 => exact (Kd.R_reads' HO351.out).2.1)
         rintro e w126 ⟨rfl, hb⟩
         refine ⟨_, rfl, ?_⟩
         have n0_ := Aside0.mk (Kd.N_below (by (with_reducible repeat (first | apply Kd.N_alloc | apply Kd.N_drewN | apply Kd.N_drew)); exact HO_12.out) hb)
         have n1_ := Aside0.mk (Kd.N_below (by (with_reducible repeat (first | apply Kd.N_alloc | apply Kd.N_drewN | apply Kd.N_drew)); exact HO_22.out) hb)
         have n2_ := Aside0.mk (Kd.R_below (by (with_reducible repeat (first | apply Kd.R_alloc | apply Kd.R_drewN | apply Kd.R_drew)); exact HO_326002.out) hb)
         have n3_ := Aside0.mk (Kd.R_below (by (with_reducible repeat (first | apply Kd.R_alloc | apply Kd.R_drewN | apply Kd.R_drew)); exact HO_332002.out) hb)
         have n4_ := Aside0.mk (Kd.R_below (by (with_reducible repeat (first | apply Kd.R_alloc | apply Kd.R_drewN | apply Kd.R_drew)); exact HO_338002.out) hb)
         have n5_ := Aside0.mk (Kd.R_below (by (with_reducible repeat (first | apply Kd.R_alloc | apply Kd.R_drewN | apply Kd.R_drew)); exact HO346.out) hb)
         have n6_ := Aside0.mk (Kd.R_below (by (with_reducible repeat (first | apply Kd.R_alloc | apply Kd.R_drewN | apply Kd.R_drew)); exact HO351.out) hb)
         have n7_ := Aside0.mk (blk_below (bk_ BK291.out) hb)
         have n8_ := Aside0.mk (blk_below (bk_ BK300.out) hb)
         have n9_ := Aside0.mk (blk_below (bk_ BK301.out) hb)
         have n10_ := Aside0.mk (blk_below (bk_ BK309.out) hb)
         have n11_ := Aside0.mk (blk_below (bk_ BK310.out) hb)
         have n12_ := Aside0.mk (blk_below (bk_ BK318.out) hb)
         have n13_ := Aside0.mk (blk_below (bk_ BK319.out) hb)
         have n14_ := Aside0.mk (blk_below (bk_ BK325.out) hb)
         have n15_ := Aside0.mk (blk_below (bk_ BK331.out) hb)
         have n16_ := Aside0.mk (blk_below (bk_ BK337.out) hb)
         have n17_ := Aside0.mk (below_step (bw_ HB.out) hb)
         clear HO_12
         clear HO_22
         clear HO_326002
         clear HO_332002
         clear HO_338002
         clear HO346
         clear HO351
         clear BK291
         clear BK300
         clear BK301
         clear BK309
         clear BK310
         clear BK318
         clear BK319
         clear BK325
         clear BK331
         clear BK337
         clear HB
         have HO_12 := n0_
         have HO_22 := n1_
         have HO_326002 := n2_
         have HO_332002 := n3_
         have HO_338002 := n4_
         have HO346 := n5_
         have HO351 := n6_
         have BK291 := n7_
         have BK300 := n8_
         have BK301 := n9_
         have BK309 := n10_
         have BK310 := n11_
         have BK318 := n12_
         have BK319 := n13_
         have BK325 := n14_
         have BK331 := n15_
         have BK337 := n16_
         have HB := n17_
         clear n0_ n1_ n2_ n3_ n4_ n5_ n6_ n7_ n8_ n9_ n10_ n11_ n12_ n13_ n14_ n15_ n16_ n17_
         (try clear hb)
         (try clear hb2)
         (try clear hk)
         (try clear hi)
         refine hK.out _ _ ⟨(blk_cell BK301.out 0).trans rfl, (blk_cell BK301.out 1).trans rfl, (blk_cell BK325.out 0).trans rfl, (blk_cell BK325.out 1).trans rfl, (blk_cell BK325.out 2).trans rfl, (blk_cell BK331.out 0).trans rfl, (blk_cell BK331.out 1).trans rfl, (blk_cell BK331.out 2).trans rfl⟩ (fun hHeld => ?_)
         clear hK K
         refine norm_ (a' := ?_) ?_ ?_
         rotate_left
         ·show Act.put _ (some 81) _ = _
          simp only [Act.put, q1_, q2_, q3_, i64_w, i32_w]
          rfl
         refine pure_ (i := 9) (N := some 24) (v := ?_) (a' := ?_) #[true, true, true, true, true, true, true, true, true, true] rfl rfl (any_of HT_.out (by kernel_rfl)) (fun _ _ _ h => h) (Or.inl ⟨by rfl, ?_⟩) ?_ ?_
         rotate_left
         ·intro w'
          go_simp
          with_reducible rfl
         rotate_left
         ·simp only [Act.put, q1_, q2_, q3_, i64_w, i32_w]
          rfl
         refine done_ (done_of HT_.out (by kernel_rfl)) ?_
         try go_wp2
         have n0_ := Aside0.mk (Kd.N_drew HO_12.out)
         have n1_ := Aside0.mk (Kd.N_drew HO_22.out)
         have n2_ := Aside0.mk (Kd.R_drew HO_326002.out)
         have n3_ := Aside0.mk (Kd.R_drew HO_332002.out)
         have n4_ := Aside0.mk (Kd.R_drew HO_338002.out)
         have n5_ := Aside0.mk (Kd.R_drew HO346.out)
         have n6_ := Aside0.mk (Kd.R_drew HO351.out)
         have n7_ := Aside0.mk (blk_drew BK291.out)
         have n8_ := Aside0.mk (blk_drew BK300.out)
         have n9_ := Aside0.mk (blk_drew BK301.out)
         have n10_ := Aside0.mk (blk_drew BK309.out)
         have n11_ := Aside0.mk (blk_drew BK310.out)
         have n12_ := Aside0.mk (blk_drew BK318.out)
         have n13_ := Aside0.mk (blk_drew BK319.out)
         have n14_ := Aside0.mk (blk_drew BK325.out)
         have n15_ := Aside0.mk (blk_drew BK331.out)
         have n16_ := Aside0.mk (blk_drew BK337.out)
         have n17_ := Aside0.mk (below_drew1 HB.out)
         clear HO_12
         clear HO_22
         clear HO_326002
         clear HO_332002
         clear HO_338002
         clear HO346
         clear HO351
         clear BK291
         clear BK300
         clear BK301
         clear BK309
         clear BK310
         clear BK318
         clear BK319
         clear BK325
         clear BK331
         clear BK337
         clear HB
         have HO_12 := n0_
         have HO_22 := n1_
         have HO_326002 := n2_
         have HO_332002 := n3_
         have HO_338002 := n4_
         have HO346 := n5_
         have HO351 := n6_
         have BK291 := n7_
         have BK300 := n8_
         have BK301 := n9_
         have BK309 := n10_
         have BK310 := n11_
         have BK318 := n12_
         have BK319 := n13_
         have BK325 := n14_
         have BK331 := n15_
         have BK337 := n16_
         have HB := n17_
         clear n0_ n1_ n2_ n3_ n4_ n5_ n6_ n7_ n8_ n9_ n10_ n11_ n12_ n13_ n14_ n15_ n16_ n17_
         refine start_ (n := 16) (S := fun w' => w'.cell? ⟨gb301, 0, none⟩ = some (.int .i64 t295) ∧ w'.cell? ⟨gb301, 1, none⟩ = some (.int .i64 t296) ∧ w'.cell? ⟨gb325, 0, none⟩ = some (.int .u64 t320) ∧ w'.cell? ⟨gb325, 1, none⟩ = some (.int .i64 t321) ∧ w'.cell? ⟨gb325, 2, none⟩ = some (.slice Ao66 t322.length co66) ∧ w'.cell? ⟨gb331, 0, none⟩ = some (.int .u64 t326) ∧ w'.cell? ⟨gb331, 1, none⟩ = some (.int .i64 t327) ∧ w'.cell? ⟨gb331, 2, none⟩ = some (.slice Ao80 t328.length co80) ∧ w'.cell? ⟨gb337, 0, none⟩ = some (.int .u64 t332) ∧ w'.cell? ⟨gb337, 1, none⟩ = some (.int .i64 t333) ∧ w'.cell? ⟨gb337, 2, none⟩ = some (.slice Ao95 t334.length co95)) (ds := []) #[false, false, false, false, false, false, false, false, false, false, false, false, false, false, false, false] (by kernel_rfl) rfl rfl ⟨(blk_cell BK301.out 0).trans rfl, (blk_cell BK301.out 1).trans rfl, (blk_cell BK325.out 0).trans rfl, (blk_cell BK325.out 1).trans rfl, (blk_cell BK325.out 2).trans rfl, (blk_cell BK331.out 0).trans rfl, (blk_cell BK331.out 1).trans rfl, (blk_cell BK331.out 2).trans rfl, (blk_cell BK337.out 0).trans rfl, (blk_cell BK337.out 1).trans rfl, (blk_cell BK337.out 2).trans rfl⟩ (fun hHeld => ?_); refine with_tabW gristmilllaw06_AggTurns.tab16 gristmilllaw06_AggTurns.bits16 (fun HT_ HW_ => ?_)
         generalize w126.drew = w127 at HO_12 HO_22 HO_326002 HO_332002 HO_338002 HO346 HO351 BK291 BK300 BK301 BK309 BK310 BK318 BK319 BK325 BK331 BK337 HB hHeld ⊢
         refine take_ (i := 0) (N := some 82) (v := ?_) (a' := ?_) #[true, false, false, false, false, false, false, false, false, false, false, false, false, false, false, false] rfl rfl (take_ofW HT_.out HW_.out (by kernel_rfl)) (fun _ _ _ h => h) (Or.inl ⟨by rfl, ?_⟩) hHeld ?_ ?_
         rotate_left
         ·rintro w' ⟨s0, s1, s2, s3, s4, s5, s6, s7, s8, s9, s10⟩
          go_simp
          with_reducible rfl
         rotate_left
         ·simp only [Act.put, q1_, q2_, q3_, i64_w, i32_w]
          rfl
         refine take_ (i := 1) (N := some 83) (v := ?_) (a' := ?_) #[true, true, false, false, false, false, false, false, false, false, false, false, false, false, false, false] rfl rfl (take_ofW HT_.out HW_.out (by kernel_rfl)) (fun _ _ _ h => h) (Or.inl ⟨by rfl, ?_⟩) hHeld ?_ ?_
         rotate_left
         ·rintro w' ⟨s0, s1, s2, s3, s4, s5, s6, s7, s8, s9, s10⟩
          go_simp
          with_reducible rfl
         rotate_left
         ·simp only [Act.put, q1_, q2_, q3_, i64_w, i32_w]
          rfl
         refine take_ (i := 2) (N := some 84) (v := ?_) (a' := ?_) #[true, true, true, false, false, false, false, false, false, false, false, false, false, false, false, false] rfl rfl (take_ofW HT_.out HW_.out (by kernel_rfl)) (fun _ _ _ h => h) (Or.inl ⟨by rfl, ?_⟩) hHeld ?_ ?_
         rotate_left
         ·rintro w' ⟨s0, s1, s2, s3, s4, s5, s6, s7, s8, s9, s10⟩
          go_simp
          with_reducible rfl
         rotate_left
         ·simp only [Act.put, q1_, q2_, q3_, i64_w, i32_w]
          rfl
         refine take_ (i := 3) (N := some 85) (v := ?_) (a' := ?_) #[true, true, true, true, false, false, false, false, false, false, false, false, false, false, false, false] rfl rfl (take_ofW HT_.out HW_.out (by kernel_rfl)) (fun _ _ _ h => h) (Or.inl ⟨by rfl, ?_⟩) hHeld ?_ ?_
         rotate_left
         ·rintro w' ⟨s0, s1, s2, s3, s4, s5, s6, s7, s8, s9, s10⟩
          go_simp
          with_reducible rfl
         rotate_left
         ·simp only [Act.put, q1_, q2_, q3_, i64_w, i32_w]
          rfl
         refine take_ (i := 5) (N := some 87) (v := ?_) (a' := ?_) #[true, true, true, true, false, true, false, false, false, false, false, false, false, false, false, false] rfl rfl (take_ofW HT_.out HW_.out (by kernel_rfl)) (fun _ _ _ h => h) (Or.inl ⟨by rfl, ?_⟩) hHeld ?_ ?_
         rotate_left
         ·rintro w' ⟨s0, s1, s2, s3, s4, s5, s6, s7, s8, s9, s10⟩
          go_simp
          with_reducible rfl
         rotate_left
         ·simp only [Act.put, q1_, q2_, q3_, i64_w, i32_w]
          rfl
         refine take_ (i := 7) (N := some 89) (v := ?_) (a' := ?_) #[true, true, true, true, false, true, false, true, false, false, false, false, false, false, false, false] rfl rfl (take_ofW HT_.out HW_.out (by kernel_rfl)) (fun _ _ _ h => h) (Or.inl ⟨by rfl, ?_⟩) hHeld ?_ ?_
         rotate_left
         ·rintro w' ⟨s0, s1, s2, s3, s4, s5, s6, s7, s8, s9, s10⟩
          go_simp
          with_reducible rfl
         rotate_left
         ·simp only [Act.put, q1_, q2_, q3_, i64_w, i32_w]
          rfl
         refine take_ (i := 8) (N := some 90) (v := ?_) (a' := ?_) #[true, true, true, true, false, true, false, true, true, false, false, false, false, false, false, false] rfl rfl (take_ofW HT_.out HW_.out (by kernel_rfl)) (fun _ _ _ h => h) (Or.inl ⟨by rfl, ?_⟩) hHeld ?_ ?_
         rotate_left
         ·rintro w' ⟨s0, s1, s2, s3, s4, s5, s6, s7, s8, s9, s10⟩
          go_simp
          with_reducible rfl
         rotate_left
         ·simp only [Act.put, q1_, q2_, q3_, i64_w, i32_w]
          rfl
         refine take_ (i := 9) (N := some 91) (v := ?_) (a' := ?_) #[true, true, true, true, false, true, false, true, true, true, false, false, false, false, false, false] rfl rfl (take_ofW HT_.out HW_.out (by kernel_rfl)) (fun _ _ _ h => h) (Or.inl ⟨by rfl, ?_⟩) hHeld ?_ ?_
         rotate_left
         ·rintro w' ⟨s0, s1, s2, s3, s4, s5, s6, s7, s8, s9, s10⟩
          go_simp
          with_reducible rfl
         rotate_left
         ·simp only [Act.put, q1_, q2_, q3_, i64_w, i32_w]
          rfl
         refine take_ (i := 10) (N := some 92) (v := ?_) (a' := ?_) #[true, true, true, true, false, true, false, true, true, true, true, false, false, false, false, false] rfl rfl (take_ofW HT_.out HW_.out (by kernel_rfl)) (fun _ _ _ h => h) (Or.inl ⟨by rfl, ?_⟩) hHeld ?_ ?_
         rotate_left
         ·rintro w' ⟨s0, s1, s2, s3, s4, s5, s6, s7, s8, s9, s10⟩
          go_simp
          with_reducible rfl
         rotate_left
         ·simp only [Act.put, q1_, q2_, q3_, i64_w, i32_w]
          rfl
         refine take_ (i := 11) (N := some 93) (v := ?_) (a' := ?_) #[true, true, true, true, false, true, false, true, true, true, true, true, false, false, false, false] rfl rfl (take_ofW HT_.out HW_.out (by kernel_rfl)) (fun _ _ _ h => h) (Or.inl ⟨by rfl, ?_⟩) hHeld ?_ ?_
         rotate_left
         ·rintro w' ⟨s0, s1, s2, s3, s4, s5, s6, s7, s8, s9, s10⟩
          go_simp
          with_reducible rfl
         rotate_left
         ·simp only [Act.put, q1_, q2_, q3_, i64_w, i32_w]
          rfl
         refine one_ (i := 4) (N := some 86) #[true, true, true, true, true, true, false, true, true, true, true, true, false, false, false, false] rfl rfl (one_of HT_.out (by kernel_rfl)) (by decide) (fun K hK => ?_)
         refine goes_ Try.func17 (by kernel_rfl) rfl #[.agg #[.int .i64 t295, .int .i64 t296], .agg #[.int .u64 t320, .int .i64 t321, .slice Ao66 t322.length co66], .agg #[.int .u64 t326, .int .i64 t327, .slice Ao80 t328.length co80]] (by rfl) rfl rfl (by (try simp only [List.map_toArray, List.map_cons, List.map_nil]); first | done | rfl | (simp only [List.length_drop, List.length_take]; rfl)) ?_
         with_reducible refine (agg_Merge.calls t295 t296 t320 t321 _ _ t322 t326 t327 _ _ t328 t353 t354 t355 _ ?side1 ?side2 ?side3 ?side4 A104.out).mono ?_
         (case side1 => repeat (first | exact (Kd.R_reads' HO_326002.out).2.2 | (with_reducible refine Kd.C_alloc ?_ _) | (with_reducible refine Kd.C_drewN ?_ _) | (with_reducible refine Kd.C_drew ?_)))
         (case side2 => exact (Kd.R_reads' HO_326002.out).2.1)
         (case side3 => repeat (first | exact (Kd.R_reads' HO_332002.out).2.2 | (with_reducible refine Kd.C_alloc ?_ _) | (with_reducible refine Kd.C_drewN ?_ _) | (with_reducible refine Kd.C_drew ?_)))
         (case side4 => exact (Kd.R_reads' HO_332002.out).2.1)
         rintro e w128 ⟨v356, rfl, ho0, hb⟩
         refine ⟨_, rfl, ?_⟩
         have n0_ := Aside0.mk (Kd.N_elder' (by (with_reducible repeat (first | apply Kd.N_alloc | apply Kd.N_drewN | apply Kd.N_drew)); exact HO_12.out) (Kd.R_base ho0) hb)
         have n1_ := Aside0.mk (Kd.N_elder' (by (with_reducible repeat (first | apply Kd.N_alloc | apply Kd.N_drewN | apply Kd.N_drew)); exact HO_22.out) (Kd.R_base ho0) hb)
         have n2_ := Aside0.mk (Kd.R_elder' (by (with_reducible repeat (first | apply Kd.R_alloc | apply Kd.R_drewN | apply Kd.R_drew)); exact HO_326002.out) (Kd.R_base ho0) hb)
         have n3_ := Aside0.mk (Kd.R_elder' (by (with_reducible repeat (first | apply Kd.R_alloc | apply Kd.R_drewN | apply Kd.R_drew)); exact HO_332002.out) (Kd.R_base ho0) hb)
         have n4_ := Aside0.mk (Kd.R_elder' (by (with_reducible repeat (first | apply Kd.R_alloc | apply Kd.R_drewN | apply Kd.R_drew)); exact HO_338002.out) (Kd.R_base ho0) hb)
         have n5_ := Aside0.mk (Kd.R_elder' (by (with_reducible repeat (first | apply Kd.R_alloc | apply Kd.R_drewN | apply Kd.R_drew)); exact HO346.out) (Kd.R_base ho0) hb)
         have n6_ := Aside0.mk (Kd.R_elder' (by (with_reducible repeat (first | apply Kd.R_alloc | apply Kd.R_drewN | apply Kd.R_drew)); exact HO351.out) (Kd.R_base ho0) hb)
         have n7_ := Aside0.mk (Kd.R_lower (Kd.R_new' (Kd.R_new' (Kd.R_new' (Kd.R_new' (Kd.R_new' ho0 (Kd.R_lt (by (with_reducible repeat (first | apply Kd.R_alloc | apply Kd.R_drewN | apply Kd.R_drew)); exact HO_326002.out))) (Kd.R_lt (by (with_reducible repeat (first | apply Kd.R_alloc | apply Kd.R_drewN | apply Kd.R_drew)); exact HO_332002.out))) (Kd.R_lt (by (with_reducible repeat (first | apply Kd.R_alloc | apply Kd.R_drewN | apply Kd.R_drew)); exact HO_338002.out))) (Kd.R_lt (by (with_reducible repeat (first | apply Kd.R_alloc | apply Kd.R_drewN | apply Kd.R_drew)); exact HO346.out))) (Kd.R_lt (by (with_reducible repeat (first | apply Kd.R_alloc | apply Kd.R_drewN | apply Kd.R_drew)); exact HO351.out))) (below_size (bw_ HB.out)))
         have n8_ := Aside0.mk (blk_below (bk_ BK291.out) hb)
         have n9_ := Aside0.mk (blk_below (bk_ BK300.out) hb)
         have n10_ := Aside0.mk (blk_below (bk_ BK301.out) hb)
         have n11_ := Aside0.mk (blk_below (bk_ BK309.out) hb)
         have n12_ := Aside0.mk (blk_below (bk_ BK310.out) hb)
         have n13_ := Aside0.mk (blk_below (bk_ BK318.out) hb)
         have n14_ := Aside0.mk (blk_below (bk_ BK319.out) hb)
         have n15_ := Aside0.mk (blk_below (bk_ BK325.out) hb)
         have n16_ := Aside0.mk (blk_below (bk_ BK331.out) hb)
         have n17_ := Aside0.mk (blk_below (bk_ BK337.out) hb)
         have n18_ := Aside0.mk (below_step (bw_ HB.out) hb)
         clear HO_12
         clear HO_22
         clear HO_326002
         clear HO_332002
         clear HO_338002
         clear HO346
         clear HO351
         clear BK291
         clear BK300
         clear BK301
         clear BK309
         clear BK310
         clear BK318
         clear BK319
         clear BK325
         clear BK331
         clear BK337
         clear HB
         have HO_12 := n0_
         have HO_22 := n1_
         have HO_326002 := n2_
         have HO_332002 := n3_
         have HO_338002 := n4_
         have HO346 := n5_
         have HO351 := n6_
         have HO357 := n7_
         have BK291 := n8_
         have BK300 := n9_
         have BK301 := n10_
         have BK309 := n11_
         have BK310 := n12_
         have BK318 := n13_
         have BK319 := n14_
         have BK325 := n15_
         have BK331 := n16_
         have BK337 := n17_
         have HB := n18_
         clear n0_ n1_ n2_ n3_ n4_ n5_ n6_ n7_ n8_ n9_ n10_ n11_ n12_ n13_ n14_ n15_ n16_ n17_ n18_
         (try clear hb)
         (try clear hb2)
         (try clear hk)
         (try clear hi)
         (try clear ho0)
         obtain ⟨Ao129, co129, eo129⟩ := Kd.R_slice HO357.out
         (first | subst eo129 | (injection eo129 with f1_ f2_ f3_; have f4_ := f1_.symm; have f5_ := f3_.symm; clear f1_ f2_ f3_; subst f4_; subst f5_))
         refine hK.out _ _ ⟨(blk_cell BK301.out 0).trans rfl, (blk_cell BK301.out 1).trans rfl, (blk_cell BK325.out 0).trans rfl, (blk_cell BK325.out 1).trans rfl, (blk_cell BK325.out 2).trans rfl, (blk_cell BK331.out 0).trans rfl, (blk_cell BK331.out 1).trans rfl, (blk_cell BK331.out 2).trans rfl, (blk_cell BK337.out 0).trans rfl, (blk_cell BK337.out 1).trans rfl, (blk_cell BK337.out 2).trans rfl⟩ (fun hHeld => ?_)
         clear hK K
         refine norm_ (a' := ?_) ?_ ?_
         rotate_left
         ·show Act.put _ (some 86) _ = _
          simp only [Act.put, q1_, q2_, q3_, i64_w, i32_w]
          rfl
         refine one_ (i := 6) (N := some 88) #[true, true, true, true, true, true, true, true, true, true, true, true, false, false, false, false] rfl rfl (one_of HT_.out (by kernel_rfl)) (by decide) (fun K hK => ?_)
         refine goes_ Try.func17 (by kernel_rfl) rfl #[.agg #[.int .i64 t295, .int .i64 t296], .agg #[.int .u64 t353, .int .i64 t354, .slice Ao129 t355.length co129], .agg #[.int .u64 t332, .int .i64 t333, .slice Ao95 t334.length co95]] (by rfl) rfl rfl (by (try simp only [List.map_toArray, List.map_cons, List.map_nil]); first | done | rfl | (simp only [List.length_drop, List.length_take]; rfl)) ?_
         with_reducible refine (agg_Merge.calls t295 t296 t353 t354 _ _ t355 t332 t333 _ _ t334 t358 t359 t360 _ ?side1 ?side2 ?side3 ?side4 A105.out).mono ?_
         (case side1 => repeat (first | exact (Kd.R_reads' HO357.out).2.2 | (with_reducible refine Kd.C_alloc ?_ _) | (with_reducible refine Kd.C_drewN ?_ _) | (with_reducible refine Kd.C_drew ?_)))
         (case side2 => exact (Kd.R_reads' HO357.out).2.1)
         (case side3 => repeat (first | exact (Kd.R_reads' HO_338002.out).2.2 | (with_reducible refine Kd.C_alloc ?_ _) | (with_reducible refine Kd.C_drewN ?_ _) | (with_reducible refine Kd.C_drew ?_)))
         (case side4 => exact (Kd.R_reads' HO_338002.out).2.1)
         rintro e w130 ⟨v361, rfl, ho0, hb⟩
         refine ⟨_, rfl, ?_⟩
         have n0_ := Aside0.mk (Kd.N_elder' (by (with_reducible repeat (first | apply Kd.N_alloc | apply Kd.N_drewN | apply Kd.N_drew)); exact HO_12.out) (Kd.R_base ho0) hb)
         have n1_ := Aside0.mk (Kd.N_elder' (by (with_reducible repeat (first | apply Kd.N_alloc | apply Kd.N_drewN | apply Kd.N_drew)); exact HO_22.out) (Kd.R_base ho0) hb)
         have n2_ := Aside0.mk (Kd.R_elder' (by (with_reducible repeat (first | apply Kd.R_alloc | apply Kd.R_drewN | apply Kd.R_drew)); exact HO_326002.out) (Kd.R_base ho0) hb)
         have n3_ := Aside0.mk (Kd.R_elder' (by (with_reducible repeat (first | apply Kd.R_alloc | apply Kd.R_drewN | apply Kd.R_drew)); exact HO_332002.out) (Kd.R_base ho0) hb)
         have n4_ := Aside0.mk (Kd.R_elder' (by (with_reducible repeat (first | apply Kd.R_alloc | apply Kd.R_drewN | apply Kd.R_drew)); exact HO_338002.out) (Kd.R_base ho0) hb)
         have n5_ := Aside0.mk (Kd.R_elder' (by (with_reducible repeat (first | apply Kd.R_alloc | apply Kd.R_drewN | apply Kd.R_drew)); exact HO346.out) (Kd.R_base ho0) hb)
         have n6_ := Aside0.mk (Kd.R_elder' (by (with_reducible repeat (first | apply Kd.R_alloc | apply Kd.R_drewN | apply Kd.R_drew)); exact HO351.out) (Kd.R_base ho0) hb)
         have n7_ := Aside0.mk (Kd.R_elder' (by (with_reducible repeat (first | apply Kd.R_alloc | apply Kd.R_drewN | apply Kd.R_drew)); exact HO357.out) (Kd.R_base ho0) hb)
         have n8_ := Aside0.mk (Kd.R_lower (Kd.R_new' (Kd.R_new' (Kd.R_new' (Kd.R_new' (Kd.R_new' (Kd.R_new' ho0 (Kd.R_lt (by (with_reducible repeat (first | apply Kd.R_alloc | apply Kd.R_drewN | apply Kd.R_drew)); exact HO_326002.out))) (Kd.R_lt (by (with_reducible repeat (first | apply Kd.R_alloc | apply Kd.R_drewN | apply Kd.R_drew)); exact HO_332002.out))) (Kd.R_lt (by (with_reducible repeat (first | apply Kd.R_alloc | apply Kd.R_drewN | apply Kd.R_drew)); exact HO_338002.out))) (Kd.R_lt (by (with_reducible repeat (first | apply Kd.R_alloc | apply Kd.R_drewN | apply Kd.R_drew)); exact HO346.out))) (Kd.R_lt (by (with_reducible repeat (first | apply Kd.R_alloc | apply Kd.R_drewN | apply Kd.R_drew)); exact HO351.out))) (Kd.R_lt (by (with_reducible repeat (first | apply Kd.R_alloc | apply Kd.R_drewN | apply Kd.R_drew)); exact HO357.out))) (below_size (bw_ HB.out)))
         have n9_ := Aside0.mk (blk_below (bk_ BK291.out) hb)
         have n10_ := Aside0.mk (blk_below (bk_ BK300.out) hb)
         have n11_ := Aside0.mk (blk_below (bk_ BK301.out) hb)
         have n12_ := Aside0.mk (blk_below (bk_ BK309.out) hb)
         have n13_ := Aside0.mk (blk_below (bk_ BK310.out) hb)
         have n14_ := Aside0.mk (blk_below (bk_ BK318.out) hb)
         have n15_ := Aside0.mk (blk_below (bk_ BK319.out) hb)
         have n16_ := Aside0.mk (blk_below (bk_ BK325.out) hb)
         have n17_ := Aside0.mk (blk_below (bk_ BK331.out) hb)
         have n18_ := Aside0.mk (blk_below (bk_ BK337.out) hb)
         have n19_ := Aside0.mk (below_step (bw_ HB.out) hb)
         clear HO_12
         clear HO_22
         clear HO_326002
         clear HO_332002
         clear HO_338002
         clear HO346
         clear HO351
         clear HO357
         clear BK291
         clear BK300
         clear BK301
         clear BK309
         clear BK310
         clear BK318
         clear BK319
         clear BK325
         clear BK331
         clear BK337
         clear HB
         have HO_12 := n0_
         have HO_22 := n1_
         have HO_326002 := n2_
         have HO_332002 := n3_
         have HO_338002 := n4_
         have HO346 := n5_
         have HO351 := n6_
         have HO357 := n7_
         have HO362 := n8_
         have BK291 := n9_
         have BK300 := n10_
         have BK301 := n11_
         have BK309 := n12_
         have BK310 := n13_
         have BK318 := n14_
         have BK319 := n15_
         have BK325 := n16_
         have BK331 := n17_
         have BK337 := n18_
         have HB := n19_
         clear n0_ n1_ n2_ n3_ n4_ n5_ n6_ n7_ n8_ n9_ n10_ n11_ n12_ n13_ n14_ n15_ n16_ n17_ n18_ n19_
         (try clear hb)
         (try clear hb2)
         (try clear hk)
         (try clear hi)
         (try clear ho0)
         refine hK.out _ _ ⟨(blk_cell BK301.out 0).trans rfl, (blk_cell BK301.out 1).trans rfl, (blk_cell BK325.out 0).trans rfl, (blk_cell BK325.out 1).trans rfl, (blk_cell BK325.out 2).trans rfl, (blk_cell BK331.out 0).trans rfl, (blk_cell BK331.out 1).trans rfl, (blk_cell BK331.out 2).trans rfl, (blk_cell BK337.out 0).trans rfl, (blk_cell BK337.out 1).trans rfl, (blk_cell BK337.out 2).trans rfl⟩ (fun hHeld => ?_)
         clear hK K
         refine norm_ (a' := ?_) ?_ ?_
         rotate_left
         ·show Act.put _ (some 88) _ = _
          simp only [Act.put, q1_, q2_, q3_, i64_w, i32_w]
          rfl
         refine one_ (i := 12) (N := some 94) #[true, true, true, true, true, true, true, true, true, true, true, true, true, false, false, false] rfl rfl (one_of HT_.out (by kernel_rfl)) (by decide) (fun K hK => ?_)
         refine goes_ Try.func17 (by kernel_rfl) rfl #[.agg #[.int .i64 t295, .int .i64 t296], .agg #[.int .u64 t326, .int .i64 t327, .slice Ao80 t328.length co80], .agg #[.int .u64 t332, .int .i64 t333, .slice Ao95 t334.length co95]] (by rfl) rfl rfl (by (try simp only [List.map_toArray, List.map_cons, List.map_nil]); first | done | rfl | (simp only [List.length_drop, List.length_take]; rfl)) ?_
         with_reducible refine (agg_Merge.calls t295 t296 t326 t327 _ _ t328 t332 t333 _ _ t334 t363 t364 t365 _ ?side1 ?side2 ?side3 ?side4 A106.out).mono ?_
         (case side1 => repeat (first | exact (Kd.R_reads' HO_332002.out).2.2 | (with_reducible refine Kd.C_alloc ?_ _) | (with_reducible refine Kd.C_drewN ?_ _) | (with_reducible refine Kd.C_drew ?_)))
         (case side2 => exact (Kd.R_reads' HO_332002.out).2.1)
         (case side3 => repeat (first | exact (Kd.R_reads' HO_338002.out).2.2 | (with_reducible refine Kd.C_alloc ?_ _) | (with_reducible refine Kd.C_drewN ?_ _) | (with_reducible refine Kd.C_drew ?_)))
         (case side4 => exact (Kd.R_reads' HO_338002.out).2.1)
         rintro e w131 ⟨v366, rfl, ho0, hb⟩
         refine ⟨_, rfl, ?_⟩
         have n0_ := Aside0.mk (Kd.N_elder' (by (with_reducible repeat (first | apply Kd.N_alloc | apply Kd.N_drewN | apply Kd.N_drew)); exact HO_12.out) (Kd.R_base ho0) hb)
         have n1_ := Aside0.mk (Kd.N_elder' (by (with_reducible repeat (first | apply Kd.N_alloc | apply Kd.N_drewN | apply Kd.N_drew)); exact HO_22.out) (Kd.R_base ho0) hb)
         have n2_ := Aside0.mk (Kd.R_elder' (by (with_reducible repeat (first | apply Kd.R_alloc | apply Kd.R_drewN | apply Kd.R_drew)); exact HO_326002.out) (Kd.R_base ho0) hb)
         have n3_ := Aside0.mk (Kd.R_elder' (by (with_reducible repeat (first | apply Kd.R_alloc | apply Kd.R_drewN | apply Kd.R_drew)); exact HO_332002.out) (Kd.R_base ho0) hb)
         have n4_ := Aside0.mk (Kd.R_elder' (by (with_reducible repeat (first | apply Kd.R_alloc | apply Kd.R_drewN | apply Kd.R_drew)); exact HO_338002.out) (Kd.R_base ho0) hb)
         have n5_ := Aside0.mk (Kd.R_elder' (by (with_reducible repeat (first | apply Kd.R_alloc | apply Kd.R_drewN | apply Kd.R_drew)); exact HO346.out) (Kd.R_base ho0) hb)
         have n6_ := Aside0.mk (Kd.R_elder' (by (with_reducible repeat (first | apply Kd.R_alloc | apply Kd.R_drewN | apply Kd.R_drew)); exact HO351.out) (Kd.R_base ho0) hb)
         have n7_ := Aside0.mk (Kd.R_elder' (by (with_reducible repeat (first | apply Kd.R_alloc | apply Kd.R_drewN | apply Kd.R_drew)); exact HO357.out) (Kd.R_base ho0) hb)
         have n8_ := Aside0.mk (Kd.R_elder' (by (with_reducible repeat (first | apply Kd.R_alloc | apply Kd.R_drewN | apply Kd.R_drew)); exact HO362.out) (Kd.R_base ho0) hb)
         have n9_ := Aside0.mk (Kd.R_lower (Kd.R_new' (Kd.R_new' (Kd.R_new' (Kd.R_new' (Kd.R_new' (Kd.R_new' (Kd.R_new' ho0 (Kd.R_lt (by (with_reducible repeat (first | apply Kd.R_alloc | apply Kd.R_drewN | apply Kd.R_drew)); exact HO_326002.out))) (Kd.R_lt (by (with_reducible repeat (first | apply Kd.R_alloc | apply Kd.R_drewN | apply Kd.R_drew)); exact HO_332002.out))) (Kd.R_lt (by (with_reducible repeat (first | apply Kd.R_alloc | apply Kd.R_drewN | apply Kd.R_drew)); exact HO_338002.out))) (Kd.R_lt (by (with_reducible repeat (first | apply Kd.R_alloc | apply Kd.R_drewN | apply Kd.R_drew)); exact HO346.out))) (Kd.R_lt (by (with_reducible repeat (first | apply Kd.R_alloc | apply Kd.R_drewN | apply Kd.R_drew)); exact HO351.out))) (Kd.R_lt (by (with_reducible repeat (first | apply Kd.R_alloc | apply Kd.R_drewN | apply Kd.R_drew)); exact HO357.out))) (Kd.R_lt (by (with_reducible repeat (first | apply Kd.R_alloc | apply Kd.R_drewN | apply Kd.R_drew)); exact HO362.out))) (below_size (bw_ HB.out)))
         have n10_ := Aside0.mk (blk_below (bk_ BK291.out) hb)
         have n11_ := Aside0.mk (blk_below (bk_ BK300.out) hb)
         have n12_ := Aside0.mk (blk_below (bk_ BK301.out) hb)
         have n13_ := Aside0.mk (blk_below (bk_ BK309.out) hb)
         have n14_ := Aside0.mk (blk_below (bk_ BK310.out) hb)
         have n15_ := Aside0.mk (blk_below (bk_ BK318.out) hb)
         have n16_ := Aside0.mk (blk_below (bk_ BK319.out) hb)
         have n17_ := Aside0.mk (blk_below (bk_ BK325.out) hb)
         have n18_ := Aside0.mk (blk_below (bk_ BK331.out) hb)
         have n19_ := Aside0.mk (blk_below (bk_ BK337.out) hb)
         have n20_ := Aside0.mk (below_step (bw_ HB.out) hb)
         clear HO_12
         clear HO_22
         clear HO_326002
         clear HO_332002
         clear HO_338002
         clear HO346
         clear HO351
         clear HO357
         clear HO362
         clear BK291
         clear BK300
         clear BK301
         clear BK309
         clear BK310
         clear BK318
         clear BK319
         clear BK325
         clear BK331
         clear BK337
         clear HB
         have HO_12 := n0_
         have HO_22 := n1_
         have HO_326002 := n2_
         have HO_332002 := n3_
         have HO_338002 := n4_
         have HO346 := n5_
         have HO351 := n6_
         have HO357 := n7_
         have HO362 := n8_
         have HO367 := n9_
         have BK291 := n10_
         have BK300 := n11_
         have BK301 := n12_
         have BK309 := n13_
         have BK310 := n14_
         have BK318 := n15_
         have BK319 := n16_
         have BK325 := n17_
         have BK331 := n18_
         have BK337 := n19_
         have HB := n20_
         clear n0_ n1_ n2_ n3_ n4_ n5_ n6_ n7_ n8_ n9_ n10_ n11_ n12_ n13_ n14_ n15_ n16_ n17_ n18_ n19_ n20_
         (try clear hb)
         (try clear hb2)
         (try clear hk)
         (try clear hi)
         (try clear ho0)
         obtain ⟨Ao132, co132, eo132⟩ := Kd.R_slice HO367.out
         (first | subst eo132 | (injection eo132 with f1_ f2_ f3_; have f4_ := f1_.symm; have f5_ := f3_.symm; clear f1_ f2_ f3_; subst f4_; subst f5_))
         refine hK.out _ _ ⟨(blk_cell BK301.out 0).trans rfl, (blk_cell BK301.out 1).trans rfl, (blk_cell BK325.out 0).trans rfl, (blk_cell BK325.out 1).trans rfl, (blk_cell BK325.out 2).trans rfl, (blk_cell BK331.out 0).trans rfl, (blk_cell BK331.out 1).trans rfl, (blk_cell BK331.out 2).trans rfl, (blk_cell BK337.out 0).trans rfl, (blk_cell BK337.out 1).trans rfl, (blk_cell BK337.out 2).trans rfl⟩ (fun hHeld => ?_)
         clear hK K
         refine norm_ (a' := ?_) ?_ ?_
         rotate_left
         ·show Act.put _ (some 94) _ = _
          simp only [Act.put, q1_, q2_, q3_, i64_w, i32_w]
          rfl
         refine one_ (i := 13) (N := some 95) #[true, true, true, true, true, true, true, true, true, true, true, true, true, true, false, false] rfl rfl (one_of HT_.out (by kernel_rfl)) (by decide) (fun K hK => ?_)
         refine goes_ Try.func17 (by kernel_rfl) rfl #[.agg #[.int .i64 t295, .int .i64 t296], .agg #[.int .u64 t320, .int .i64 t321, .slice Ao66 t322.length co66], .agg #[.int .u64 t363, .int .i64 t364, .slice Ao132 t365.length co132]] (by rfl) rfl rfl (by (try simp only [List.map_toArray, List.map_cons, List.map_nil]); first | done | rfl | (simp only [List.length_drop, List.length_take]; rfl)) ?_
         with_reducible refine (agg_Merge.calls t295 t296 t320 t321 _ _ t322 t363 t364 _ _ t365 t368 t369 t370 _ ?side1 ?side2 ?side3 ?side4 A107.out).mono ?_
         (case side1 => repeat (first | exact (Kd.R_reads' HO_326002.out).2.2 | (with_reducible refine Kd.C_alloc ?_ _) | (with_reducible refine Kd.C_drewN ?_ _) | (with_reducible refine Kd.C_drew ?_)))
         (case side2 => exact (Kd.R_reads' HO_326002.out).2.1)
         (case side3 => repeat (first | exact (Kd.R_reads' HO367.out).2.2 | (with_reducible refine Kd.C_alloc ?_ _) | (with_reducible refine Kd.C_drewN ?_ _) | (with_reducible refine Kd.C_drew ?_)))
         (case side4 => exact (Kd.R_reads' HO367.out).2.1)
         rintro e w133 ⟨v371, rfl, ho0, hb⟩
         refine ⟨_, rfl, ?_⟩
         have n0_ := Aside0.mk (Kd.N_elder' (by (with_reducible repeat (first | apply Kd.N_alloc | apply Kd.N_drewN | apply Kd.N_drew)); exact HO_12.out) (Kd.R_base ho0) hb)
         have n1_ := Aside0.mk (Kd.N_elder' (by (with_reducible repeat (first | apply Kd.N_alloc | apply Kd.N_drewN | apply Kd.N_drew)); exact HO_22.out) (Kd.R_base ho0) hb)
         have n2_ := Aside0.mk (Kd.R_elder' (by (with_reducible repeat (first | apply Kd.R_alloc | apply Kd.R_drewN | apply Kd.R_drew)); exact HO_326002.out) (Kd.R_base ho0) hb)
         have n3_ := Aside0.mk (Kd.R_elder' (by (with_reducible repeat (first | apply Kd.R_alloc | apply Kd.R_drewN | apply Kd.R_drew)); exact HO_332002.out) (Kd.R_base ho0) hb)
         have n4_ := Aside0.mk (Kd.R_elder' (by (with_reducible repeat (first | apply Kd.R_alloc | apply Kd.R_drewN | apply Kd.R_drew)); exact HO_338002.out) (Kd.R_base ho0) hb)
         have n5_ := Aside0.mk (Kd.R_elder' (by (with_reducible repeat (first | apply Kd.R_alloc | apply Kd.R_drewN | apply Kd.R_drew)); exact HO346.out) (Kd.R_base ho0) hb)
         have n6_ := Aside0.mk (Kd.R_elder' (by (with_reducible repeat (first | apply Kd.R_alloc | apply Kd.R_drewN | apply Kd.R_drew)); exact HO351.out) (Kd.R_base ho0) hb)
         have n7_ := Aside0.mk (Kd.R_elder' (by (with_reducible repeat (first | apply Kd.R_alloc | apply Kd.R_drewN | apply Kd.R_drew)); exact HO357.out) (Kd.R_base ho0) hb)
         have n8_ := Aside0.mk (Kd.R_elder' (by (with_reducible repeat (first | apply Kd.R_alloc | apply Kd.R_drewN | apply Kd.R_drew)); exact HO362.out) (Kd.R_base ho0) hb)
         have n9_ := Aside0.mk (Kd.R_elder' (by (with_reducible repeat (first | apply Kd.R_alloc | apply Kd.R_drewN | apply Kd.R_drew)); exact HO367.out) (Kd.R_base ho0) hb)
         have n10_ := Aside0.mk (Kd.R_lower (Kd.R_new' (Kd.R_new' (Kd.R_new' (Kd.R_new' (Kd.R_new' (Kd.R_new' (Kd.R_new' (Kd.R_new' ho0 (Kd.R_lt (by (with_reducible repeat (first | apply Kd.R_alloc | apply Kd.R_drewN | apply Kd.R_drew)); exact HO_326002.out))) (Kd.R_lt (by (with_reducible repeat (first | apply Kd.R_alloc | apply Kd.R_drewN | apply Kd.R_drew)); exact HO_332002.out))) (Kd.R_lt (by (with_reducible repeat (first | apply Kd.R_alloc | apply Kd.R_drewN | apply Kd.R_drew)); exact HO_338002.out))) (Kd.R_lt (by (with_reducible repeat (first | apply Kd.R_alloc | apply Kd.R_drewN | apply Kd.R_drew)); exact HO346.out))) (Kd.R_lt (by (with_reducible repeat (first | apply Kd.R_alloc | apply Kd.R_drewN | apply Kd.R_drew)); exact HO351.out))) (Kd.R_lt (by (with_reducible repeat (first | apply Kd.R_alloc | apply Kd.R_drewN | apply Kd.R_drew)); exact HO357.out))) (Kd.R_lt (by (with_reducible repeat (first | apply Kd.R_alloc | apply Kd.R_drewN | apply Kd.R_drew)); exact HO362.out))) (Kd.R_lt (by (with_reducible repeat (first | apply Kd.R_alloc | apply Kd.R_drewN | apply Kd.R_drew)); exact HO367.out))) (below_size (bw_ HB.out)))
         have n11_ := Aside0.mk (blk_below (bk_ BK291.out) hb)
         have n12_ := Aside0.mk (blk_below (bk_ BK300.out) hb)
         have n13_ := Aside0.mk (blk_below (bk_ BK301.out) hb)
         have n14_ := Aside0.mk (blk_below (bk_ BK309.out) hb)
         have n15_ := Aside0.mk (blk_below (bk_ BK310.out) hb)
         have n16_ := Aside0.mk (blk_below (bk_ BK318.out) hb)
         have n17_ := Aside0.mk (blk_below (bk_ BK319.out) hb)
         have n18_ := Aside0.mk (blk_below (bk_ BK325.out) hb)
         have n19_ := Aside0.mk (blk_below (bk_ BK331.out) hb)
         have n20_ := Aside0.mk (blk_below (bk_ BK337.out) hb)
         have n21_ := Aside0.mk (below_step (bw_ HB.out) hb)
         clear HO_12
         clear HO_22
         clear HO_326002
         clear HO_332002
         clear HO_338002
         clear HO346
         clear HO351
         clear HO357
         clear HO362
         clear HO367
         clear BK291
         clear BK300
         clear BK301
         clear BK309
         clear BK310
         clear BK318
         clear BK319
         clear BK325
         clear BK331
         clear BK337
         clear HB
         have HO_12 := n0_
         have HO_22 := n1_
         have HO_326002 := n2_
         have HO_332002 := n3_
         have HO_338002 := n4_
         have HO346 := n5_
         have HO351 := n6_
         have HO357 := n7_
         have HO362 := n8_
         have HO367 := n9_
         have HO372 := n10_
         have BK291 := n11_
         have BK300 := n12_
         have BK301 := n13_
         have BK309 := n14_
         have BK310 := n15_
         have BK318 := n16_
         have BK319 := n17_
         have BK325 := n18_
         have BK331 := n19_
         have BK337 := n20_
         have HB := n21_
         clear n0_ n1_ n2_ n3_ n4_ n5_ n6_ n7_ n8_ n9_ n10_ n11_ n12_ n13_ n14_ n15_ n16_ n17_ n18_ n19_ n20_ n21_
         (try clear hb)
         (try clear hb2)
         (try clear hk)
         (try clear hi)
         (try clear ho0)
         obtain ⟨Ao134, co134, eo134⟩ := Kd.R_slice HO362.out
         (first | subst eo134 | (injection eo134 with f1_ f2_ f3_; have f4_ := f1_.symm; have f5_ := f3_.symm; clear f1_ f2_ f3_; subst f4_; subst f5_))
         obtain ⟨Ao135, co135, eo135⟩ := Kd.R_slice HO372.out
         (first | subst eo135 | (injection eo135 with f1_ f2_ f3_; have f4_ := f1_.symm; have f5_ := f3_.symm; clear f1_ f2_ f3_; subst f4_; subst f5_))
         refine hK.out _ _ ⟨(blk_cell BK301.out 0).trans rfl, (blk_cell BK301.out 1).trans rfl, (blk_cell BK325.out 0).trans rfl, (blk_cell BK325.out 1).trans rfl, (blk_cell BK325.out 2).trans rfl, (blk_cell BK331.out 0).trans rfl, (blk_cell BK331.out 1).trans rfl, (blk_cell BK331.out 2).trans rfl, (blk_cell BK337.out 0).trans rfl, (blk_cell BK337.out 1).trans rfl, (blk_cell BK337.out 2).trans rfl⟩ (fun hHeld => ?_)
         clear hK K
         refine norm_ (a' := ?_) ?_ ?_
         rotate_left
         ·show Act.put _ (some 95) _ = _
          simp only [Act.put, q1_, q2_, q3_, i64_w, i32_w]
          rfl
         refine one_ (i := 14) (N := some 96) #[true, true, true, true, true, true, true, true, true, true, true, true, true, true, true, false] rfl rfl (one_of HT_.out (by kernel_rfl)) (by decide) (fun K hK => ?_)
         refine goes_ Try.func14 (by kernel_rfl) rfl #[.agg #[.int .u64 t358, .int .i64 t359, .slice Ao134 t360.length co134], .agg #[.int .u64 t368, .int .i64 t369, .slice Ao135 t370.length co135]] (by rfl) rfl rfl (by (try simp only [List.map_toArray, List.map_cons, List.map_nil]); first | done | rfl | (simp only [List.length_drop, List.length_take]; rfl)) ?_
         with_reducible refine (gristmillref06_Same.calls k1 t358 t359 _ _ t360 t368 t369 _ _ t370 true _ ?side1 ?side2 ?side3 ?side4 A108.out).mono ?_
         (case side1 => repeat (first | exact (Kd.R_reads' HO362.out).2.2 | (with_reducible refine Kd.C_alloc ?_ _) | (with_reducible refine Kd.C_drewN ?_ _) | (with_reducible refine Kd.C_drew ?_)))
         (case side2 => exact (Kd.R_reads' HO362.out).2.1)
         (case side3 => repeat (first | exact (Kd.R_reads' HO372.out).2.2 | (with_reducible refine Kd.C_alloc ?_ _) | (with_reducible refine Kd.C_drewN ?_ _) | (with_reducible refine Kd.C_drew ?_)))
         (case side4 => exact (Kd.R_reads' HO372.out).2.1)
         rintro e w136 ⟨rfl, hb⟩
         refine ⟨_, rfl, ?_⟩
         have n0_ := Aside0.mk (Kd.N_below (by (with_reducible repeat (first | apply Kd.N_alloc | apply Kd.N_drewN | apply Kd.N_drew)); exact HO_12.out) hb)
         have n1_ := Aside0.mk (Kd.N_below (by (with_reducible repeat (first | apply Kd.N_alloc | apply Kd.N_drewN | apply Kd.N_drew)); exact HO_22.out) hb)
         have n2_ := Aside0.mk (Kd.R_below (by (with_reducible repeat (first | apply Kd.R_alloc | apply Kd.R_drewN | apply Kd.R_drew)); exact HO_326002.out) hb)
         have n3_ := Aside0.mk (Kd.R_below (by (with_reducible repeat (first | apply Kd.R_alloc | apply Kd.R_drewN | apply Kd.R_drew)); exact HO_332002.out) hb)
         have n4_ := Aside0.mk (Kd.R_below (by (with_reducible repeat (first | apply Kd.R_alloc | apply Kd.R_drewN | apply Kd.R_drew)); exact HO_338002.out) hb)
         have n5_ := Aside0.mk (Kd.R_below (by (with_reducible repeat (first | apply Kd.R_alloc | apply Kd.R_drewN | apply Kd.R_drew)); exact HO346.out) hb)
         have n6_ := Aside0.mk (Kd.R_below (by (with_reducible repeat (first | apply Kd.R_alloc | apply Kd.R_drewN | apply Kd.R_drew)); exact HO351.out) hb)
         have n7_ := Aside0.mk (Kd.R_below (by (with_reducible repeat (first | apply Kd.R_alloc | apply Kd.R_drewN | apply Kd.R_drew)); exact HO357.out) hb)
         have n8_ := Aside0.mk (Kd.R_below (by (with_reducible repeat (first | apply Kd.R_alloc | apply Kd.R_drewN | apply Kd.R_drew)); exact HO362.out) hb)
         have n9_ := Aside0.mk (Kd.R_below (by (with_reducible repeat (first | apply Kd.R_alloc | apply Kd.R_drewN | apply Kd.R_drew)); exact HO367.out) hb)
         have n10_ := Aside0.mk (Kd.R_below (by (with_reducible repeat (first | apply Kd.R_alloc | apply Kd.R_drewN | apply Kd.R_drew)); exact HO372.out) hb)
         have n11_ := Aside0.mk (blk_below (bk_ BK291.out) hb)
         have n12_ := Aside0.mk (blk_below (bk_ BK300.out) hb)
         have n13_ := Aside0.mk (blk_below (bk_ BK301.out) hb)
         have n14_ := Aside0.mk (blk_below (bk_ BK309.out) hb)
         have n15_ := Aside0.mk (blk_below (bk_ BK310.out) hb)
         have n16_ := Aside0.mk (blk_below (bk_ BK318.out) hb)
         have n17_ := Aside0.mk (blk_below (bk_ BK319.out) hb)
         have n18_ := Aside0.mk (blk_below (bk_ BK325.out) hb)
         have n19_ := Aside0.mk (blk_below (bk_ BK331.out) hb)
         have n20_ := Aside0.mk (blk_below (bk_ BK337.out) hb)
         have n21_ := Aside0.mk (below_step (bw_ HB.out) hb)
         clear HO_12
         clear HO_22
         clear HO_326002
         clear HO_332002
         clear HO_338002
         clear HO346
         clear HO351
         clear HO357
         clear HO362
         clear HO367
         clear HO372
         clear BK291
         clear BK300
         clear BK301
         clear BK309
         clear BK310
         clear BK318
         clear BK319
         clear BK325
         clear BK331
         clear BK337
         clear HB
         have HO_12 := n0_
         have HO_22 := n1_
         have HO_326002 := n2_
         have HO_332002 := n3_
         have HO_338002 := n4_
         have HO346 := n5_
         have HO351 := n6_
         have HO357 := n7_
         have HO362 := n8_
         have HO367 := n9_
         have HO372 := n10_
         have BK291 := n11_
         have BK300 := n12_
         have BK301 := n13_
         have BK309 := n14_
         have BK310 := n15_
         have BK318 := n16_
         have BK319 := n17_
         have BK325 := n18_
         have BK331 := n19_
         have BK337 := n20_
         have HB := n21_
         clear n0_ n1_ n2_ n3_ n4_ n5_ n6_ n7_ n8_ n9_ n10_ n11_ n12_ n13_ n14_ n15_ n16_ n17_ n18_ n19_ n20_ n21_
         (try clear hb)
         (try clear hb2)
         (try clear hk)
         (try clear hi)
         refine hK.out _ _ ⟨(blk_cell BK301.out 0).trans rfl, (blk_cell BK301.out 1).trans rfl, (blk_cell BK325.out 0).trans rfl, (blk_cell BK325.out 1).trans rfl, (blk_cell BK325.out 2).trans rfl, (blk_cell BK331.out 0).trans rfl, (blk_cell BK331.out 1).trans rfl, (blk_cell BK331.out 2).trans rfl, (blk_cell BK337.out 0).trans rfl, (blk_cell BK337.out 1).trans rfl, (blk_cell BK337.out 2).trans rfl⟩ (fun hHeld => ?_)
         clear hK K
         refine norm_ (a' := ?_) ?_ ?_
         rotate_left
         ·show Act.put _ (some 96) _ = _
          simp only [Act.put, q1_, q2_, q3_, i64_w, i32_w]
          rfl
         refine pure_ (i := 15) (N := some 25) (v := ?_) (a' := ?_) #[true, true, true, true, true, true, true, true, true, true, true, true, true, true, true, true] rfl rfl (any_of HT_.out (by kernel_rfl)) (fun _ _ _ h => h) (Or.inl ⟨by rfl, ?_⟩) ?_ ?_
         rotate_left
         ·intro w'
          go_simp
          with_reducible rfl
         rotate_left
         ·simp only [Act.put, q1_, q2_, q3_, i64_w, i32_w]
          rfl
         refine done_ (done_of HT_.out (by kernel_rfl)) ?_
         try go_wp2
         have n0_ := Aside0.mk (Kd.N_drew HO_12.out)
         have n1_ := Aside0.mk (Kd.N_drew HO_22.out)
         have n2_ := Aside0.mk (Kd.R_drew HO_326002.out)
         have n3_ := Aside0.mk (Kd.R_drew HO_332002.out)
         have n4_ := Aside0.mk (Kd.R_drew HO_338002.out)
         have n5_ := Aside0.mk (Kd.R_drew HO346.out)
         have n6_ := Aside0.mk (Kd.R_drew HO351.out)
         have n7_ := Aside0.mk (Kd.R_drew HO357.out)
         have n8_ := Aside0.mk (Kd.R_drew HO362.out)
         have n9_ := Aside0.mk (Kd.R_drew HO367.out)
         have n10_ := Aside0.mk (Kd.R_drew HO372.out)
         have n11_ := Aside0.mk (blk_drew BK291.out)
         have n12_ := Aside0.mk (blk_drew BK300.out)
         have n13_ := Aside0.mk (blk_drew BK301.out)
         have n14_ := Aside0.mk (blk_drew BK309.out)
         have n15_ := Aside0.mk (blk_drew BK310.out)
         have n16_ := Aside0.mk (blk_drew BK318.out)
         have n17_ := Aside0.mk (blk_drew BK319.out)
         have n18_ := Aside0.mk (blk_drew BK325.out)
         have n19_ := Aside0.mk (blk_drew BK331.out)
         have n20_ := Aside0.mk (blk_drew BK337.out)
         have n21_ := Aside0.mk (below_drew1 HB.out)
         clear HO_12
         clear HO_22
         clear HO_326002
         clear HO_332002
         clear HO_338002
         clear HO346
         clear HO351
         clear HO357
         clear HO362
         clear HO367
         clear HO372
         clear BK291
         clear BK300
         clear BK301
         clear BK309
         clear BK310
         clear BK318
         clear BK319
         clear BK325
         clear BK331
         clear BK337
         clear HB
         have HO_12 := n0_
         have HO_22 := n1_
         have HO_326002 := n2_
         have HO_332002 := n3_
         have HO_338002 := n4_
         have HO346 := n5_
         have HO351 := n6_
         have HO357 := n7_
         have HO362 := n8_
         have HO367 := n9_
         have HO372 := n10_
         have BK291 := n11_
         have BK300 := n12_
         have BK301 := n13_
         have BK309 := n14_
         have BK310 := n15_
         have BK318 := n16_
         have BK319 := n17_
         have BK325 := n18_
         have BK331 := n19_
         have BK337 := n20_
         have HB := n21_
         clear n0_ n1_ n2_ n3_ n4_ n5_ n6_ n7_ n8_ n9_ n10_ n11_ n12_ n13_ n14_ n15_ n16_ n17_ n18_ n19_ n20_ n21_
         obtain ⟨Ao138, co138, eo138⟩ := Kd.N_slice HO_22.out
         (first | subst eo138 | (injection eo138 with f1_ f2_ f3_; have f4_ := f1_.symm; have f5_ := f3_.symm; clear f1_ f2_ f3_; subst f4_; subst f5_))
         refine start_ (n := 30) (S := fun w' => w'.cell? ⟨gb301, 0, none⟩ = some (.int .i64 t295) ∧ w'.cell? ⟨gb301, 1, none⟩ = some (.int .i64 t296) ∧ w'.cell? ⟨gb325, 0, none⟩ = some (.int .u64 t320) ∧ w'.cell? ⟨gb325, 1, none⟩ = some (.int .i64 t321) ∧ w'.cell? ⟨gb325, 2, none⟩ = some (.slice Ao66 t322.length co66)) (ds := []) #[false, false, false, false, false, false, false, false, false, false, false, false, false, false, false, false, false, false, false, false, false, false, false, false, false, false, false, false, false, false] (by kernel_rfl) rfl rfl ⟨(blk_cell BK301.out 0).trans rfl, (blk_cell BK301.out 1).trans rfl, (blk_cell BK325.out 0).trans rfl, (blk_cell BK325.out 1).trans rfl, (blk_cell BK325.out 2).trans rfl⟩ (fun hHeld => ?_); refine with_tabW gristmilllaw06_AggTurns.tab17 gristmilllaw06_AggTurns.bits17 (fun HT_ HW_ => ?_)
         generalize w136.drew = w137 at HO_12 HO_22 HO_326002 HO_332002 HO_338002 HO346 HO351 HO357 HO362 HO367 HO372 BK291 BK300 BK301 BK309 BK310 BK318 BK319 BK325 BK331 BK337 HB hHeld ⊢
         refine pure_ (i := 0) (N := some 97) (v := ?_) (a' := ?_) #[true, false, false, false, false, false, false, false, false, false, false, false, false, false, false, false, false, false, false, false, false, false, false, false, false, false, false, false, false, false] rfl rfl (any_of HT_.out (by kernel_rfl)) (fun _ _ _ h => h) (Or.inl ⟨by rfl, ?_⟩) ?_ ?_
         rotate_left
         ·intro w'
          go_simp
          with_reducible rfl
         rotate_left
         ·simp only [Act.put, q1_, q2_, q3_, i64_w, i32_w]
          rfl
         refine pure_ (i := 1) (N := some 98) (v := ?_) (a' := ?_) #[true, true, false, false, false, false, false, false, false, false, false, false, false, false, false, false, false, false, false, false, false, false, false, false, false, false, false, false, false, false] rfl rfl (any_of HT_.out (by kernel_rfl)) (fun _ _ _ h => h) (Or.inl ⟨by rfl, ?_⟩) ?_ ?_
         rotate_left
         ·intro w'
          go_simp
          with_reducible rfl
         rotate_left
         ·simp only [Act.put, q1_, q2_, q3_, i64_w, i32_w]
          rfl
         refine pure_ (i := 2) (N := some 99) (v := ?_) (a' := ?_) #[true, true, true, false, false, false, false, false, false, false, false, false, false, false, false, false, false, false, false, false, false, false, false, false, false, false, false, false, false, false] rfl rfl (any_of HT_.out (by kernel_rfl)) (fun _ _ _ h => h) (Or.inl ⟨by rfl, ?_⟩) ?_ ?_
         rotate_left
         ·intro w'
          go_simp
          with_reducible rfl
         rotate_left
         ·simp only [Act.put, q1_, q2_, q3_, i64_w, i32_w]
          rfl
         refine pure_ (i := 3) (N := some 100) (v := ?_) (a' := ?_) #[true, true, true, true, false, false, false, false, false, false, false, false, false, false, false, false, false, false, false, false, false, false, false, false, false, false, false, false, false, false] rfl rfl (any_of HT_.out (by kernel_rfl)) (fun _ _ _ h => h) (Or.inl ⟨by rfl, ?_⟩) ?_ ?_
         rotate_left
         ·intro w'
          go_simp
          with_reducible rfl
         rotate_left
         ·simp only [Act.put, q1_, q2_, q3_, i64_w, i32_w]
          rfl
         refine pure_ (i := 4) (N := some 101) (v := ?_) (a' := ?_) #[true, true, true, true, true, false, false, false, false, false, false, false, false, false, false, false, false, false, false, false, false, false, false, false, false, false, false, false, false, false] rfl rfl (any_of HT_.out (by kernel_rfl)) (fun _ _ _ h => h) (Or.inl ⟨by rfl, ?_⟩) ?_ ?_
         rotate_left
         ·intro w'
          go_simp
          with_reducible rfl
         rotate_left
         ·simp only [Act.put, q1_, q2_, q3_, i64_w, i32_w]
          rfl
         refine pure_ (i := 6) (N := some 103) (v := ?_) (a' := ?_) #[true, true, true, true, true, false, true, false, false, false, false, false, false, false, false, false, false, false, false, false, false, false, false, false, false, false, false, false, false, false] rfl rfl (any_of HT_.out (by kernel_rfl)) (fun _ _ _ h => h) (Or.inl ⟨by rfl, ?_⟩) ?_ ?_
         rotate_left
         ·intro w'
          go_simp
          with_reducible rfl
         rotate_left
         ·simp only [Act.put, q1_, q2_, q3_, i64_w, i32_w]
          rfl
         refine take_ (i := 5) (N := some 102) (v := ?_) (a' := ?_) #[true, true, true, true, true, true, true, false, false, false, false, false, false, false, false, false, false, false, false, false, false, false, false, false, false, false, false, false, false, false] rfl rfl (take_ofW HT_.out HW_.out (by kernel_rfl)) (fun _ _ _ h => h) (Or.inl ⟨by rfl, ?_⟩) hHeld ?_ ?_
         rotate_left
         ·rintro w' ⟨s0, s1, s2, s3, s4⟩
          go_simp
          with_reducible rfl
         rotate_left
         ·simp only [Act.put, q1_, q2_, q3_, i64_w, i32_w]
          rfl
         refine take_ (i := 8) (N := some 105) (v := ?_) (a' := ?_) #[true, true, true, true, true, true, true, false, true, false, false, false, false, false, false, false, false, false, false, false, false, false, false, false, false, false, false, false, false, false] rfl rfl (take_ofW HT_.out HW_.out (by kernel_rfl)) (fun _ _ _ h => h) (Or.inl ⟨by rfl, ?_⟩) hHeld ?_ ?_
         rotate_left
         ·rintro w' ⟨s0, s1, s2, s3, s4⟩
          go_simp
          with_reducible rfl
         rotate_left
         ·simp only [Act.put, q1_, q2_, q3_, i64_w, i32_w]
          rfl
         refine one_ (i := 7) (N := some 104) #[true, true, true, true, true, true, true, true, true, false, false, false, false, false, false, false, false, false, false, false, false, false, false, false, false, false, false, false, false, false] rfl rfl (one_of HT_.out (by kernel_rfl)) (by decide) (fun K hK => ?_)
         refine goes_ Try.func12 (by kernel_rfl) rfl #[.agg #[.int .i64 t295, .int .i64 t296], .slice Ao138 x22_1.length co138] (by rfl) rfl rfl (by (try simp only [List.map_toArray, List.map_cons, List.map_nil]); first | done | rfl | (simp only [List.length_drop, List.length_take]; rfl)) ?_
         with_reducible refine (gristmilllaw06_of.calls k1 t295 t296 _ _ x22_1 t374 t375 t376 _ ?side1 ?side2 A111.out).mono ?_
         (case side1 => repeat (first | exact (Kd.N_reads' HO_22.out).2.2 | (with_reducible refine Kd.C_alloc ?_ _) | (with_reducible refine Kd.C_drewN ?_ _) | (with_reducible refine Kd.C_drew ?_)))
         (case side2 => exact (Kd.N_reads' HO_22.out).2.1)
         rintro e w139 ⟨v377, rfl, ho0, hb⟩
         refine ⟨_, rfl, ?_⟩
         have n0_ := Aside0.mk (Kd.N_elder' (by (with_reducible repeat (first | apply Kd.N_alloc | apply Kd.N_drewN | apply Kd.N_drew)); exact HO_12.out) (Kd.R_base ho0) hb)
         have n1_ := Aside0.mk (Kd.N_elder' (by (with_reducible repeat (first | apply Kd.N_alloc | apply Kd.N_drewN | apply Kd.N_drew)); exact HO_22.out) (Kd.R_base ho0) hb)
         have n2_ := Aside0.mk (Kd.R_elder' (by (with_reducible repeat (first | apply Kd.R_alloc | apply Kd.R_drewN | apply Kd.R_drew)); exact HO_326002.out) (Kd.R_base ho0) hb)
         have n3_ := Aside0.mk (Kd.R_elder' (by (with_reducible repeat (first | apply Kd.R_alloc | apply Kd.R_drewN | apply Kd.R_drew)); exact HO_332002.out) (Kd.R_base ho0) hb)
         have n4_ := Aside0.mk (Kd.R_elder' (by (with_reducible repeat (first | apply Kd.R_alloc | apply Kd.R_drewN | apply Kd.R_drew)); exact HO_338002.out) (Kd.R_base ho0) hb)
         have n5_ := Aside0.mk (Kd.R_elder' (by (with_reducible repeat (first | apply Kd.R_alloc | apply Kd.R_drewN | apply Kd.R_drew)); exact HO346.out) (Kd.R_base ho0) hb)
         have n6_ := Aside0.mk (Kd.R_elder' (by (with_reducible repeat (first | apply Kd.R_alloc | apply Kd.R_drewN | apply Kd.R_drew)); exact HO351.out) (Kd.R_base ho0) hb)
         have n7_ := Aside0.mk (Kd.R_elder' (by (with_reducible repeat (first | apply Kd.R_alloc | apply Kd.R_drewN | apply Kd.R_drew)); exact HO357.out) (Kd.R_base ho0) hb)
         have n8_ := Aside0.mk (Kd.R_elder' (by (with_reducible repeat (first | apply Kd.R_alloc | apply Kd.R_drewN | apply Kd.R_drew)); exact HO362.out) (Kd.R_base ho0) hb)
         have n9_ := Aside0.mk (Kd.R_elder' (by (with_reducible repeat (first | apply Kd.R_alloc | apply Kd.R_drewN | apply Kd.R_drew)); exact HO367.out) (Kd.R_base ho0) hb)
         have n10_ := Aside0.mk (Kd.R_elder' (by (with_reducible repeat (first | apply Kd.R_alloc | apply Kd.R_drewN | apply Kd.R_drew)); exact HO372.out) (Kd.R_base ho0) hb)
         have n11_ := Aside0.mk (Kd.R_lower (Kd.R_new' (Kd.R_new' (Kd.R_new' (Kd.R_new' (Kd.R_new' (Kd.R_new' (Kd.R_new' (Kd.R_new' (Kd.R_new' ho0 (Kd.R_lt (by (with_reducible repeat (first | apply Kd.R_alloc | apply Kd.R_drewN | apply Kd.R_drew)); exact HO_326002.out))) (Kd.R_lt (by (with_reducible repeat (first | apply Kd.R_alloc | apply Kd.R_drewN | apply Kd.R_drew)); exact HO_332002.out))) (Kd.R_lt (by (with_reducible repeat (first | apply Kd.R_alloc | apply Kd.R_drewN | apply Kd.R_drew)); exact HO_338002.out))) (Kd.R_lt (by (with_reducible repeat (first | apply Kd.R_alloc | apply Kd.R_drewN | apply Kd.R_drew)); exact HO346.out))) (Kd.R_lt (by (with_reducible repeat (first | apply Kd.R_alloc | apply Kd.R_drewN | apply Kd.R_drew)); exact HO351.out))) (Kd.R_lt (by (with_reducible repeat (first | apply Kd.R_alloc | apply Kd.R_drewN | apply Kd.R_drew)); exact HO357.out))) (Kd.R_lt (by (with_reducible repeat (first | apply Kd.R_alloc | apply Kd.R_drewN | apply Kd.R_drew)); exact HO362.out))) (Kd.R_lt (by (with_reducible repeat (first | apply Kd.R_alloc | apply Kd.R_drewN | apply Kd.R_drew)); exact HO367.out))) (Kd.R_lt (by (with_reducible repeat (first | apply Kd.R_alloc | apply Kd.R_drewN | apply Kd.R_drew)); exact HO372.out))) (below_size (bw_ HB.out)))
         have n12_ := Aside0.mk (blk_below (bk_ BK291.out) hb)
         have n13_ := Aside0.mk (blk_below (bk_ BK300.out) hb)
         have n14_ := Aside0.mk (blk_below (bk_ BK301.out) hb)
         have n15_ := Aside0.mk (blk_below (bk_ BK309.out) hb)
         have n16_ := Aside0.mk (blk_below (bk_ BK310.out) hb)
         have n17_ := Aside0.mk (blk_below (bk_ BK318.out) hb)
         have n18_ := Aside0.mk (blk_below (bk_ BK319.out) hb)
         have n19_ := Aside0.mk (blk_below (bk_ BK325.out) hb)
         have n20_ := Aside0.mk (blk_below (bk_ BK331.out) hb)
         have n21_ := Aside0.mk (blk_below (bk_ BK337.out) hb)
         have n22_ := Aside0.mk (below_step (bw_ HB.out) hb)
         clear HO_12
         clear HO_22
         clear HO_326002
         clear HO_332002
         clear HO_338002
         clear HO346
         clear HO351
         clear HO357
         clear HO362
         clear HO367
         clear HO372
         clear BK291
         clear BK300
         clear BK301
         clear BK309
         clear BK310
         clear BK318
         clear BK319
         clear BK325
         clear BK331
         clear BK337
         clear HB
         have HO_12 := n0_
         have HO_22 := n1_
         have HO_326002 := n2_
         have HO_332002 := n3_
         have HO_338002 := n4_
         have HO346 := n5_
         have HO351 := n6_
         have HO357 := n7_
         have HO362 := n8_
         have HO367 := n9_
         have HO372 := n10_
         have HO378 := n11_
         have BK291 := n12_
         have BK300 := n13_
         have BK301 := n14_
         have BK309 := n15_
         have BK310 := n16_
         have BK318 := n17_
         have BK319 := n18_
         have BK325 := n19_
         have BK331 := n20_
         have BK337 := n21_
         have HB := n22_
         clear n0_ n1_ n2_ n3_ n4_ n5_ n6_ n7_ n8_ n9_ n10_ n11_ n12_ n13_ n14_ n15_ n16_ n17_ n18_ n19_ n20_ n21_ n22_
         (try clear hb)
         (try clear hb2)
         (try clear hk)
         (try clear hi)
         (try clear ho0)
         obtain ⟨Ao140, co140, eo140⟩ := Kd.R_slice HO378.out
         (first | subst eo140 | (injection eo140 with f1_ f2_ f3_; have f4_ := f1_.symm; have f5_ := f3_.symm; clear f1_ f2_ f3_; subst f4_; subst f5_))
         refine hK.out _ _ ⟨(blk_cell BK301.out 0).trans rfl, (blk_cell BK301.out 1).trans rfl, (blk_cell BK325.out 0).trans rfl, (blk_cell BK325.out 1).trans rfl, (blk_cell BK325.out 2).trans rfl⟩ (fun hHeld => ?_)
         clear hK K
         refine norm_ (a' := ?_) ?_ ?_
         rotate_left
         ·show Act.put _ (some 104) _ = _
          simp only [Act.put, q1_, q2_, q3_, i64_w, i32_w]
          rfl
         refine one_ (i := 9) (N := some 106) #[true, true, true, true, true, true, true, true, true, true, false, false, false, false, false, false, false, false, false, false, false, false, false, false, false, false, false, false, false, false] rfl rfl (one_of HT_.out (by kernel_rfl)) (by decide) (fun K hK => ?_)
         refine goes_ Try.func14 (by kernel_rfl) rfl #[.agg #[.int .u64 t374, .int .i64 t375, .slice Ao140 t376.length co140], .agg #[.int .u64 t320, .int .i64 t321, .slice Ao66 t322.length co66]] (by rfl) rfl rfl (by (try simp only [List.map_toArray, List.map_cons, List.map_nil]); first | done | rfl | (simp only [List.length_drop, List.length_take]; rfl)) ?_
         with_reducible refine (gristmillref06_Same.calls k1 t374 t375 _ _ t376 t320 t321 _ _ t322 true _ ?side1 ?side2 ?side3 ?side4 A112.out).mono ?_
         (case side1 => repeat (first | exact (Kd.R_reads' HO378.out).2.2 | (with_reducible refine Kd.C_alloc ?_ _) | (with_reducible refine Kd.C_drewN ?_ _) | (with_reducible refine Kd.C_drew ?_)))
         (case side2 => exact (Kd.R_reads' HO378.out).2.1)
         (case side3 => repeat (first | exact (Kd.R_reads' HO_326002.out).2.2 | (with_reducible refine Kd.C_alloc ?_ _) | (with_reducible refine Kd.C_drewN ?_ _) | (with_reducible refine Kd.C_drew ?_)))
         (case side4 => exact (Kd.R_reads' HO_326002.out).2.1)
         rintro e w141 ⟨rfl, hb⟩
         refine ⟨_, rfl, ?_⟩
         have n0_ := Aside0.mk (Kd.N_below (by (with_reducible repeat (first | apply Kd.N_alloc | apply Kd.N_drewN | apply Kd.N_drew)); exact HO_12.out) hb)
         have n1_ := Aside0.mk (Kd.N_below (by (with_reducible repeat (first | apply Kd.N_alloc | apply Kd.N_drewN | apply Kd.N_drew)); exact HO_22.out) hb)
         have n2_ := Aside0.mk (Kd.R_below (by (with_reducible repeat (first | apply Kd.R_alloc | apply Kd.R_drewN | apply Kd.R_drew)); exact HO_326002.out) hb)
         have n3_ := Aside0.mk (Kd.R_below (by (with_reducible repeat (first | apply Kd.R_alloc | apply Kd.R_drewN | apply Kd.R_drew)); exact HO_332002.out) hb)
         have n4_ := Aside0.mk (Kd.R_below (by (with_reducible repeat (first | apply Kd.R_alloc | apply Kd.R_drewN | apply Kd.R_drew)); exact HO_338002.out) hb)
         have n5_ := Aside0.mk (Kd.R_below (by (with_reducible repeat (first | apply Kd.R_alloc | apply Kd.R_drewN | apply Kd.R_drew)); exact HO346.out) hb)
         have n6_ := Aside0.mk (Kd.R_below (by (with_reducible repeat (first | apply Kd.R_alloc | apply Kd.R_drewN | apply Kd.R_drew)); exact HO351.out) hb)
         have n7_ := Aside0.mk (Kd.R_below (by (with_reducible repeat (first | apply Kd.R_alloc | apply Kd.R_drewN | apply Kd.R_drew)); exact HO357.out) hb)
         have n8_ := Aside0.mk (Kd.R_below (by (with_reducible repeat (first | apply Kd.R_alloc | apply Kd.R_drewN | apply Kd.R_drew)); exact HO362.out) hb)
         have n9_ := Aside0.mk (Kd.R_below (by (with_reducible repeat (first | apply Kd.R_alloc | apply Kd.R_drewN | apply Kd.R_drew)); exact HO367.out) hb)
         have n10_ := Aside0.mk (Kd.R_below (by (with_reducible repeat (first | apply Kd.R_alloc | apply Kd.R_drewN | apply Kd.R_drew)); exact HO372.out) hb)
         have n11_ := Aside0.mk (Kd.R_below (by (with_reducible repeat (first | apply Kd.R_alloc | apply Kd.R_drewN | apply Kd.R_drew)); exact HO378.out) hb)
         have n12_ := Aside0.mk (blk_below (bk_ BK291.out) hb)
         have n13_ := Aside0.mk (blk_below (bk_ BK300.out) hb)
         have n14_ := Aside0.mk (blk_below (bk_ BK301.out) hb)
         have n15_ := Aside0.mk (blk_below (bk_ BK309.out) hb)
         have n16_ := Aside0.mk (blk_below (bk_ BK310.out) hb)
         have n17_ := Aside0.mk (blk_below (bk_ BK318.out) hb)
         have n18_ := Aside0.mk (blk_below (bk_ BK319.out) hb)
         have n19_ := Aside0.mk (blk_below (bk_ BK325.out) hb)
         have n20_ := Aside0.mk (blk_below (bk_ BK331.out) hb)
         have n21_ := Aside0.mk (blk_below (bk_ BK337.out) hb)
         have n22_ := Aside0.mk (below_step (bw_ HB.out) hb)
         clear HO_12
         clear HO_22
         clear HO_326002
         clear HO_332002
         clear HO_338002
         clear HO346
         clear HO351
         clear HO357
         clear HO362
         clear HO367
         clear HO372
         clear HO378
         clear BK291
         clear BK300
         clear BK301
         clear BK309
         clear BK310
         clear BK318
         clear BK319
         clear BK325
         clear BK331
         clear BK337
         clear HB
         have HO_12 := n0_
         have HO_22 := n1_
         have HO_326002 := n2_
         have HO_332002 := n3_
         have HO_338002 := n4_
         have HO346 := n5_
         have HO351 := n6_
         have HO357 := n7_
         have HO362 := n8_
         have HO367 := n9_
         have HO372 := n10_
         have HO378 := n11_
         have BK291 := n12_
         have BK300 := n13_
         have BK301 := n14_
         have BK309 := n15_
         have BK310 := n16_
         have BK318 := n17_
         have BK319 := n18_
         have BK325 := n19_
         have BK331 := n20_
         have BK337 := n21_
         have HB := n22_
         clear n0_ n1_ n2_ n3_ n4_ n5_ n6_ n7_ n8_ n9_ n10_ n11_ n12_ n13_ n14_ n15_ n16_ n17_ n18_ n19_ n20_ n21_ n22_
         (try clear hb)
         (try clear hb2)
         (try clear hk)
         (try clear hi)
         refine hK.out _ _ ⟨(blk_cell BK301.out 0).trans rfl, (blk_cell BK301.out 1).trans rfl, (blk_cell BK325.out 0).trans rfl, (blk_cell BK325.out 1).trans rfl, (blk_cell BK325.out 2).trans rfl⟩ (fun hHeld => ?_)
         clear hK K
         refine norm_ (a' := ?_) ?_ ?_
         rotate_left
         ·show Act.put _ (some 106) _ = _
          simp only [Act.put, q1_, q2_, q3_, i64_w, i32_w]
          rfl
         refine pure_ (i := 10) (N := some 107) (v := ?_) (a' := ?_) #[true, true, true, true, true, true, true, true, true, true, true, false, false, false, false, false, false, false, false, false, false, false, false, false, false, false, false, false, false, false] rfl rfl (any_of HT_.out (by kernel_rfl)) (fun _ _ _ h => h) (Or.inl ⟨by rfl, ?_⟩) ?_ ?_
         rotate_left
         ·intro w'
          go_simp
          with_reducible rfl
         rotate_left
         ·simp only [Act.put, q1_, q2_, q3_, i64_w, i32_w]
          rfl
         refine pure_ (i := 11) (N := some 108) (v := ?_) (a' := ?_) #[true, true, true, true, true, true, true, true, true, true, true, true, false, false, false, false, false, false, false, false, false, false, false, false, false, false, false, false, false, false] rfl rfl (any_of HT_.out (by kernel_rfl)) (fun _ _ _ h => h) (Or.inl ⟨by rfl, ?_⟩) ?_ ?_
         rotate_left
         ·intro w'
          go_simp
          with_reducible rfl
         rotate_left
         ·simp only [Act.put, q1_, q2_, q3_, i64_w, i32_w]
          rfl
         refine take_ (i := 12) (N := some 109) (v := ?_) (a' := ?_) #[true, true, true, true, true, true, true, true, true, true, true, true, true, false, false, false, false, false, false, false, false, false, false, false, false, false, false, false, false, false] rfl rfl (take_ofW HT_.out HW_.out (by kernel_rfl)) (fun _ _ _ h => h) (Or.inl ⟨by rfl, ?_⟩) hHeld ?_ ?_
         rotate_left
         ·rintro w' ⟨s0, s1, s2, s3, s4⟩
          go_simp
          with_reducible rfl
         rotate_left
         ·simp only [Act.put, q1_, q2_, q3_, i64_w, i32_w]
          rfl
         refine take_ (i := 13) (N := some 110) (v := ?_) (a' := ?_) #[true, true, true, true, true, true, true, true, true, true, true, true, true, true, false, false, false, false, false, false, false, false, false, false, false, false, false, false, false, false] rfl rfl (take_ofW HT_.out HW_.out (by kernel_rfl)) (fun _ _ _ h => h) (Or.inl ⟨by rfl, ?_⟩) hHeld ?_ ?_
         rotate_left
         ·rintro w' ⟨s0, s1, s2, s3, s4⟩
          go_simp
          with_reducible rfl
         rotate_left
         ·simp only [Act.put, q1_, q2_, q3_, i64_w, i32_w]
          rfl
         refine take_ (i := 14) (N := some 111) (v := ?_) (a' := ?_) #[true, true, true, true, true, true, true, true, true, true, true, true, true, true, true, false, false, false, false, false, false, false, false, false, false, false, false, false, false, false] rfl rfl (take_ofW HT_.out HW_.out (by kernel_rfl)) (fun _ _ _ h => h) (Or.inl ⟨by rfl, ?_⟩) hHeld ?_ ?_
         rotate_left
         ·rintro w' ⟨s0, s1, s2, s3, s4⟩
          go_simp
          with_reducible rfl
         rotate_left
         ·simp only [Act.put, q1_, q2_, q3_, i64_w, i32_w]
          rfl
         refine take_ (i := 17) (N := some 114) (v := ?_) (a' := ?_) #[true, true, true, true, true, true, true, true, true, true, true, true, true, true, true, false, false, true, false, false, false, false, false, false, false, false, false, false, false, false] rfl rfl (take_ofW HT_.out HW_.out (by kernel_rfl)) (fun _ _ _ h => h) (Or.inl ⟨by rfl, ?_⟩) hHeld ?_ ?_
         rotate_left
         ·rintro w' ⟨s0, s1, s2, s3, s4⟩
          go_simp
          with_reducible rfl
         rotate_left
         ·simp only [Act.put, q1_, q2_, q3_, i64_w, i32_w]
          rfl
         refine one_ (i := 15) (N := some 112) #[true, true, true, true, true, true, true, true, true, true, true, true, true, true, true, true, false, true, false, false, false, false, false, false, false, false, false, false, false, false] rfl rfl (one_of HT_.out (by kernel_rfl)) (by decide) (fun K hK => ?_)
         refine goes_ Try.func18 (by kernel_rfl) rfl #[.agg #[.int .i64 t295, .int .i64 t296]] (by rfl) rfl rfl (by (try simp only [List.map_toArray, List.map_cons, List.map_nil]); first | done | rfl | (simp only [List.length_drop, List.length_take]; rfl)) ?_
         with_reducible refine (agg_Start.calls t295 t296 t380 t381 t382 _ A114.out).mono ?_
         rintro e w142 ⟨v383, rfl, ho0, hb⟩
         refine ⟨_, rfl, ?_⟩
         have n0_ := Aside0.mk (Kd.N_elder' (by (with_reducible repeat (first | apply Kd.N_alloc | apply Kd.N_drewN | apply Kd.N_drew)); exact HO_12.out) (Kd.R_base ho0) hb)
         have n1_ := Aside0.mk (Kd.N_elder' (by (with_reducible repeat (first | apply Kd.N_alloc | apply Kd.N_drewN | apply Kd.N_drew)); exact HO_22.out) (Kd.R_base ho0) hb)
         have n2_ := Aside0.mk (Kd.R_elder' (by (with_reducible repeat (first | apply Kd.R_alloc | apply Kd.R_drewN | apply Kd.R_drew)); exact HO_326002.out) (Kd.R_base ho0) hb)
         have n3_ := Aside0.mk (Kd.R_elder' (by (with_reducible repeat (first | apply Kd.R_alloc | apply Kd.R_drewN | apply Kd.R_drew)); exact HO_332002.out) (Kd.R_base ho0) hb)
         have n4_ := Aside0.mk (Kd.R_elder' (by (with_reducible repeat (first | apply Kd.R_alloc | apply Kd.R_drewN | apply Kd.R_drew)); exact HO_338002.out) (Kd.R_base ho0) hb)
         have n5_ := Aside0.mk (Kd.R_elder' (by (with_reducible repeat (first | apply Kd.R_alloc | apply Kd.R_drewN | apply Kd.R_drew)); exact HO346.out) (Kd.R_base ho0) hb)
         have n6_ := Aside0.mk (Kd.R_elder' (by (with_reducible repeat (first | apply Kd.R_alloc | apply Kd.R_drewN | apply Kd.R_drew)); exact HO351.out) (Kd.R_base ho0) hb)
         have n7_ := Aside0.mk (Kd.R_elder' (by (with_reducible repeat (first | apply Kd.R_alloc | apply Kd.R_drewN | apply Kd.R_drew)); exact HO357.out) (Kd.R_base ho0) hb)
         have n8_ := Aside0.mk (Kd.R_elder' (by (with_reducible repeat (first | apply Kd.R_alloc | apply Kd.R_drewN | apply Kd.R_drew)); exact HO362.out) (Kd.R_base ho0) hb)
         have n9_ := Aside0.mk (Kd.R_elder' (by (with_reducible repeat (first | apply Kd.R_alloc | apply Kd.R_drewN | apply Kd.R_drew)); exact HO367.out) (Kd.R_base ho0) hb)
         have n10_ := Aside0.mk (Kd.R_elder' (by (with_reducible repeat (first | apply Kd.R_alloc | apply Kd.R_drewN | apply Kd.R_drew)); exact HO372.out) (Kd.R_base ho0) hb)
         have n11_ := Aside0.mk (Kd.R_elder' (by (with_reducible repeat (first | apply Kd.R_alloc | apply Kd.R_drewN | apply Kd.R_drew)); exact HO378.out) (Kd.R_base ho0) hb)
         have n12_ := Aside0.mk (Kd.R_lower (Kd.R_new' (Kd.R_new' (Kd.R_new' (Kd.R_new' (Kd.R_new' (Kd.R_new' (Kd.R_new' (Kd.R_new' (Kd.R_new' (Kd.R_new' ho0 (Kd.R_lt (by (with_reducible repeat (first | apply Kd.R_alloc | apply Kd.R_drewN | apply Kd.R_drew)); exact HO_326002.out))) (Kd.R_lt (by (with_reducible repeat (first | apply Kd.R_alloc | apply Kd.R_drewN | apply Kd.R_drew)); exact HO_332002.out))) (Kd.R_lt (by (with_reducible repeat (first | apply Kd.R_alloc | apply Kd.R_drewN | apply Kd.R_drew)); exact HO_338002.out))) (Kd.R_lt (by (with_reducible repeat (first | apply Kd.R_alloc | apply Kd.R_drewN | apply Kd.R_drew)); exact HO346.out))) (Kd.R_lt (by (with_reducible repeat (first | apply Kd.R_alloc | apply Kd.R_drewN | apply Kd.R_drew)); exact HO351.out))) (Kd.R_lt (by (with_reducible repeat (first | apply Kd.R_alloc | apply Kd.R_drewN | apply Kd.R_drew)); exact HO357.out))) (Kd.R_lt (by (with_reducible repeat (first | apply Kd.R_alloc | apply Kd.R_drewN | apply Kd.R_drew)); exact HO362.out))) (Kd.R_lt (by (with_reducible repeat (first | apply Kd.R_alloc | apply Kd.R_drewN | apply Kd.R_drew)); exact HO367.out))) (Kd.R_lt (by (with_reducible repeat (first | apply Kd.R_alloc | apply Kd.R_drewN | apply Kd.R_drew)); exact HO372.out))) (Kd.R_lt (by (with_reducible repeat (first | apply Kd.R_alloc | apply Kd.R_drewN | apply Kd.R_drew)); exact HO378.out))) (below_size (bw_ HB.out)))
         have n13_ := Aside0.mk (blk_below (bk_ BK291.out) hb)
         have n14_ := Aside0.mk (blk_below (bk_ BK300.out) hb)
         have n15_ := Aside0.mk (blk_below (bk_ BK301.out) hb)
         have n16_ := Aside0.mk (blk_below (bk_ BK309.out) hb)
         have n17_ := Aside0.mk (blk_below (bk_ BK310.out) hb)
         have n18_ := Aside0.mk (blk_below (bk_ BK318.out) hb)
         have n19_ := Aside0.mk (blk_below (bk_ BK319.out) hb)
         have n20_ := Aside0.mk (blk_below (bk_ BK325.out) hb)
         have n21_ := Aside0.mk (blk_below (bk_ BK331.out) hb)
         have n22_ := Aside0.mk (blk_below (bk_ BK337.out) hb)
         have n23_ := Aside0.mk (below_step (bw_ HB.out) hb)
         clear HO_12
         clear HO_22
         clear HO_326002
         clear HO_332002
         clear HO_338002
         clear HO346
         clear HO351
         clear HO357
         clear HO362
         clear HO367
         clear HO372
         clear HO378
         clear BK291
         clear BK300
         clear BK301
         clear BK309
         clear BK310
         clear BK318
         clear BK319
         clear BK325
         clear BK331
         clear BK337
         clear HB
         have HO_12 := n0_
         have HO_22 := n1_
         have HO_326002 := n2_
         have HO_332002 := n3_
         have HO_338002 := n4_
         have HO346 := n5_
         have HO351 := n6_
         have HO357 := n7_
         have HO362 := n8_
         have HO367 := n9_
         have HO372 := n10_
         have HO378 := n11_
         have HO384 := n12_
         have BK291 := n13_
         have BK300 := n14_
         have BK301 := n15_
         have BK309 := n16_
         have BK310 := n17_
         have BK318 := n18_
         have BK319 := n19_
         have BK325 := n20_
         have BK331 := n21_
         have BK337 := n22_
         have HB := n23_
         clear n0_ n1_ n2_ n3_ n4_ n5_ n6_ n7_ n8_ n9_ n10_ n11_ n12_ n13_ n14_ n15_ n16_ n17_ n18_ n19_ n20_ n21_ n22_ n23_
         (try clear hb)
         (try clear hb2)
         (try clear hk)
         (try clear hi)
         (try clear ho0)
         obtain ⟨Ao143, co143, eo143⟩ := Kd.R_slice HO384.out
         (first | subst eo143 | (injection eo143 with f1_ f2_ f3_; have f4_ := f1_.symm; have f5_ := f3_.symm; clear f1_ f2_ f3_; subst f4_; subst f5_))
         refine hK.out _ _ ⟨(blk_cell BK301.out 0).trans rfl, (blk_cell BK301.out 1).trans rfl, (blk_cell BK325.out 0).trans rfl, (blk_cell BK325.out 1).trans rfl, (blk_cell BK325.out 2).trans rfl⟩ (fun hHeld => ?_)
         clear hK K
         refine norm_ (a' := ?_) ?_ ?_
         rotate_left
         ·show Act.put _ (some 112) _ = _
          simp only [Act.put, q1_, q2_, q3_, i64_w, i32_w]
          rfl
         refine one_ (i := 16) (N := some 113) #[true, true, true, true, true, true, true, true, true, true, true, true, true, true, true, true, true, true, false, false, false, false, false, false, false, false, false, false, false, false] rfl rfl (one_of HT_.out (by kernel_rfl)) (by decide) (fun K hK => ?_)
         refine goes_ Try.func17 (by kernel_rfl) rfl #[.agg #[.int .i64 t295, .int .i64 t296], .agg #[.int .u64 t320, .int .i64 t321, .slice Ao66 t322.length co66], .agg #[.int .u64 t380, .int .i64 t381, .slice Ao143 t382.length co143]] (by rfl) rfl rfl (by (try simp only [List.map_toArray, List.map_cons, List.map_nil]); first | done | rfl | (simp only [List.length_drop, List.length_take]; rfl)) ?_
         with_reducible refine (agg_Merge.calls t295 t296 t320 t321 _ _ t322 t380 t381 _ _ t382 t385 t386 t387 _ ?side1 ?side2 ?side3 ?side4 A115.out).mono ?_
         (case side1 => repeat (first | exact (Kd.R_reads' HO_326002.out).2.2 | (with_reducible refine Kd.C_alloc ?_ _) | (with_reducible refine Kd.C_drewN ?_ _) | (with_reducible refine Kd.C_drew ?_)))
         (case side2 => exact (Kd.R_reads' HO_326002.out).2.1)
         (case side3 => repeat (first | exact (Kd.R_reads' HO384.out).2.2 | (with_reducible refine Kd.C_alloc ?_ _) | (with_reducible refine Kd.C_drewN ?_ _) | (with_reducible refine Kd.C_drew ?_)))
         (case side4 => exact (Kd.R_reads' HO384.out).2.1)
         rintro e w144 ⟨v388, rfl, ho0, hb⟩
         refine ⟨_, rfl, ?_⟩
         have n0_ := Aside0.mk (Kd.N_elder' (by (with_reducible repeat (first | apply Kd.N_alloc | apply Kd.N_drewN | apply Kd.N_drew)); exact HO_12.out) (Kd.R_base ho0) hb)
         have n1_ := Aside0.mk (Kd.N_elder' (by (with_reducible repeat (first | apply Kd.N_alloc | apply Kd.N_drewN | apply Kd.N_drew)); exact HO_22.out) (Kd.R_base ho0) hb)
         have n2_ := Aside0.mk (Kd.R_elder' (by (with_reducible repeat (first | apply Kd.R_alloc | apply Kd.R_drewN | apply Kd.R_drew)); exact HO_326002.out) (Kd.R_base ho0) hb)
         have n3_ := Aside0.mk (Kd.R_elder' (by (with_reducible repeat (first | apply Kd.R_alloc | apply Kd.R_drewN | apply Kd.R_drew)); exact HO_332002.out) (Kd.R_base ho0) hb)
         have n4_ := Aside0.mk (Kd.R_elder' (by (with_reducible repeat (first | apply Kd.R_alloc | apply Kd.R_drewN | apply Kd.R_drew)); exact HO_338002.out) (Kd.R_base ho0) hb)
         have n5_ := Aside0.mk (Kd.R_elder' (by (with_reducible repeat (first | apply Kd.R_alloc | apply Kd.R_drewN | apply Kd.R_drew)); exact HO346.out) (Kd.R_base ho0) hb)
         have n6_ := Aside0.mk (Kd.R_elder' (by (with_reducible repeat (first | apply Kd.R_alloc | apply Kd.R_drewN | apply Kd.R_drew)); exact HO351.out) (Kd.R_base ho0) hb)
         have n7_ := Aside0.mk (Kd.R_elder' (by (with_reducible repeat (first | apply Kd.R_alloc | apply Kd.R_drewN | apply Kd.R_drew)); exact HO357.out) (Kd.R_base ho0) hb)
         have n8_ := Aside0.mk (Kd.R_elder' (by (with_reducible repeat (first | apply Kd.R_alloc | apply Kd.R_drewN | apply Kd.R_drew)); exact HO362.out) (Kd.R_base ho0) hb)
         have n9_ := Aside0.mk (Kd.R_elder' (by (with_reducible repeat (first | apply Kd.R_alloc | apply Kd.R_drewN | apply Kd.R_drew)); exact HO367.out) (Kd.R_base ho0) hb)
         have n10_ := Aside0.mk (Kd.R_elder' (by (with_reducible repeat (first | apply Kd.R_alloc | apply Kd.R_drewN | apply Kd.R_drew)); exact HO372.out) (Kd.R_base ho0) hb)
         have n11_ := Aside0.mk (Kd.R_elder' (by (with_reducible repeat (first | apply Kd.R_alloc | apply Kd.R_drewN | apply Kd.R_drew)); exact HO378.out) (Kd.R_base ho0) hb)
         have n12_ := Aside0.mk (Kd.R_elder' (by (with_reducible repeat (first | apply Kd.R_alloc | apply Kd.R_drewN | apply Kd.R_drew)); exact HO384.out) (Kd.R_base ho0) hb)
         have n13_ := Aside0.mk (Kd.R_lower (Kd.R_new' (Kd.R_new' (Kd.R_new' (Kd.R_new' (Kd.R_new' (Kd.R_new' (Kd.R_new' (Kd.R_new' (Kd.R_new' (Kd.R_new' (Kd.R_new' ho0 (Kd.R_lt (by (with_reducible repeat (first | apply Kd.R_alloc | apply Kd.R_drewN | apply Kd.R_drew)); exact HO_326002.out))) (Kd.R_lt (by (with_reducible repeat (first | apply Kd.R_alloc | apply Kd.R_drewN | apply Kd.R_drew)); exact HO_332002.out))) (Kd.R_lt (by (with_reducible repeat (first | apply Kd.R_alloc | apply Kd.R_drewN | apply Kd.R_drew)); exact HO_338002.out))) (Kd.R_lt (by (with_reducible repeat (first | apply Kd.R_alloc | apply Kd.R_drewN | apply Kd.R_drew)); exact HO346.out))) (Kd.R_lt (by (with_reducible repeat (first | apply Kd.R_alloc | apply Kd.R_drewN | apply Kd.R_drew)); exact HO351.out))) (Kd.R_lt (by (with_reducible repeat (first | apply Kd.R_alloc | apply Kd.R_drewN | apply Kd.R_drew)); exact HO357.out))) (Kd.R_lt (by (with_reducible repeat (first | apply Kd.R_alloc | apply Kd.R_drewN | apply Kd.R_drew)); exact HO362.out))) (Kd.R_lt (by (with_reducible repeat (first | apply Kd.R_alloc | apply Kd.R_drewN | apply Kd.R_drew)); exact HO367.out))) (Kd.R_lt (by (with_reducible repeat (first | apply Kd.R_alloc | apply Kd.R_drewN | apply Kd.R_drew)); exact HO372.out))) (Kd.R_lt (by (with_reducible repeat (first | apply Kd.R_alloc | apply Kd.R_drewN | apply Kd.R_drew)); exact HO378.out))) (Kd.R_lt (by (with_reducible repeat (first | apply Kd.R_alloc | apply Kd.R_drewN | apply Kd.R_drew)); exact HO384.out))) (below_size (bw_ HB.out)))
         have n14_ := Aside0.mk (blk_below (bk_ BK291.out) hb)
         have n15_ := Aside0.mk (blk_below (bk_ BK300.out) hb)
         have n16_ := Aside0.mk (blk_below (bk_ BK301.out) hb)
         have n17_ := Aside0.mk (blk_below (bk_ BK309.out) hb)
         have n18_ := Aside0.mk (blk_below (bk_ BK310.out) hb)
         have n19_ := Aside0.mk (blk_below (bk_ BK318.out) hb)
         have n20_ := Aside0.mk (blk_below (bk_ BK319.out) hb)
         have n21_ := Aside0.mk (blk_below (bk_ BK325.out) hb)
         have n22_ := Aside0.mk (blk_below (bk_ BK331.out) hb)
         have n23_ := Aside0.mk (blk_below (bk_ BK337.out) hb)
         have n24_ := Aside0.mk (below_step (bw_ HB.out) hb)
         clear HO_12
         clear HO_22
         clear HO_326002
         clear HO_332002
         clear HO_338002
         clear HO346
         clear HO351
         clear HO357
         clear HO362
         clear HO367
         clear HO372
         clear HO378
         clear HO384
         clear BK291
         clear BK300
         clear BK301
         clear BK309
         clear BK310
         clear BK318
         clear BK319
         clear BK325
         clear BK331
         clear BK337
         clear HB
         have HO_12 := n0_
         have HO_22 := n1_
         have HO_326002 := n2_
         have HO_332002 := n3_
         have HO_338002 := n4_
         have HO346 := n5_
         have HO351 := n6_
         have HO357 := n7_
         have HO362 := n8_
         have HO367 := n9_
         have HO372 := n10_
         have HO378 := n11_
         have HO384 := n12_
         have HO389 := n13_
         have BK291 := n14_
         have BK300 := n15_
         have BK301 := n16_
         have BK309 := n17_
         have BK310 := n18_
         have BK318 := n19_
         have BK319 := n20_
         have BK325 := n21_
         have BK331 := n22_
         have BK337 := n23_
         have HB := n24_
         clear n0_ n1_ n2_ n3_ n4_ n5_ n6_ n7_ n8_ n9_ n10_ n11_ n12_ n13_ n14_ n15_ n16_ n17_ n18_ n19_ n20_ n21_ n22_ n23_ n24_
         (try clear hb)
         (try clear hb2)
         (try clear hk)
         (try clear hi)
         (try clear ho0)
         obtain ⟨Ao145, co145, eo145⟩ := Kd.R_slice HO389.out
         (first | subst eo145 | (injection eo145 with f1_ f2_ f3_; have f4_ := f1_.symm; have f5_ := f3_.symm; clear f1_ f2_ f3_; subst f4_; subst f5_))
         refine hK.out _ _ ⟨(blk_cell BK301.out 0).trans rfl, (blk_cell BK301.out 1).trans rfl, (blk_cell BK325.out 0).trans rfl, (blk_cell BK325.out 1).trans rfl, (blk_cell BK325.out 2).trans rfl⟩ (fun hHeld => ?_)
         clear hK K
         refine norm_ (a' := ?_) ?_ ?_
         rotate_left
         ·show Act.put _ (some 113) _ = _
          simp only [Act.put, q1_, q2_, q3_, i64_w, i32_w]
          rfl
         refine one_ (i := 18) (N := some 115) #[true, true, true, true, true, true, true, true, true, true, true, true, true, true, true, true, true, true, true, false, false, false, false, false, false, false, false, false, false, false] rfl rfl (one_of HT_.out (by kernel_rfl)) (by decide) (fun K hK => ?_)
         refine goes_ Try.func14 (by kernel_rfl) rfl #[.agg #[.int .u64 t385, .int .i64 t386, .slice Ao145 t387.length co145], .agg #[.int .u64 t320, .int .i64 t321, .slice Ao66 t322.length co66]] (by rfl) rfl rfl (by (try simp only [List.map_toArray, List.map_cons, List.map_nil]); first | done | rfl | (simp only [List.length_drop, List.length_take]; rfl)) ?_
         with_reducible refine (gristmillref06_Same.calls k1 t385 t386 _ _ t387 t320 t321 _ _ t322 true _ ?side1 ?side2 ?side3 ?side4 A116.out).mono ?_
         (case side1 => repeat (first | exact (Kd.R_reads' HO389.out).2.2 | (with_reducible refine Kd.C_alloc ?_ _) | (with_reducible refine Kd.C_drewN ?_ _) | (with_reducible refine Kd.C_drew ?_)))
         (case side2 => exact (Kd.R_reads' HO389.out).2.1)
         (case side3 => repeat (first | exact (Kd.R_reads' HO_326002.out).2.2 | (with_reducible refine Kd.C_alloc ?_ _) | (with_reducible refine Kd.C_drewN ?_ _) | (with_reducible refine Kd.C_drew ?_)))
         (case side4 => exact (Kd.R_reads' HO_326002.out).2.1)
         rintro e w146 ⟨rfl, hb⟩
         refine ⟨_, rfl, ?_⟩
         have n0_ := Aside0.mk (Kd.N_below (by (with_reducible repeat (first | apply Kd.N_alloc | apply Kd.N_drewN | apply Kd.N_drew)); exact HO_12.out) hb)
         have n1_ := Aside0.mk (Kd.N_below (by (with_reducible repeat (first | apply Kd.N_alloc | apply Kd.N_drewN | apply Kd.N_drew)); exact HO_22.out) hb)
         have n2_ := Aside0.mk (Kd.R_below (by (with_reducible repeat (first | apply Kd.R_alloc | apply Kd.R_drewN | apply Kd.R_drew)); exact HO_326002.out) hb)
         have n3_ := Aside0.mk (Kd.R_below (by (with_reducible repeat (first | apply Kd.R_alloc | apply Kd.R_drewN | apply Kd.R_drew)); exact HO_332002.out) hb)
         have n4_ := Aside0.mk (Kd.R_below (by (with_reducible repeat (first | apply Kd.R_alloc | apply Kd.R_drewN | apply Kd.R_drew)); exact HO_338002.out) hb)
         have n5_ := Aside0.mk (Kd.R_below (by (with_reducible repeat (first | apply Kd.R_alloc | apply Kd.R_drewN | apply Kd.R_drew)); exact HO346.out) hb)
         have n6_ := Aside0.mk (Kd.R_below (by (with_reducible repeat (first | apply Kd.R_alloc | apply Kd.R_drewN | apply Kd.R_drew)); exact HO351.out) hb)
         have n7_ := Aside0.mk (Kd.R_below (by (with_reducible repeat (first | apply Kd.R_alloc | apply Kd.R_drewN | apply Kd.R_drew)); exact HO357.out) hb)
         have n8_ := Aside0.mk (Kd.R_below (by (with_reducible repeat (first | apply Kd.R_alloc | apply Kd.R_drewN | apply Kd.R_drew)); exact HO362.out) hb)
         have n9_ := Aside0.mk (Kd.R_below (by (with_reducible repeat (first | apply Kd.R_alloc | apply Kd.R_drewN | apply Kd.R_drew)); exact HO367.out) hb)
         have n10_ := Aside0.mk (Kd.R_below (by (with_reducible repeat (first | apply Kd.R_alloc | apply Kd.R_drewN | apply Kd.R_drew)); exact HO372.out) hb)
         have n11_ := Aside0.mk (Kd.R_below (by (with_reducible repeat (first | apply Kd.R_alloc | apply Kd.R_drewN | apply Kd.R_drew)); exact HO378.out) hb)
         have n12_ := Aside0.mk (Kd.R_below (by (with_reducible repeat (first | apply Kd.R_alloc | apply Kd.R_drewN | apply Kd.R_drew)); exact HO384.out) hb)
         have n13_ := Aside0.mk (Kd.R_below (by (with_reducible repeat (first | apply Kd.R_alloc | apply Kd.R_drewN | apply Kd.R_drew)); exact HO389.out) hb)
         have n14_ := Aside0.mk (blk_below (bk_ BK291.out) hb)
         have n15_ := Aside0.mk (blk_below (bk_ BK300.out) hb)
         have n16_ := Aside0.mk (blk_below (bk_ BK301.out) hb)
         have n17_ := Aside0.mk (blk_below (bk_ BK309.out) hb)
         have n18_ := Aside0.mk (blk_below (bk_ BK310.out) hb)
         have n19_ := Aside0.mk (blk_below (bk_ BK318.out) hb)
         have n20_ := Aside0.mk (blk_below (bk_ BK319.out) hb)
         have n21_ := Aside0.mk (blk_below (bk_ BK325.out) hb)
         have n22_ := Aside0.mk (blk_below (bk_ BK331.out) hb)
         have n23_ := Aside0.mk (blk_below (bk_ BK337.out) hb)
         have n24_ := Aside0.mk (below_step (bw_ HB.out) hb)
         clear HO_12
         clear HO_22
         clear HO_326002
         clear HO_332002
         clear HO_338002
         clear HO346
         clear HO351
         clear HO357
         clear HO362
         clear HO367
         clear HO372
         clear HO378
         clear HO384
         clear HO389
         clear BK291
         clear BK300
         clear BK301
         clear BK309
         clear BK310
         clear BK318
         clear BK319
         clear BK325
         clear BK331
         clear BK337
         clear HB
         have HO_12 := n0_
         have HO_22 := n1_
         have HO_326002 := n2_
         have HO_332002 := n3_
         have HO_338002 := n4_
         have HO346 := n5_
         have HO351 := n6_
         have HO357 := n7_
         have HO362 := n8_
         have HO367 := n9_
         have HO372 := n10_
         have HO378 := n11_
         have HO384 := n12_
         have HO389 := n13_
         have BK291 := n14_
         have BK300 := n15_
         have BK301 := n16_
         have BK309 := n17_
         have BK310 := n18_
         have BK318 := n19_
         have BK319 := n20_
         have BK325 := n21_
         have BK331 := n22_
         have BK337 := n23_
         have HB := n24_
         clear n0_ n1_ n2_ n3_ n4_ n5_ n6_ n7_ n8_ n9_ n10_ n11_ n12_ n13_ n14_ n15_ n16_ n17_ n18_ n19_ n20_ n21_ n22_ n23_ n24_
         (try clear hb)
         (try clear hb2)
         (try clear hk)
         (try clear hi)
         refine hK.out _ _ ⟨(blk_cell BK301.out 0).trans rfl, (blk_cell BK301.out 1).trans rfl, (blk_cell BK325.out 0).trans rfl, (blk_cell BK325.out 1).trans rfl, (blk_cell BK325.out 2).trans rfl⟩ (fun hHeld => ?_)
         clear hK K
         refine norm_ (a' := ?_) ?_ ?_
         rotate_left
         ·show Act.put _ (some 115) _ = _
          simp only [Act.put, q1_, q2_, q3_, i64_w, i32_w]
          rfl
         refine pure_ (i := 19) (N := some 116) (v := ?_) (a' := ?_) #[true, true, true, true, true, true, true, true, true, true, true, true, true, true, true, true, true, true, true, true, false, false, false, false, false, false, false, false, false, false] rfl rfl (any_of HT_.out (by kernel_rfl)) (fun _ _ _ h => h) (Or.inl ⟨by rfl, ?_⟩) ?_ ?_
         rotate_left
         ·intro w'
          go_simp
          with_reducible rfl
         rotate_left
         ·simp only [Act.put, q1_, q2_, q3_, i64_w, i32_w]
          rfl
         refine pure_ (i := 20) (N := some 117) (v := ?_) (a' := ?_) #[true, true, true, true, true, true, true, true, true, true, true, true, true, true, true, true, true, true, true, true, true, false, false, false, false, false, false, false, false, false] rfl rfl (any_of HT_.out (by kernel_rfl)) (fun _ _ _ h => h) (Or.inl ⟨by rfl, ?_⟩) ?_ ?_
         rotate_left
         ·intro w'
          go_simp
          with_reducible rfl
         rotate_left
         ·simp only [Act.put, q1_, q2_, q3_, i64_w, i32_w]
          rfl
         refine take_ (i := 21) (N := some 118) (v := ?_) (a' := ?_) #[true, true, true, true, true, true, true, true, true, true, true, true, true, true, true, true, true, true, true, true, true, true, false, false, false, false, false, false, false, false] rfl rfl (take_ofW HT_.out HW_.out (by kernel_rfl)) (fun _ _ _ h => h) (Or.inl ⟨by rfl, ?_⟩) hHeld ?_ ?_
         rotate_left
         ·rintro w' ⟨s0, s1, s2, s3, s4⟩
          go_simp
          with_reducible rfl
         rotate_left
         ·simp only [Act.put, q1_, q2_, q3_, i64_w, i32_w]
          rfl
         refine take_ (i := 22) (N := some 119) (v := ?_) (a' := ?_) #[true, true, true, true, true, true, true, true, true, true, true, true, true, true, true, true, true, true, true, true, true, true, true, false, false, false, false, false, false, false] rfl rfl (take_ofW HT_.out HW_.out (by kernel_rfl)) (fun _ _ _ h => h) (Or.inl ⟨by rfl, ?_⟩) hHeld ?_ ?_
         rotate_left
         ·rintro w' ⟨s0, s1, s2, s3, s4⟩
          go_simp
          with_reducible rfl
         rotate_left
         ·simp only [Act.put, q1_, q2_, q3_, i64_w, i32_w]
          rfl
         refine take_ (i := 24) (N := some 121) (v := ?_) (a' := ?_) #[true, true, true, true, true, true, true, true, true, true, true, true, true, true, true, true, true, true, true, true, true, true, true, false, true, false, false, false, false, false] rfl rfl (take_ofW HT_.out HW_.out (by kernel_rfl)) (fun _ _ _ h => h) (Or.inl ⟨by rfl, ?_⟩) hHeld ?_ ?_
         rotate_left
         ·rintro w' ⟨s0, s1, s2, s3, s4⟩
          go_simp
          with_reducible rfl
         rotate_left
         ·simp only [Act.put, q1_, q2_, q3_, i64_w, i32_w]
          rfl
         refine take_ (i := 26) (N := some 123) (v := ?_) (a' := ?_) #[true, true, true, true, true, true, true, true, true, true, true, true, true, true, true, true, true, true, true, true, true, true, true, false, true, false, true, false, false, false] rfl rfl (take_ofW HT_.out HW_.out (by kernel_rfl)) (fun _ _ _ h => h) (Or.inl ⟨by rfl, ?_⟩) hHeld ?_ ?_
         rotate_left
         ·rintro w' ⟨s0, s1, s2, s3, s4⟩
          go_simp
          with_reducible rfl
         rotate_left
         ·simp only [Act.put, q1_, q2_, q3_, i64_w, i32_w]
          rfl
         refine one_ (i := 23) (N := some 120) #[true, true, true, true, true, true, true, true, true, true, true, true, true, true, true, true, true, true, true, true, true, true, true, true, true, false, true, false, false, false] rfl rfl (one_of HT_.out (by kernel_rfl)) (by decide) (fun K hK => ?_)
         refine goes_ Try.func18 (by kernel_rfl) rfl #[.agg #[.int .i64 t295, .int .i64 t296]] (by rfl) rfl rfl (by (try simp only [List.map_toArray, List.map_cons, List.map_nil]); first | done | rfl | (simp only [List.length_drop, List.length_take]; rfl)) ?_
         with_reducible refine (agg_Start.calls t295 t296 t391 t392 t393 _ A118.out).mono ?_
         rintro e w147 ⟨v394, rfl, ho0, hb⟩
         refine ⟨_, rfl, ?_⟩
         have n0_ := Aside0.mk (Kd.N_elder' (by (with_reducible repeat (first | apply Kd.N_alloc | apply Kd.N_drewN | apply Kd.N_drew)); exact HO_12.out) (Kd.R_base ho0) hb)
         have n1_ := Aside0.mk (Kd.N_elder' (by (with_reducible repeat (first | apply Kd.N_alloc | apply Kd.N_drewN | apply Kd.N_drew)); exact HO_22.out) (Kd.R_base ho0) hb)
         have n2_ := Aside0.mk (Kd.R_elder' (by (with_reducible repeat (first | apply Kd.R_alloc | apply Kd.R_drewN | apply Kd.R_drew)); exact HO_326002.out) (Kd.R_base ho0) hb)
         have n3_ := Aside0.mk (Kd.R_elder' (by (with_reducible repeat (first | apply Kd.R_alloc | apply Kd.R_drewN | apply Kd.R_drew)); exact HO_332002.out) (Kd.R_base ho0) hb)
         have n4_ := Aside0.mk (Kd.R_elder' (by (with_reducible repeat (first | apply Kd.R_alloc | apply Kd.R_drewN | apply Kd.R_drew)); exact HO_338002.out) (Kd.R_base ho0) hb)
         have n5_ := Aside0.mk (Kd.R_elder' (by (with_reducible repeat (first | apply Kd.R_alloc | apply Kd.R_drewN | apply Kd.R_drew)); exact HO346.out) (Kd.R_base ho0) hb)
         have n6_ := Aside0.mk (Kd.R_elder' (by (with_reducible repeat (first | apply Kd.R_alloc | apply Kd.R_drewN | apply Kd.R_drew)); exact HO351.out) (Kd.R_base ho0) hb)
         have n7_ := Aside0.mk (Kd.R_elder' (by (with_reducible repeat (first | apply Kd.R_alloc | apply Kd.R_drewN | apply Kd.R_drew)); exact HO357.out) (Kd.R_base ho0) hb)
         have n8_ := Aside0.mk (Kd.R_elder' (by (with_reducible repeat (first | apply Kd.R_alloc | apply Kd.R_drewN | apply Kd.R_drew)); exact HO362.out) (Kd.R_base ho0) hb)
         have n9_ := Aside0.mk (Kd.R_elder' (by (with_reducible repeat (first | apply Kd.R_alloc | apply Kd.R_drewN | apply Kd.R_drew)); exact HO367.out) (Kd.R_base ho0) hb)
         have n10_ := Aside0.mk (Kd.R_elder' (by (with_reducible repeat (first | apply Kd.R_alloc | apply Kd.R_drewN | apply Kd.R_drew)); exact HO372.out) (Kd.R_base ho0) hb)
         have n11_ := Aside0.mk (Kd.R_elder' (by (with_reducible repeat (first | apply Kd.R_alloc | apply Kd.R_drewN | apply Kd.R_drew)); exact HO378.out) (Kd.R_base ho0) hb)
         have n12_ := Aside0.mk (Kd.R_elder' (by (with_reducible repeat (first | apply Kd.R_alloc | apply Kd.R_drewN | apply Kd.R_drew)); exact HO384.out) (Kd.R_base ho0) hb)
         have n13_ := Aside0.mk (Kd.R_elder' (by (with_reducible repeat (first | apply Kd.R_alloc | apply Kd.R_drewN | apply Kd.R_drew)); exact HO389.out) (Kd.R_base ho0) hb)
         have n14_ := Aside0.mk (Kd.R_lower (Kd.R_new' (Kd.R_new' (Kd.R_new' (Kd.R_new' (Kd.R_new' (Kd.R_new' (Kd.R_new' (Kd.R_new' (Kd.R_new' (Kd.R_new' (Kd.R_new' (Kd.R_new' ho0 (Kd.R_lt (by (with_reducible repeat (first | apply Kd.R_alloc | apply Kd.R_drewN | apply Kd.R_drew)); exact HO_326002.out))) (Kd.R_lt (by (with_reducible repeat (first | apply Kd.R_alloc | apply Kd.R_drewN | apply Kd.R_drew)); exact HO_332002.out))) (Kd.R_lt (by (with_reducible repeat (first | apply Kd.R_alloc | apply Kd.R_drewN | apply Kd.R_drew)); exact HO_338002.out))) (Kd.R_lt (by (with_reducible repeat (first | apply Kd.R_alloc | apply Kd.R_drewN | apply Kd.R_drew)); exact HO346.out))) (Kd.R_lt (by (with_reducible repeat (first | apply Kd.R_alloc | apply Kd.R_drewN | apply Kd.R_drew)); exact HO351.out))) (Kd.R_lt (by (with_reducible repeat (first | apply Kd.R_alloc | apply Kd.R_drewN | apply Kd.R_drew)); exact HO357.out))) (Kd.R_lt (by (with_reducible repeat (first | apply Kd.R_alloc | apply Kd.R_drewN | apply Kd.R_drew)); exact HO362.out))) (Kd.R_lt (by (with_reducible repeat (first | apply Kd.R_alloc | apply Kd.R_drewN | apply Kd.R_drew)); exact HO367.out))) (Kd.R_lt (by (with_reducible repeat (first | apply Kd.R_alloc | apply Kd.R_drewN | apply Kd.R_drew)); exact HO372.out))) (Kd.R_lt (by (with_reducible repeat (first | apply Kd.R_alloc | apply Kd.R_drewN | apply Kd.R_drew)); exact HO378.out))) (Kd.R_lt (by (with_reducible repeat (first | apply Kd.R_alloc | apply Kd.R_drewN | apply Kd.R_drew)); exact HO384.out))) (Kd.R_lt (by (with_reducible repeat (first | apply Kd.R_alloc | apply Kd.R_drewN | apply Kd.R_drew)); exact HO389.out))) (below_size (bw_ HB.out)))
         have n15_ := Aside0.mk (blk_below (bk_ BK291.out) hb)
         have n16_ := Aside0.mk (blk_below (bk_ BK300.out) hb)
         have n17_ := Aside0.mk (blk_below (bk_ BK301.out) hb)
         have n18_ := Aside0.mk (blk_below (bk_ BK309.out) hb)
         have n19_ := Aside0.mk (blk_below (bk_ BK310.out) hb)
         have n20_ := Aside0.mk (blk_below (bk_ BK318.out) hb)
         have n21_ := Aside0.mk (blk_below (bk_ BK319.out) hb)
         have n22_ := Aside0.mk (blk_below (bk_ BK325.out) hb)
         have n23_ := Aside0.mk (blk_below (bk_ BK331.out) hb)
         have n24_ := Aside0.mk (blk_below (bk_ BK337.out) hb)
         have n25_ := Aside0.mk (below_step (bw_ HB.out) hb)
         clear HO_12
         clear HO_22
         clear HO_326002
         clear HO_332002
         clear HO_338002
         clear HO346
         clear HO351
         clear HO357
         clear HO362
         clear HO367
         clear HO372
         clear HO378
         clear HO384
         clear HO389
         clear BK291
         clear BK300
         clear BK301
         clear BK309
         clear BK310
         clear BK318
         clear BK319
         clear BK325
         clear BK331
         clear BK337
         clear HB
         have HO_12 := n0_
         have HO_22 := n1_
         have HO_326002 := n2_
         have HO_332002 := n3_
         have HO_338002 := n4_
         have HO346 := n5_
         have HO351 := n6_
         have HO357 := n7_
         have HO362 := n8_
         have HO367 := n9_
         have HO372 := n10_
         have HO378 := n11_
         have HO384 := n12_
         have HO389 := n13_
         have HO395 := n14_
         have BK291 := n15_
         have BK300 := n16_
         have BK301 := n17_
         have BK309 := n18_
         have BK310 := n19_
         have BK318 := n20_
         have BK319 := n21_
         have BK325 := n22_
         have BK331 := n23_
         have BK337 := n24_
         have HB := n25_
         clear n0_ n1_ n2_ n3_ n4_ n5_ n6_ n7_ n8_ n9_ n10_ n11_ n12_ n13_ n14_ n15_ n16_ n17_ n18_ n19_ n20_ n21_ n22_ n23_ n24_ n25_
         (try clear hb)
         (try clear hb2)
         (try clear hk)
         (try clear hi)
         (try clear ho0)
         obtain ⟨Ao148, co148, eo148⟩ := Kd.R_slice HO395.out
         (first | subst eo148 | (injection eo148 with f1_ f2_ f3_; have f4_ := f1_.symm; have f5_ := f3_.symm; clear f1_ f2_ f3_; subst f4_; subst f5_))
         refine hK.out _ _ ⟨(blk_cell BK301.out 0).trans rfl, (blk_cell BK301.out 1).trans rfl, (blk_cell BK325.out 0).trans rfl, (blk_cell BK325.out 1).trans rfl, (blk_cell BK325.out 2).trans rfl⟩ (fun hHeld => ?_)
         clear hK K
         refine norm_ (a' := ?_) ?_ ?_
         rotate_left
         ·show Act.put _ (some 120) _ = _
          simp only [Act.put, q1_, q2_, q3_, i64_w, i32_w]
          rfl
         refine one_ (i := 25) (N := some 122) #[true, true, true, true, true, true, true, true, true, true, true, true, true, true, true, true, true, true, true, true, true, true, true, true, true, true, true, false, false, false] rfl rfl (one_of HT_.out (by kernel_rfl)) (by decide) (fun K hK => ?_)
         refine goes_ Try.func17 (by kernel_rfl) rfl #[.agg #[.int .i64 t295, .int .i64 t296], .agg #[.int .u64 t391, .int .i64 t392, .slice Ao148 t393.length co148], .agg #[.int .u64 t320, .int .i64 t321, .slice Ao66 t322.length co66]] (by rfl) rfl rfl (by (try simp only [List.map_toArray, List.map_cons, List.map_nil]); first | done | rfl | (simp only [List.length_drop, List.length_take]; rfl)) ?_
         with_reducible refine (agg_Merge.calls t295 t296 t391 t392 _ _ t393 t320 t321 _ _ t322 t396 t397 t398 _ ?side1 ?side2 ?side3 ?side4 A119.out).mono ?_
         (case side1 => repeat (first | exact (Kd.R_reads' HO395.out).2.2 | (with_reducible refine Kd.C_alloc ?_ _) | (with_reducible refine Kd.C_drewN ?_ _) | (with_reducible refine Kd.C_drew ?_)))
         (case side2 => exact (Kd.R_reads' HO395.out).2.1)
         (case side3 => repeat (first | exact (Kd.R_reads' HO_326002.out).2.2 | (with_reducible refine Kd.C_alloc ?_ _) | (with_reducible refine Kd.C_drewN ?_ _) | (with_reducible refine Kd.C_drew ?_)))
         (case side4 => exact (Kd.R_reads' HO_326002.out).2.1)
         rintro e w149 ⟨v399, rfl, ho0, hb⟩
         refine ⟨_, rfl, ?_⟩
         have n0_ := Aside0.mk (Kd.N_elder' (by (with_reducible repeat (first | apply Kd.N_alloc | apply Kd.N_drewN | apply Kd.N_drew)); exact HO_12.out) (Kd.R_base ho0) hb)
         have n1_ := Aside0.mk (Kd.N_elder' (by (with_reducible repeat (first | apply Kd.N_alloc | apply Kd.N_drewN | apply Kd.N_drew)); exact HO_22.out) (Kd.R_base ho0) hb)
         have n2_ := Aside0.mk (Kd.R_elder' (by (with_reducible repeat (first | apply Kd.R_alloc | apply Kd.R_drewN | apply Kd.R_drew)); exact HO_326002.out) (Kd.R_base ho0) hb)
         have n3_ := Aside0.mk (Kd.R_elder' (by (with_reducible repeat (first | apply Kd.R_alloc | apply Kd.R_drewN | apply Kd.R_drew)); exact HO_332002.out) (Kd.R_base ho0) hb)
         have n4_ := Aside0.mk (Kd.R_elder' (by (with_reducible repeat (first | apply Kd.R_alloc | apply Kd.R_drewN | apply Kd.R_drew)); exact HO_338002.out) (Kd.R_base ho0) hb)
         have n5_ := Aside0.mk (Kd.R_elder' (by (with_reducible repeat (first | apply Kd.R_alloc | apply Kd.R_drewN | apply Kd.R_drew)); exact HO346.out) (Kd.R_base ho0) hb)
         have n6_ := Aside0.mk (Kd.R_elder' (by (with_reducible repeat (first | apply Kd.R_alloc | apply Kd.R_drewN | apply Kd.R_drew)); exact HO351.out) (Kd.R_base ho0) hb)
         have n7_ := Aside0.mk (Kd.R_elder' (by (with_reducible repeat (first | apply Kd.R_alloc | apply Kd.R_drewN | apply Kd.R_drew)); exact HO357.out) (Kd.R_base ho0) hb)
         have n8_ := Aside0.mk (Kd.R_elder' (by (with_reducible repeat (first | apply Kd.R_alloc | apply Kd.R_drewN | apply Kd.R_drew)); exact HO362.out) (Kd.R_base ho0) hb)
         have n9_ := Aside0.mk (Kd.R_elder' (by (with_reducible repeat (first | apply Kd.R_alloc | apply Kd.R_drewN | apply Kd.R_drew)); exact HO367.out) (Kd.R_base ho0) hb)
         have n10_ := Aside0.mk (Kd.R_elder' (by (with_reducible repeat (first | apply Kd.R_alloc | apply Kd.R_drewN | apply Kd.R_drew)); exact HO372.out) (Kd.R_base ho0) hb)
         have n11_ := Aside0.mk (Kd.R_elder' (by (with_reducible repeat (first | apply Kd.R_alloc | apply Kd.R_drewN | apply Kd.R_drew)); exact HO378.out) (Kd.R_base ho0) hb)
         have n12_ := Aside0.mk (Kd.R_elder' (by (with_reducible repeat (first | apply Kd.R_alloc | apply Kd.R_drewN | apply Kd.R_drew)); exact HO384.out) (Kd.R_base ho0) hb)
         have n13_ := Aside0.mk (Kd.R_elder' (by (with_reducible repeat (first | apply Kd.R_alloc | apply Kd.R_drewN | apply Kd.R_drew)); exact HO389.out) (Kd.R_base ho0) hb)
         have n14_ := Aside0.mk (Kd.R_elder' (by (with_reducible repeat (first | apply Kd.R_alloc | apply Kd.R_drewN | apply Kd.R_drew)); exact HO395.out) (Kd.R_base ho0) hb)
         have n15_ := Aside0.mk (Kd.R_lower (Kd.R_new' (Kd.R_new' (Kd.R_new' (Kd.R_new' (Kd.R_new' (Kd.R_new' (Kd.R_new' (Kd.R_new' (Kd.R_new' (Kd.R_new' (Kd.R_new' (Kd.R_new' (Kd.R_new' ho0 (Kd.R_lt (by (with_reducible repeat (first | apply Kd.R_alloc | apply Kd.R_drewN | apply Kd.R_drew)); exact HO_326002.out))) (Kd.R_lt (by (with_reducible repeat (first | apply Kd.R_alloc | apply Kd.R_drewN | apply Kd.R_drew)); exact HO_332002.out))) (Kd.R_lt (by (with_reducible repeat (first | apply Kd.R_alloc | apply Kd.R_drewN | apply Kd.R_drew)); exact HO_338002.out))) (Kd.R_lt (by (with_reducible repeat (first | apply Kd.R_alloc | apply Kd.R_drewN | apply Kd.R_drew)); exact HO346.out))) (Kd.R_lt (by (with_reducible repeat (first | apply Kd.R_alloc | apply Kd.R_drewN | apply Kd.R_drew)); exact HO351.out))) (Kd.R_lt (by (with_reducible repeat (first | apply Kd.R_alloc | apply Kd.R_drewN | apply Kd.R_drew)); exact HO357.out))) (Kd.R_lt (by (with_reducible repeat (first | apply Kd.R_alloc | apply Kd.R_drewN | apply Kd.R_drew)); exact HO362.out))) (Kd.R_lt (by (with_reducible repeat (first | apply Kd.R_alloc | apply Kd.R_drewN | apply Kd.R_drew)); exact HO367.out))) (Kd.R_lt (by (with_reducible repeat (first | apply Kd.R_alloc | apply Kd.R_drewN | apply Kd.R_drew)); exact HO372.out))) (Kd.R_lt (by (with_reducible repeat (first | apply Kd.R_alloc | apply Kd.R_drewN | apply Kd.R_drew)); exact HO378.out))) (Kd.R_lt (by (with_reducible repeat (first | apply Kd.R_alloc | apply Kd.R_drewN | apply Kd.R_drew)); exact HO384.out))) (Kd.R_lt (by (with_reducible repeat (first | apply Kd.R_alloc | apply Kd.R_drewN | apply Kd.R_drew)); exact HO389.out))) (Kd.R_lt (by (with_reducible repeat (first | apply Kd.R_alloc | apply Kd.R_drewN | apply Kd.R_drew)); exact HO395.out))) (below_size (bw_ HB.out)))
         have n16_ := Aside0.mk (blk_below (bk_ BK291.out) hb)
         have n17_ := Aside0.mk (blk_below (bk_ BK300.out) hb)
         have n18_ := Aside0.mk (blk_below (bk_ BK301.out) hb)
         have n19_ := Aside0.mk (blk_below (bk_ BK309.out) hb)
         have n20_ := Aside0.mk (blk_below (bk_ BK310.out) hb)
         have n21_ := Aside0.mk (blk_below (bk_ BK318.out) hb)
         have n22_ := Aside0.mk (blk_below (bk_ BK319.out) hb)
         have n23_ := Aside0.mk (blk_below (bk_ BK325.out) hb)
         have n24_ := Aside0.mk (blk_below (bk_ BK331.out) hb)
         have n25_ := Aside0.mk (blk_below (bk_ BK337.out) hb)
         have n26_ := Aside0.mk (below_step (bw_ HB.out) hb)
         clear HO_12
         clear HO_22
         clear HO_326002
         clear HO_332002
         clear HO_338002
         clear HO346
         clear HO351
         clear HO357
         clear HO362
         clear HO367
         clear HO372
         clear HO378
         clear HO384
         clear HO389
         clear HO395
         clear BK291
         clear BK300
         clear BK301
         clear BK309
         clear BK310
         clear BK318
         clear BK319
         clear BK325
         clear BK331
         clear BK337
         clear HB
         have HO_12 := n0_
         have HO_22 := n1_
         have HO_326002 := n2_
         have HO_332002 := n3_
         have HO_338002 := n4_
         have HO346 := n5_
         have HO351 := n6_
         have HO357 := n7_
         have HO362 := n8_
         have HO367 := n9_
         have HO372 := n10_
         have HO378 := n11_
         have HO384 := n12_
         have HO389 := n13_
         have HO395 := n14_
         have HO400 := n15_
         have BK291 := n16_
         have BK300 := n17_
         have BK301 := n18_
         have BK309 := n19_
         have BK310 := n20_
         have BK318 := n21_
         have BK319 := n22_
         have BK325 := n23_
         have BK331 := n24_
         have BK337 := n25_
         have HB := n26_
         clear n0_ n1_ n2_ n3_ n4_ n5_ n6_ n7_ n8_ n9_ n10_ n11_ n12_ n13_ n14_ n15_ n16_ n17_ n18_ n19_ n20_ n21_ n22_ n23_ n24_ n25_ n26_
         (try clear hb)
         (try clear hb2)
         (try clear hk)
         (try clear hi)
         (try clear ho0)
         obtain ⟨Ao150, co150, eo150⟩ := Kd.R_slice HO400.out
         (first | subst eo150 | (injection eo150 with f1_ f2_ f3_; have f4_ := f1_.symm; have f5_ := f3_.symm; clear f1_ f2_ f3_; subst f4_; subst f5_))
         refine hK.out _ _ ⟨(blk_cell BK301.out 0).trans rfl, (blk_cell BK301.out 1).trans rfl, (blk_cell BK325.out 0).trans rfl, (blk_cell BK325.out 1).trans rfl, (blk_cell BK325.out 2).trans rfl⟩ (fun hHeld => ?_)
         clear hK K
         refine norm_ (a' := ?_) ?_ ?_
         rotate_left
         ·show Act.put _ (some 122) _ = _
          simp only [Act.put, q1_, q2_, q3_, i64_w, i32_w]
          rfl
         refine one_ (i := 27) (N := some 124) #[true, true, true, true, true, true, true, true, true, true, true, true, true, true, true, true, true, true, true, true, true, true, true, true, true, true, true, true, false, false] rfl rfl (one_of HT_.out (by kernel_rfl)) (by decide) (fun K hK => ?_)
         refine goes_ Try.func14 (by kernel_rfl) rfl #[.agg #[.int .u64 t396, .int .i64 t397, .slice Ao150 t398.length co150], .agg #[.int .u64 t320, .int .i64 t321, .slice Ao66 t322.length co66]] (by rfl) rfl rfl (by (try simp only [List.map_toArray, List.map_cons, List.map_nil]); first | done | rfl | (simp only [List.length_drop, List.length_take]; rfl)) ?_
         with_reducible refine (gristmillref06_Same.calls k1 t396 t397 _ _ t398 t320 t321 _ _ t322 t401 _ ?side1 ?side2 ?side3 ?side4 A120.out).mono ?_
         (case side1 => repeat (first | exact (Kd.R_reads' HO400.out).2.2 | (with_reducible refine Kd.C_alloc ?_ _) | (with_reducible refine Kd.C_drewN ?_ _) | (with_reducible refine Kd.C_drew ?_)))
         (case side2 => exact (Kd.R_reads' HO400.out).2.1)
         (case side3 => repeat (first | exact (Kd.R_reads' HO_326002.out).2.2 | (with_reducible refine Kd.C_alloc ?_ _) | (with_reducible refine Kd.C_drewN ?_ _) | (with_reducible refine Kd.C_drew ?_)))
         (case side4 => exact (Kd.R_reads' HO_326002.out).2.1)
         rintro e w151 ⟨rfl, hb⟩
         refine ⟨_, rfl, ?_⟩
         have n0_ := Aside0.mk (Kd.N_below (by (with_reducible repeat (first | apply Kd.N_alloc | apply Kd.N_drewN | apply Kd.N_drew)); exact HO_12.out) hb)
         have n1_ := Aside0.mk (Kd.N_below (by (with_reducible repeat (first | apply Kd.N_alloc | apply Kd.N_drewN | apply Kd.N_drew)); exact HO_22.out) hb)
         have n2_ := Aside0.mk (Kd.R_below (by (with_reducible repeat (first | apply Kd.R_alloc | apply Kd.R_drewN | apply Kd.R_drew)); exact HO_326002.out) hb)
         have n3_ := Aside0.mk (Kd.R_below (by (with_reducible repeat (first | apply Kd.R_alloc | apply Kd.R_drewN | apply Kd.R_drew)); exact HO_332002.out) hb)
         have n4_ := Aside0.mk (Kd.R_below (by (with_reducible repeat (first | apply Kd.R_alloc | apply Kd.R_drewN | apply Kd.R_drew)); exact HO_338002.out) hb)
         have n5_ := Aside0.mk (Kd.R_below (by (with_reducible repeat (first | apply Kd.R_alloc | apply Kd.R_drewN | apply Kd.R_drew)); exact HO346.out) hb)
         have n6_ := Aside0.mk (Kd.R_below (by (with_reducible repeat (first | apply Kd.R_alloc | apply Kd.R_drewN | apply Kd.R_drew)); exact HO351.out) hb)
         have n7_ := Aside0.mk (Kd.R_below (by (with_reducible repeat (first | apply Kd.R_alloc | apply Kd.R_drewN | apply Kd.R_drew)); exact HO357.out) hb)
         have n8_ := Aside0.mk (Kd.R_below (by (with_reducible repeat (first | apply Kd.R_alloc | apply Kd.R_drewN | apply Kd.R_drew)); exact HO362.out) hb)
         have n9_ := Aside0.mk (Kd.R_below (by (with_reducible repeat (first | apply Kd.R_alloc | apply Kd.R_drewN | apply Kd.R_drew)); exact HO367.out) hb)
         have n10_ := Aside0.mk (Kd.R_below (by (with_reducible repeat (first | apply Kd.R_alloc | apply Kd.R_drewN | apply Kd.R_drew)); exact HO372.out) hb)
         have n11_ := Aside0.mk (Kd.R_below (by (with_reducible repeat (first | apply Kd.R_alloc | apply Kd.R_drewN | apply Kd.R_drew)); exact HO378.out) hb)
         have n12_ := Aside0.mk (Kd.R_below (by (with_reducible repeat (first | apply Kd.R_alloc | apply Kd.R_drewN | apply Kd.R_drew)); exact HO384.out) hb)
         have n13_ := Aside0.mk (Kd.R_below (by (with_reducible repeat (first | apply Kd.R_alloc | apply Kd.R_drewN | apply Kd.R_drew)); exact HO389.out) hb)
         have n14_ := Aside0.mk (Kd.R_below (by (with_reducible repeat (first | apply Kd.R_alloc | apply Kd.R_drewN | apply Kd.R_drew)); exact HO395.out) hb)
         have n15_ := Aside0.mk (Kd.R_below (by (with_reducible repeat (first | apply Kd.R_alloc | apply Kd.R_drewN | apply Kd.R_drew)); exact HO400.out) hb)
         have n16_ := Aside0.mk (blk_below (bk_ BK291.out) hb)
         have n17_ := Aside0.mk (blk_below (bk_ BK300.out) hb)
         have n18_ := Aside0.mk (blk_below (bk_ BK301.out) hb)
         have n19_ := Aside0.mk (blk_below (bk_ BK309.out) hb)
         have n20_ := Aside0.mk (blk_below (bk_ BK310.out) hb)
         have n21_ := Aside0.mk (blk_below (bk_ BK318.out) hb)
         have n22_ := Aside0.mk (blk_below (bk_ BK319.out) hb)
         have n23_ := Aside0.mk (blk_below (bk_ BK325.out) hb)
         have n24_ := Aside0.mk (blk_below (bk_ BK331.out) hb)
         have n25_ := Aside0.mk (blk_below (bk_ BK337.out) hb)
         have n26_ := Aside0.mk (below_step (bw_ HB.out) hb)
         clear HO_12
         clear HO_22
         clear HO_326002
         clear HO_332002
         clear HO_338002
         clear HO346
         clear HO351
         clear HO357
         clear HO362
         clear HO367
         clear HO372
         clear HO378
         clear HO384
         clear HO389
         clear HO395
         clear HO400
         clear BK291
         clear BK300
         clear BK301
         clear BK309
         clear BK310
         clear BK318
         clear BK319
         clear BK325
         clear BK331
         clear BK337
         clear HB
         have HO_12 := n0_
         have HO_22 := n1_
         have HO_326002 := n2_
         have HO_332002 := n3_
         have HO_338002 := n4_
         have HO346 := n5_
         have HO351 := n6_
         have HO357 := n7_
         have HO362 := n8_
         have HO367 := n9_
         have HO372 := n10_
         have HO378 := n11_
         have HO384 := n12_
         have HO389 := n13_
         have HO395 := n14_
         have HO400 := n15_
         have BK291 := n16_
         have BK300 := n17_
         have BK301 := n18_
         have BK309 := n19_
         have BK310 := n20_
         have BK318 := n21_
         have BK319 := n22_
         have BK325 := n23_
         have BK331 := n24_
         have BK337 := n25_
         have HB := n26_
         clear n0_ n1_ n2_ n3_ n4_ n5_ n6_ n7_ n8_ n9_ n10_ n11_ n12_ n13_ n14_ n15_ n16_ n17_ n18_ n19_ n20_ n21_ n22_ n23_ n24_ n25_ n26_
         (try clear hb)
         (try clear hb2)
         (try clear hk)
         (try clear hi)
         refine hK.out _ _ ⟨(blk_cell BK301.out 0).trans rfl, (blk_cell BK301.out 1).trans rfl, (blk_cell BK325.out 0).trans rfl, (blk_cell BK325.out 1).trans rfl, (blk_cell BK325.out 2).trans rfl⟩ (fun hHeld => ?_)
         clear hK K
         refine norm_ (a' := ?_) ?_ ?_
         rotate_left
         ·show Act.put _ (some 124) _ = _
          simp only [Act.put, q1_, q2_, q3_, i64_w, i32_w]
          rfl
         refine pure_ (i := 28) (N := some 125) (v := ?_) (a' := ?_) #[true, true, true, true, true, true, true, true, true, true, true, true, true, true, true, true, true, true, true, true, true, true, true, true, true, true, true, true, true, false] rfl rfl (any_of HT_.out (by kernel_rfl)) (fun _ _ _ h => h) (Or.inl ⟨by rfl, ?_⟩) ?_ ?_
         rotate_left
         ·intro w'
          go_simp
          with_reducible rfl
         rotate_left
         ·simp only [Act.put, q1_, q2_, q3_, i64_w, i32_w]
          rfl
         refine pure_ (i := 29) (N := some 8) (v := ?_) (a' := ?_) #[true, true, true, true, true, true, true, true, true, true, true, true, true, true, true, true, true, true, true, true, true, true, true, true, true, true, true, true, true, true] rfl rfl (any_of HT_.out (by kernel_rfl)) (fun _ _ _ h => h) (Or.inl ⟨by rfl, ?_⟩) ?_ ?_
         rotate_left
         ·intro w'
          go_simp
          with_reducible rfl
         rotate_left
         ·simp only [Act.put, q1_, q2_, q3_, i64_w, i32_w]
          rfl
         refine done_ (done_of HT_.out (by kernel_rfl)) ?_
         try go_wp2
         go_ret
         exact ⟨by first | rfl | (simp [errW_none, errW_some] <;> rfl) | (simp [*, errW_none, errW_some] <;> rfl), by repeat (first | (with_reducible first | exact HB.out | apply below_alloc | apply pw_below_drewN | apply below_drew1 | refine below_set ?_ GE291.out | refine below_set ?_ GE300.out | refine below_set ?_ GE301.out | refine below_set ?_ GE309.out | refine below_set ?_ GE310.out | refine below_set ?_ GE318.out | refine below_set ?_ GE319.out | refine below_set ?_ GE325.out | refine below_set ?_ GE331.out | refine below_set ?_ GE337.out) | exact HB.out)⟩
        ·rw [if_neg c117] at H
         exact absurd (Option.some.inj H) (by rw [hrt_]; decide)
       ·rw [if_neg c113] at H
        exact absurd (Option.some.inj H) (by rw [hrt_]; decide)
      ·rw [if_neg c110] at H
       exact absurd (Option.some.inj H) (by rw [hrt_]; decide)
     ·rw [if_neg c109] at H
      exact absurd (Option.some.inj H) (by rw [hrt_]; decide)
 ·replace c6 := Bool.eq_false_iff.mpr c6
  subst c6
  have H1 : (some false) = some r := by rw [if_neg (show ¬ (false = true) by decide)] at H; exact H
  clear H
  have H := H1
  clear H1
  obtain rfl := Option.some.inj H
  go_enter Try.func5, Try.ntmps5
  go_wp2_with (first | ((with_reducible refine gate_dst (N := 4) rfl ?_); refine bx_ (N := 4) (cs := #[.int .i64 a0_0, .int .i64 a0_1]) (t := 23) ?_; intro gb291 hg w233 hbox hb; have n0_ := Aside0.mk (below_step (bw_ HB.out) hb); have n1_ := Aside0.mk (hbox); have n2_ := Aside0.mk (sz_ hg (bw_ HB.out)); have n3_ := n2_; clear HB; have HB := n0_; have BK291 := n1_; have GW291 := n2_; have GE291 := n3_; clear n0_ n1_ n2_ n3_; clear hb hbox hg) | ((with_reducible refine gate_callee (f := 10) rfl ?_); refine goesL_ (some 26) rfl rfl Try.func10 (by kernel_rfl) rfl #[] rfl (by (try simp only [List.map_toArray, List.map_cons, List.map_nil]); first | done | rfl | (simp only [List.length_drop, List.length_take]; rfl)) ?_; (with_reducible refine (gristmilllaw06_awake.calls  false _ A5.out).mono ?_); rintro e w234 ⟨rfl, hb⟩; refine ⟨_, rfl, ?_⟩; have n0_ := Aside0.mk (blk_below (bk_ BK291.out) hb); have n1_ := Aside0.mk (below_step (bw_ HB.out) hb); clear BK291 HB; have BK291 := n0_; have HB := n1_; clear n0_ n1_; (try clear hb); (try clear hb2); (try clear hk); (try clear hi)))
  go_ret
  exact ⟨by first | rfl | (simp [errW_none, errW_some] <;> rfl) | (simp [*, errW_none, errW_some] <;> rfl), by repeat (first | (with_reducible first | exact HB.out | apply below_alloc | apply pw_below_drewN | apply below_drew1 | refine below_set ?_ GE291.out) | exact HB.out)⟩
end Go.Proofs.Ytmjhgeinhhhodaa.P
end
