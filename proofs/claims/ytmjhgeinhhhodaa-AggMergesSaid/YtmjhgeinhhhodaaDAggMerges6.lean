/- Texts of this repo, joined, without what this claim does not use: P13, Sp, Of, Put6, Of6, OpenK, OpenAgg, OpenMany, LawAggMerges. -/
import Derived.Test.YtmjhgeinhhhodaaDAggMerges1
import Derived.Test.YtmjhgeinhhhodaaDAggMerges2
import Derived.Test.YtmjhgeinhhhodaaDAggMerges3
import Derived.Test.YtmjhgeinhhhodaaDAggMerges4
import Derived.Test.YtmjhgeinhhhodaaDAggMerges5
import Derived.SizedLaws
import Derived.Deep.Slices
import Derived.Test.YtmjhgeinhhhodaaRows
import Derived.ProofKit
import Derived.OpenShut
section
namespace Go.Proofs.Ytmjhgeinhhhodaa.P
open Go.RowKit Go.Proofs.YtmjhgeinhhhodaaW.PrintWords Go.Proofs.YtmjhgeinhhhodaaW.PrintLast Go.Proofs.YtmjhgeinhhhodaaW.PrintMore
attribute [local go_sem] max2_int min2_int max_two min_two max_three min_three max_four min_four   -- for this text's walks alone
set_option linter.unusedVariables false
set_option linter.unusedSimpArgs false
open Go.Proofs.Ytmjhgeinhhhodaa.Ext (q1_ q2_ q3_ bk_ bw_ sz_ ne_ bx_)
attribute [local go_sem high] Go.Proofs.Ytmjhgeinhhhodaa.Ext.gtr_str Go.Proofs.Ytmjhgeinhhhodaa.Ext.leq_str Go.Proofs.Ytmjhgeinhhhodaa.Ext.geq_str
def gristmilllaw06_AggMerges.f (k : Nat) (a0_0 : Int) (a0_1 : Int) (l1 : List (S44)) (l2 : List (S44)) : Option (Bool) := (gristmilllaw06_awake.f).bind fun t244 => (if t244 = true then ((gristmilllaw06_right.f k a0_0 a0_1 l1).bind fun bt245 => ((gristmilllaw06_right.f k a0_0 a0_1 l2).bind fun bt254 => ((gristmilllaw06_of.f k bt245.2.2.1 bt245.2.2.2.1 bt245.2.2.2.2).bind fun bt263 => ((gristmilllaw06_of.f k bt245.2.2.1 bt245.2.2.2.1 bt254.2.2.2.2).bind fun bt268 => ((agg_Merge.f bt245.2.2.1 bt245.2.2.2.1 bt263.1 bt263.2.1 bt263.2.2 bt268.1 bt268.2.1 bt268.2.2).bind fun bt273 => (if ([] : List (S44)).length + bt245.2.2.2.2.length < 2199023255552 then ((some (([] : List (S44)) ++ bt245.2.2.2.2 : List (S44))).bind fun y279 => (if y279.length + bt254.2.2.2.2.length < 2199023255552 then ((gristmillref06_Of.f k bt245.2.2.1 bt245.2.2.2.1 (y279 ++ bt254.2.2.2.2)).bind fun bt285 => ((gristmillref06_Same.f k bt273.1 bt273.2.1 bt273.2.2 bt285.1 bt285.2.1 bt285.2.2).bind fun t290 => (some t290))) else (none))) else (none))))))) else (some false))
def gristmilllaw06_AggMerges.T6 : Bool × List (List Nat × List Nat) := (true, [([], []), ([], []), ([], []), ([1, 2], [1, 2]), ([], []), ([], []), ([4, 5, 3], [4, 5]), ([0, 3, 6, 6], [0, 3, 6]), ([], []), ([8, 7, 7, 0, 1, 2, 3, 4, 5, 6, 7, 8], [7, 8])])
def gristmilllaw06_AggMerges.B6 : List Nat := [0, 0, 0, 6, 0, 0, 62, 127, 0, 511]
theorem gristmilllaw06_AggMerges.tab6 : rtab .any (opsOf Try.f4 6) = gristmilllaw06_AggMerges.T6 := by kernel_rfl
theorem gristmilllaw06_AggMerges.bits6 : waitsOk gristmilllaw06_AggMerges.T6.2 gristmilllaw06_AggMerges.B6 = true := by kernel_rfl
set_option maxHeartbeats 8000000 in
set_option maxRecDepth 100000 in
theorem gristmilllaw06_AggMerges.calls (k : Nat) (a0_0 : Int) (a0_1 : Int) (A1 : Option Addr) (c1 : Nat) (l1 : List (S44)) (A2 : Option Addr) (c2 : Nat) (l2 : List (S44)) (r : Bool) (w : World) (hr1 : Kd.C k44 w A1 l1.length l1) (hc1 : l1.length ≤ c1) (hr2 : Kd.C k44 w A2 l2.length l2) (hc2 : l2.length ≤ c2) (h : gristmilllaw06_AggMerges.f k a0_0 a0_1 l1 l2 = some r) :
  Calls Try.prog 4 #[.agg #[.int .i64 a0_0, .int .i64 a0_1], .slice A1 l1.length c1, .slice A2 l2.length c2] w fun e w' => e = .returned (.bool r) ∧ Below w.heap.size w w' := by
 have hu23 := Try.underlying23
 have hu27 := Try.underlying27
 have hu33 := Try.underlying33
 have HR1 := Aside0.mk hr1
 have HC1 := Aside0.mk hc1
 clear hr1 hc1
 have HR2 := Aside0.mk hr2
 have HC2 := Aside0.mk hc2
 clear hr2 hc2
 have HB := Aside0.mk (Below.refl w.heap.size w)
 have H : ((gristmilllaw06_awake.f).bind fun t244 => (if t244 = true then ((gristmilllaw06_right.f k a0_0 a0_1 l1).bind fun bt245 => ((gristmilllaw06_right.f k a0_0 a0_1 l2).bind fun bt254 => ((gristmilllaw06_of.f k bt245.2.2.1 bt245.2.2.2.1 bt245.2.2.2.2).bind fun bt263 => ((gristmilllaw06_of.f k bt245.2.2.1 bt245.2.2.2.1 bt254.2.2.2.2).bind fun bt268 => ((agg_Merge.f bt245.2.2.1 bt245.2.2.2.1 bt263.1 bt263.2.1 bt263.2.2 bt268.1 bt268.2.1 bt268.2.2).bind fun bt273 => (if ([] : List (S44)).length + bt245.2.2.2.2.length < 2199023255552 then ((some (([] : List (S44)) ++ bt245.2.2.2.2 : List (S44))).bind fun y279 => (if y279.length + bt254.2.2.2.2.length < 2199023255552 then ((gristmillref06_Of.f k bt245.2.2.1 bt245.2.2.2.1 (y279 ++ bt254.2.2.2.2)).bind fun bt285 => ((gristmillref06_Same.f k bt273.1 bt273.2.1 bt273.2.2 bt285.1 bt285.2.1 bt285.2.2).bind fun t290 => (some t290))) else (none))) else (none))))))) else (some false))) = some r := h
 clear h
 replace H := Option.bind_eq_some_iff.mp H
 obtain ⟨t244, A40, H⟩ := H
 replace H : (if t244 = true then ((gristmilllaw06_right.f k a0_0 a0_1 l1).bind fun bt245 => ((gristmilllaw06_right.f k a0_0 a0_1 l2).bind fun bt254 => ((gristmilllaw06_of.f k bt245.2.2.1 bt245.2.2.2.1 bt245.2.2.2.2).bind fun bt263 => ((gristmilllaw06_of.f k bt245.2.2.1 bt245.2.2.2.1 bt254.2.2.2.2).bind fun bt268 => ((agg_Merge.f bt245.2.2.1 bt245.2.2.2.1 bt263.1 bt263.2.1 bt263.2.2 bt268.1 bt268.2.1 bt268.2.2).bind fun bt273 => (if ([] : List (S44)).length + bt245.2.2.2.2.length < 2199023255552 then ((some (([] : List (S44)) ++ bt245.2.2.2.2 : List (S44))).bind fun y279 => (if y279.length + bt254.2.2.2.2.length < 2199023255552 then ((gristmillref06_Of.f k bt245.2.2.1 bt245.2.2.2.1 (y279 ++ bt254.2.2.2.2)).bind fun bt285 => ((gristmillref06_Same.f k bt273.1 bt273.2.1 bt273.2.2 bt285.1 bt285.2.1 bt285.2.2).bind fun t290 => (some t290))) else (none))) else (none))))))) else (some false)) = some r := H
 have A4 := Aside0.mk A40
 clear A40
 by_cases c5 : t244 = true
 ·subst c5
  have H1 : ((gristmilllaw06_right.f k a0_0 a0_1 l1).bind fun bt245 => ((gristmilllaw06_right.f k a0_0 a0_1 l2).bind fun bt254 => ((gristmilllaw06_of.f k bt245.2.2.1 bt245.2.2.2.1 bt245.2.2.2.2).bind fun bt263 => ((gristmilllaw06_of.f k bt245.2.2.1 bt245.2.2.2.1 bt254.2.2.2.2).bind fun bt268 => ((agg_Merge.f bt245.2.2.1 bt245.2.2.2.1 bt263.1 bt263.2.1 bt263.2.2 bt268.1 bt268.2.1 bt268.2.2).bind fun bt273 => (if ([] : List (S44)).length + bt245.2.2.2.2.length < 2199023255552 then ((some (([] : List (S44)) ++ bt245.2.2.2.2 : List (S44))).bind fun y279 => (if y279.length + bt254.2.2.2.2.length < 2199023255552 then ((gristmillref06_Of.f k bt245.2.2.1 bt245.2.2.2.1 (y279 ++ bt254.2.2.2.2)).bind fun bt285 => ((gristmillref06_Same.f k bt273.1 bt273.2.1 bt273.2.2 bt285.1 bt285.2.1 bt285.2.2).bind fun t290 => (some t290))) else (none))) else (none))))))) = some r := by rw [if_pos rfl] at H; exact H
  clear H
  have H := H1
  clear H1
  replace H := Option.bind_eq_some_iff.mp H
  obtain ⟨⟨t245, t246, t247, t248, t249⟩, A60, H⟩ := H
  replace H : ((gristmilllaw06_right.f k a0_0 a0_1 l2).bind fun bt254 => ((gristmilllaw06_of.f k t247 t248 t249).bind fun bt263 => ((gristmilllaw06_of.f k t247 t248 bt254.2.2.2.2).bind fun bt268 => ((agg_Merge.f t247 t248 bt263.1 bt263.2.1 bt263.2.2 bt268.1 bt268.2.1 bt268.2.2).bind fun bt273 => (if ([] : List (S44)).length + t249.length < 2199023255552 then ((some (([] : List (S44)) ++ t249 : List (S44))).bind fun y279 => (if y279.length + bt254.2.2.2.2.length < 2199023255552 then ((gristmillref06_Of.f k t247 t248 (y279 ++ bt254.2.2.2.2)).bind fun bt285 => ((gristmillref06_Same.f k bt273.1 bt273.2.1 bt273.2.2 bt285.1 bt285.2.1 bt285.2.2).bind fun t290 => (some t290))) else (none))) else (none)))))) = some r := H
  have A6 := Aside0.mk A60
  clear A60
  replace H := Option.bind_eq_some_iff.mp H
  obtain ⟨⟨t254, t255, t256, t257, t258⟩, A70, H⟩ := H
  replace H : ((gristmilllaw06_of.f k t247 t248 t249).bind fun bt263 => ((gristmilllaw06_of.f k t247 t248 t258).bind fun bt268 => ((agg_Merge.f t247 t248 bt263.1 bt263.2.1 bt263.2.2 bt268.1 bt268.2.1 bt268.2.2).bind fun bt273 => (if ([] : List (S44)).length + t249.length < 2199023255552 then ((some (([] : List (S44)) ++ t249 : List (S44))).bind fun y279 => (if y279.length + t258.length < 2199023255552 then ((gristmillref06_Of.f k t247 t248 (y279 ++ t258)).bind fun bt285 => ((gristmillref06_Same.f k bt273.1 bt273.2.1 bt273.2.2 bt285.1 bt285.2.1 bt285.2.2).bind fun t290 => (some t290))) else (none))) else (none))))) = some r := H
  have A7 := Aside0.mk A70
  clear A70
  replace H := Option.bind_eq_some_iff.mp H
  obtain ⟨⟨t263, t264, t265⟩, A80, H⟩ := H
  replace H : ((gristmilllaw06_of.f k t247 t248 t258).bind fun bt268 => ((agg_Merge.f t247 t248 t263 t264 t265 bt268.1 bt268.2.1 bt268.2.2).bind fun bt273 => (if ([] : List (S44)).length + t249.length < 2199023255552 then ((some (([] : List (S44)) ++ t249 : List (S44))).bind fun y279 => (if y279.length + t258.length < 2199023255552 then ((gristmillref06_Of.f k t247 t248 (y279 ++ t258)).bind fun bt285 => ((gristmillref06_Same.f k bt273.1 bt273.2.1 bt273.2.2 bt285.1 bt285.2.1 bt285.2.2).bind fun t290 => (some t290))) else (none))) else (none)))) = some r := H
  have A8 := Aside0.mk A80
  clear A80
  replace H := Option.bind_eq_some_iff.mp H
  obtain ⟨⟨t268, t269, t270⟩, A90, H⟩ := H
  replace H : ((agg_Merge.f t247 t248 t263 t264 t265 t268 t269 t270).bind fun bt273 => (if ([] : List (S44)).length + t249.length < 2199023255552 then ((some (([] : List (S44)) ++ t249 : List (S44))).bind fun y279 => (if y279.length + t258.length < 2199023255552 then ((gristmillref06_Of.f k t247 t248 (y279 ++ t258)).bind fun bt285 => ((gristmillref06_Same.f k bt273.1 bt273.2.1 bt273.2.2 bt285.1 bt285.2.1 bt285.2.2).bind fun t290 => (some t290))) else (none))) else (none))) = some r := H
  have A9 := Aside0.mk A90
  clear A90
  replace H := Option.bind_eq_some_iff.mp H
  obtain ⟨⟨t273, t274, t275⟩, A100, H⟩ := H
  replace H : (if ([] : List (S44)).length + t249.length < 2199023255552 then ((some (([] : List (S44)) ++ t249 : List (S44))).bind fun y279 => (if y279.length + t258.length < 2199023255552 then ((gristmillref06_Of.f k t247 t248 (y279 ++ t258)).bind fun bt285 => ((gristmillref06_Same.f k t273 t274 t275 bt285.1 bt285.2.1 bt285.2.2).bind fun t290 => (some t290))) else (none))) else (none)) = some r := H
  have A10 := Aside0.mk A100
  clear A100
  by_cases c11 : ([] : List (S44)).length + t249.length < 2199023255552
  ·rw [if_pos c11] at H
   have LMc11 := Aside0.mk c11
   clear c11
   obtain ⟨y279, hy279⟩ : ∃ y_ : List (S44), y_ = (([] : List (S44)) ++ t249) := ⟨_, rfl⟩
   replace H : (if y279.length + t258.length < 2199023255552 then ((gristmillref06_Of.f k t247 t248 (y279 ++ t258)).bind fun bt285 => ((gristmillref06_Same.f k t273 t274 t275 bt285.1 bt285.2.1 bt285.2.2).bind fun t290 => (some t290))) else (none)) = some r := by first | (rw [hy279]; with_reducible exact H) | (have H2_ := (Option.bind_some _ _).symm.trans H; rw [hy279]; with_reducible exact H2_) | (have H2_ := (Option.bind_some _ _).symm.trans H; with_reducible exact H2_) | with_reducible exact H | (rw [hy279]; exact H) | exact H
   have Ny279 := Aside0.mk hy279
   clear hy279
   by_cases c12 : y279.length + t258.length < 2199023255552
   ·rw [if_pos c12] at H
    have LMc12 := Aside0.mk c12
    clear c12
    obtain ⟨y282, hy282⟩ : ∃ y_ : List (S44), y_ = (y279 ++ t258) := ⟨_, rfl⟩
    replace H : ((gristmillref06_Of.f k t247 t248 y282).bind fun bt285 => ((gristmillref06_Same.f k t273 t274 t275 bt285.1 bt285.2.1 bt285.2.2).bind fun t290 => (some t290))) = some r := by first | (rw [hy282]; with_reducible exact H) | (have H2_ := (Option.bind_some _ _).symm.trans H; rw [hy282]; with_reducible exact H2_) | (have H2_ := (Option.bind_some _ _).symm.trans H; with_reducible exact H2_) | with_reducible exact H | (rw [hy282]; exact H) | exact H
    have Ny282 := Aside0.mk hy282
    clear hy282
    replace H := Option.bind_eq_some_iff.mp H
    obtain ⟨⟨t285, t286, t287⟩, A130, H⟩ := H
    replace H : ((gristmillref06_Same.f k t273 t274 t275 t285 t286 t287).bind fun t290 => (some t290)) = some r := H
    have A13 := Aside0.mk A130
    clear A130
    replace H := Option.bind_eq_some_iff.mp H
    obtain ⟨t290, A140, H⟩ := H
    replace H : (some t290) = some r := H
    have A14 := Aside0.mk A140
    clear A140
    obtain rfl := Option.some.inj H
    go_enter Try.func4, Try.ntmps4
    try go_wp2_with (first | ((with_reducible refine gate_dst (N := 3) rfl ?_); refine bx_ (N := 3) (cs := #[.int .i64 a0_0, .int .i64 a0_1]) (t := 23) ?_; intro gb243 hg w15 hbox hb; have n0_ := Aside0.mk (below_step (bw_ HB.out) hb); have n1_ := Aside0.mk (hbox); have n2_ := Aside0.mk (sz_ hg (bw_ HB.out)); have n3_ := n2_; clear HB; have HB := n0_; have BK243 := n1_; have GW243 := n2_; have GE243 := n3_; clear n0_ n1_ n2_ n3_; clear hb hbox hg) | ((with_reducible refine gate_callee (f := 10) rfl ?_); refine goesL_ (some 16) rfl rfl Try.func10 (by kernel_rfl) rfl #[] rfl (by (try simp only [List.map_toArray, List.map_cons, List.map_nil]); first | done | rfl | (simp only [List.length_drop, List.length_take]; rfl)) ?_; (with_reducible refine (gristmilllaw06_awake.calls  true _ A4.out).mono ?_); rintro e w16 ⟨rfl, hb⟩; refine ⟨_, rfl, ?_⟩; have n0_ := Aside0.mk (blk_below (bk_ BK243.out) hb); have n1_ := Aside0.mk (below_step (bw_ HB.out) hb); clear BK243 HB; have BK243 := n0_; have HB := n1_; clear n0_ n1_; (try clear hb); (try clear hb2); (try clear hk); (try clear hi); have hcz17_0 : w16.cell? ⟨gb243, 0, none⟩ = some (.int .i64 a0_0) := (blk_cell BK243.out 0).trans rfl; have hcz17_1 : w16.cell? ⟨gb243, 1, none⟩ = some (.int .i64 a0_1) := (blk_cell BK243.out 1).trans rfl; have hfz17_0 := blk_frozen BK243.out 0; have hfz17_1 := blk_frozen BK243.out 1) | ((with_reducible refine gate_callee (f := 11) rfl ?_); refine goesL_ (some 22) rfl rfl Try.func11 (by kernel_rfl) rfl #[.agg #[.int .i64 a0_0, .int .i64 a0_1], .slice A1 l1.length c1] rfl (by (try simp only [List.map_toArray, List.map_cons, List.map_nil]); first | done | rfl | (simp only [List.length_drop, List.length_take]; rfl)) ?_; (with_reducible refine (gristmilllaw06_right.calls k a0_0 a0_1 _ _ l1 t245 t246 t247 t248 t249 _ ?side1 ?side2 A6.out).mono ?_); (case side1 => repeat (first | exact (Kd.C_below HR1.out HB.out) | (with_reducible refine Kd.C_alloc ?_ _) | (with_reducible refine Kd.C_drewN ?_ _) | (with_reducible refine Kd.C_drew ?_))); (case side2 => exact HC1.out); rintro e w18 ⟨v250, rfl, ho0, hb⟩; refine ⟨_, rfl, ?_⟩; have n0_ := Aside0.mk (Kd.N_lower (Kd.N_mono (ok' := fun k_ => k_ ≠ gb243) (Kd.S_N (Kd.S_bound ho0)) (fun k_ hk_ => (Kd.freshB (g := gb243) (o := .cells #[.int .i64 a0_0, .int .i64 a0_1] 23 (0, 0)) (bk_ BK243.out) k_ hk_.2.1))) (below_size (bw_ HB.out))); have n1_ := Aside0.mk (blk_below (bk_ BK243.out) hb); have n2_ := Aside0.mk (below_step (bw_ HB.out) hb); clear BK243 HB; have HO251 := n0_; have BK243 := n1_; have HB := n2_; clear n0_ n1_ n2_; (try clear hb); (try clear hb2); (try clear hk); (try clear hi); (try clear ho0)) | ((with_reducible refine gate_dst (N := 8) rfl ?_); refine bx_ (N := 8) (cs := #[.int .i64 0, .int .i64 0]) (t := 27) ?_; intro gb252 hg w19 hbox hb; have n0_ := Aside0.mk (Kd.N_below (Kd.N_elderB (by (with_reducible repeat (first | apply Kd.N_alloc | apply Kd.N_drewN | apply Kd.N_drew)); exact HO251.out) gb252 (Nat.le_of_eq hg.symm)) hb); have n1_ := Aside0.mk (blk_below (bk_ BK243.out) hb); have n2_ := Aside0.mk (below_step (bw_ HB.out) hb); have n3_ := Aside0.mk (hbox); have n4_ := Aside0.mk (sz_ hg (bw_ HB.out)); have n5_ := n4_; have n6_ := Aside0.mk (ne_ hg (blk_lt (bk_ BK243.out))); have n7_ := Aside0.mk n6_.out.symm; clear HO251 BK243 HB; have HO251 := n0_; have BK243 := n1_; have HB := n2_; have BK252 := n3_; have GW252 := n4_; have GE252 := n5_; have NB243_252 := n6_; have NB252_243 := n7_; clear n0_ n1_ n2_ n3_ n4_ n5_ n6_ n7_; clear hb hbox hg) | ((with_reducible refine gate_dst (N := 9) rfl ?_); refine bx_ (N := 9) (cs := #[.int .i64 0, .int .i64 0]) (t := 23) ?_; intro gb253 hg w20 hbox hb; have n0_ := Aside0.mk (Kd.N_below (Kd.N_elderB (by (with_reducible repeat (first | apply Kd.N_alloc | apply Kd.N_drewN | apply Kd.N_drew)); exact HO251.out) gb253 (Nat.le_of_eq hg.symm)) hb); have n1_ := Aside0.mk (blk_below (bk_ BK243.out) hb); have n2_ := Aside0.mk (blk_below (bk_ BK252.out) hb); have n3_ := Aside0.mk (below_step (bw_ HB.out) hb); have n4_ := Aside0.mk (hbox); have n5_ := Aside0.mk (sz_ hg (bw_ HB.out)); have n6_ := n5_; have n7_ := Aside0.mk (ne_ hg (blk_lt (bk_ BK243.out))); have n8_ := Aside0.mk n7_.out.symm; have n9_ := Aside0.mk (ne_ hg (blk_lt (bk_ BK252.out))); have n10_ := Aside0.mk n9_.out.symm; clear HO251 BK243 BK252 HB; have HO251 := n0_; have BK243 := n1_; have BK252 := n2_; have HB := n3_; have BK253 := n4_; have GW253 := n5_; have GE253 := n6_; have NB243_253 := n7_; have NB253_243 := n8_; have NB252_253 := n9_; have NB253_252 := n10_; clear n0_ n1_ n2_ n3_ n4_ n5_ n6_ n7_ n8_ n9_ n10_; clear hb hbox hg; have hnb21 := NB252_243.out; have hnc21 := NB243_252.out; have hnb22 := NB252_253.out; have hnc22 := NB253_252.out; have hcz23_0 : w20.cell? ⟨gb252, 0, none⟩ = some (.int .i64 0) := (blk_cell BK252.out 0).trans rfl; have hcz23_1 : w20.cell? ⟨gb252, 1, none⟩ = some (.int .i64 0) := (blk_cell BK252.out 1).trans rfl; have hfz23_0 := blk_frozen BK252.out 0; have hfz23_1 := blk_frozen BK252.out 1; have hnb24 := NB253_243.out; have hnc24 := NB243_253.out; have hcz25_0 : w20.cell? ⟨gb253, 0, none⟩ = some (.int .i64 0) := (blk_cell BK253.out 0).trans rfl; have hcz25_1 : w20.cell? ⟨gb253, 1, none⟩ = some (.int .i64 0) := (blk_cell BK253.out 1).trans rfl; have hfz25_0 := blk_frozen BK253.out 0; have hfz25_1 := blk_frozen BK253.out 1; have hcz26_0 : w20.cell? ⟨gb243, 0, none⟩ = some (.int .i64 a0_0) := (blk_cell BK243.out 0).trans rfl; have hcz26_1 : w20.cell? ⟨gb243, 1, none⟩ = some (.int .i64 a0_1) := (blk_cell BK243.out 1).trans rfl; have hfz26_0 := blk_frozen BK243.out 0; have hfz26_1 := blk_frozen BK243.out 1) | ((with_reducible refine gate_callee (f := 11) rfl ?_); refine goesL_ (some 29) rfl rfl Try.func11 (by kernel_rfl) rfl #[.agg #[.int .i64 a0_0, .int .i64 a0_1], .slice A2 l2.length c2] rfl (by (try simp only [List.map_toArray, List.map_cons, List.map_nil]); first | done | rfl | (simp only [List.length_drop, List.length_take]; rfl)) ?_; (with_reducible refine (gristmilllaw06_right.calls k a0_0 a0_1 _ _ l2 t254 t255 t256 t257 t258 _ ?side1 ?side2 A7.out).mono ?_); (case side1 => first | exact Kd.C_below HR2.out (bw_ HB.out) | exact Kd.C_below HR2.out (by with_reducible repeat (first | exact bw_ HB.out | refine below_set ?_ (by first | exact GW252.out | exact GW253.out | exact GW300.out | exact GW301.out)))); (case side2 => exact HC2.out); rintro e w27 ⟨v259, rfl, ho0, hb⟩; refine ⟨_, rfl, ?_⟩; have n0_ := Aside0.mk (Kd.N_elder' (by (with_reducible repeat (first | apply Kd.N_alloc | apply Kd.N_drewN | apply Kd.N_drew)); exact (Kd.N_mono (Kd.N_mono (Kd.N_far (p := ⟨gb253, 1, none⟩) (Kd.N_far (p := ⟨gb253, 0, none⟩) (Kd.N_far (p := ⟨gb252, 1, none⟩) (Kd.N_far (p := ⟨gb252, 0, none⟩) (Kd.N_mono (Kd.N_mono HO251.out (fun k_ hk => (⟨hk, hk.1.2⟩ : _ ∧ k_ ≠ gb252))) (fun k_ hk => (⟨hk, hk.1.2⟩ : _ ∧ k_ ≠ gb253))) (fun _ hk => hk.1.2) (.int .i64 t245)) (fun _ hk => hk.1.2) (.int .i64 t246)) (fun _ hk => hk.2) (.int .i64 t247)) (fun _ hk => hk.2) (.int .i64 t248)) (fun _ h_ => h_.1)) (fun _ h_ => h_.1))) (by first | exact Kd.N_base ho0 | exact Kd.S_base ho0) hb); have n1_ := Aside0.mk (Kd.N_lower (Kd.N_mono (ok' := fun k_ => some k_ ≠ (v250 : Value).ownBlock ∧ k_ ≠ gb243 ∧ k_ ≠ gb252 ∧ k_ ≠ gb253) (Kd.S_N (Kd.S_bound ho0)) (fun k_ hk_ => ⟨(Kd.fresh' (Kd.N_lt (by (with_reducible repeat (first | apply Kd.N_alloc | apply Kd.N_drewN | apply Kd.N_drew)); exact (Kd.N_mono (Kd.N_mono (Kd.N_far (p := ⟨gb253, 1, none⟩) (Kd.N_far (p := ⟨gb253, 0, none⟩) (Kd.N_far (p := ⟨gb252, 1, none⟩) (Kd.N_far (p := ⟨gb252, 0, none⟩) (Kd.N_mono (Kd.N_mono HO251.out (fun k_ hk => (⟨hk, hk.1.2⟩ : _ ∧ k_ ≠ gb252))) (fun k_ hk => (⟨hk, hk.1.2⟩ : _ ∧ k_ ≠ gb253))) (fun _ hk => hk.1.2) (.int .i64 t245)) (fun _ hk => hk.1.2) (.int .i64 t246)) (fun _ hk => hk.2) (.int .i64 t247)) (fun _ hk => hk.2) (.int .i64 t248)) (fun _ h_ => h_.1)) (fun _ h_ => h_.1)))) k_ hk_.2.1), (Kd.freshB (g := gb243) (o := .cells #[.int .i64 a0_0, .int .i64 a0_1] 23 (0, 0)) (by (with_reducible repeat (first | refine blk_drewN ?_ _ | refine blk_drew ?_ | refine blk_alloc ?_ _)); refine blk_far ?_ NB243_253.out _; (with_reducible repeat (first | refine blk_drewN ?_ _ | refine blk_drew ?_ | refine blk_alloc ?_ _)); refine blk_far ?_ NB243_253.out _; (with_reducible repeat (first | refine blk_drewN ?_ _ | refine blk_drew ?_ | refine blk_alloc ?_ _)); refine blk_far ?_ NB243_252.out _; (with_reducible repeat (first | refine blk_drewN ?_ _ | refine blk_drew ?_ | refine blk_alloc ?_ _)); refine blk_far ?_ NB243_252.out _; (with_reducible repeat (first | refine blk_drewN ?_ _ | refine blk_drew ?_ | refine blk_alloc ?_ _)); exact BK243.out) k_ hk_.2.1), (Kd.freshB (g := gb252) (o := .cells #[.int .i64 t245, .int .i64 t246] 27 (0, 0)) (by (with_reducible repeat (first | refine blk_drewN ?_ _ | refine blk_drew ?_ | refine blk_alloc ?_ _)); refine blk_far ?_ NB252_253.out _; (with_reducible repeat (first | refine blk_drewN ?_ _ | refine blk_drew ?_ | refine blk_alloc ?_ _)); refine blk_far ?_ NB252_253.out _; (with_reducible repeat (first | refine blk_drewN ?_ _ | refine blk_drew ?_ | refine blk_alloc ?_ _)); refine blk_put (cs := #[.int .i64 t245, .int .i64 0]) ?_ 1 _ rfl; (with_reducible repeat (first | refine blk_drewN ?_ _ | refine blk_drew ?_ | refine blk_alloc ?_ _)); refine blk_put (cs := #[.int .i64 0, .int .i64 0]) ?_ 0 _ rfl; (with_reducible repeat (first | refine blk_drewN ?_ _ | refine blk_drew ?_ | refine blk_alloc ?_ _)); exact BK252.out) k_ hk_.2.1), (Kd.freshB (g := gb253) (o := .cells #[.int .i64 t247, .int .i64 t248] 23 (0, 0)) (by (with_reducible repeat (first | refine blk_drewN ?_ _ | refine blk_drew ?_ | refine blk_alloc ?_ _)); refine blk_put (cs := #[.int .i64 t247, .int .i64 0]) ?_ 1 _ rfl; (with_reducible repeat (first | refine blk_drewN ?_ _ | refine blk_drew ?_ | refine blk_alloc ?_ _)); refine blk_put (cs := #[.int .i64 0, .int .i64 0]) ?_ 0 _ rfl; (with_reducible repeat (first | refine blk_drewN ?_ _ | refine blk_drew ?_ | refine blk_alloc ?_ _)); refine blk_far ?_ NB253_252.out _; (with_reducible repeat (first | refine blk_drewN ?_ _ | refine blk_drew ?_ | refine blk_alloc ?_ _)); refine blk_far ?_ NB253_252.out _; (with_reducible repeat (first | refine blk_drewN ?_ _ | refine blk_drew ?_ | refine blk_alloc ?_ _)); exact BK253.out) k_ hk_.2.1)⟩)) (below_size (bw_ HB.out))); have n2_ := Aside0.mk (blk_below (g := gb243) (o := .cells #[.int .i64 a0_0, .int .i64 a0_1] 23 (0, 0)) (by (with_reducible repeat (first | refine blk_drewN ?_ _ | refine blk_drew ?_ | refine blk_alloc ?_ _)); refine blk_far ?_ NB243_253.out _; (with_reducible repeat (first | refine blk_drewN ?_ _ | refine blk_drew ?_ | refine blk_alloc ?_ _)); refine blk_far ?_ NB243_253.out _; (with_reducible repeat (first | refine blk_drewN ?_ _ | refine blk_drew ?_ | refine blk_alloc ?_ _)); refine blk_far ?_ NB243_252.out _; (with_reducible repeat (first | refine blk_drewN ?_ _ | refine blk_drew ?_ | refine blk_alloc ?_ _)); refine blk_far ?_ NB243_252.out _; (with_reducible repeat (first | refine blk_drewN ?_ _ | refine blk_drew ?_ | refine blk_alloc ?_ _)); exact BK243.out) hb); have n3_ := Aside0.mk (blk_below (g := gb252) (o := .cells #[.int .i64 t245, .int .i64 t246] 27 (0, 0)) (by (with_reducible repeat (first | refine blk_drewN ?_ _ | refine blk_drew ?_ | refine blk_alloc ?_ _)); refine blk_far ?_ NB252_253.out _; (with_reducible repeat (first | refine blk_drewN ?_ _ | refine blk_drew ?_ | refine blk_alloc ?_ _)); refine blk_far ?_ NB252_253.out _; (with_reducible repeat (first | refine blk_drewN ?_ _ | refine blk_drew ?_ | refine blk_alloc ?_ _)); refine blk_put (cs := #[.int .i64 t245, .int .i64 0]) ?_ 1 _ rfl; (with_reducible repeat (first | refine blk_drewN ?_ _ | refine blk_drew ?_ | refine blk_alloc ?_ _)); refine blk_put (cs := #[.int .i64 0, .int .i64 0]) ?_ 0 _ rfl; (with_reducible repeat (first | refine blk_drewN ?_ _ | refine blk_drew ?_ | refine blk_alloc ?_ _)); exact BK252.out) hb); have n4_ := Aside0.mk (blk_below (g := gb253) (o := .cells #[.int .i64 t247, .int .i64 t248] 23 (0, 0)) (by (with_reducible repeat (first | refine blk_drewN ?_ _ | refine blk_drew ?_ | refine blk_alloc ?_ _)); refine blk_put (cs := #[.int .i64 t247, .int .i64 0]) ?_ 1 _ rfl; (with_reducible repeat (first | refine blk_drewN ?_ _ | refine blk_drew ?_ | refine blk_alloc ?_ _)); refine blk_put (cs := #[.int .i64 0, .int .i64 0]) ?_ 0 _ rfl; (with_reducible repeat (first | refine blk_drewN ?_ _ | refine blk_drew ?_ | refine blk_alloc ?_ _)); refine blk_far ?_ NB253_252.out _; (with_reducible repeat (first | refine blk_drewN ?_ _ | refine blk_drew ?_ | refine blk_alloc ?_ _)); refine blk_far ?_ NB253_252.out _; (with_reducible repeat (first | refine blk_drewN ?_ _ | refine blk_drew ?_ | refine blk_alloc ?_ _)); exact BK253.out) hb); have n5_ := Aside0.mk (below_step (bw_ HB.out) hb); clear HO251 BK243 BK252 BK253 HB; have HO251 := n0_; have HO260 := n1_; have BK243 := n2_; have BK252 := n3_; have BK253 := n4_; have HB := n5_; clear n0_ n1_ n2_ n3_ n4_ n5_; (try clear hb); (try clear hb2); (try clear hk); (try clear hi); (try clear ho0)) | ((with_reducible refine gate_dst (N := 11) rfl ?_); refine bx_ (N := 11) (cs := #[.int .i64 0, .int .i64 0]) (t := 27) ?_; intro gb261 hg w28 hbox hb; have n0_ := Aside0.mk (Kd.N_below (Kd.N_elderB (by (with_reducible repeat (first | apply Kd.N_alloc | apply Kd.N_drewN | apply Kd.N_drew)); exact HO251.out) gb261 (Nat.le_of_eq hg.symm)) hb); have n1_ := Aside0.mk (Kd.N_below (Kd.N_elderB (by (with_reducible repeat (first | apply Kd.N_alloc | apply Kd.N_drewN | apply Kd.N_drew)); exact HO260.out) gb261 (Nat.le_of_eq hg.symm)) hb); have n2_ := Aside0.mk (blk_below (bk_ BK243.out) hb); have n3_ := Aside0.mk (blk_below (bk_ BK252.out) hb); have n4_ := Aside0.mk (blk_below (bk_ BK253.out) hb); have n5_ := Aside0.mk (below_step (bw_ HB.out) hb); have n6_ := Aside0.mk (hbox); have n7_ := Aside0.mk (sz_ hg (bw_ HB.out)); have n8_ := n7_; have n9_ := Aside0.mk (ne_ hg (blk_lt (bk_ BK243.out))); have n10_ := Aside0.mk n9_.out.symm; have n11_ := Aside0.mk (ne_ hg (blk_lt (bk_ BK252.out))); have n12_ := Aside0.mk n11_.out.symm; have n13_ := Aside0.mk (ne_ hg (blk_lt (bk_ BK253.out))); have n14_ := Aside0.mk n13_.out.symm; clear HO251 HO260 BK243 BK252 BK253 HB; have HO251 := n0_; have HO260 := n1_; have BK243 := n2_; have BK252 := n3_; have BK253 := n4_; have HB := n5_; have BK261 := n6_; have GW261 := n7_; have GE261 := n8_; have NB243_261 := n9_; have NB261_243 := n10_; have NB252_261 := n11_; have NB261_252 := n12_; have NB253_261 := n13_; have NB261_253 := n14_; clear n0_ n1_ n2_ n3_ n4_ n5_ n6_ n7_ n8_ n9_ n10_ n11_ n12_ n13_ n14_; clear hb hbox hg) | ((with_reducible refine gate_dst (N := 12) rfl ?_); refine bx_ (N := 12) (cs := #[.int .i64 0, .int .i64 0]) (t := 23) ?_; intro gb262 hg w29 hbox hb; have n0_ := Aside0.mk (Kd.N_below (Kd.N_elderB (by (with_reducible repeat (first | apply Kd.N_alloc | apply Kd.N_drewN | apply Kd.N_drew)); exact HO251.out) gb262 (Nat.le_of_eq hg.symm)) hb); have n1_ := Aside0.mk (Kd.N_below (Kd.N_elderB (by (with_reducible repeat (first | apply Kd.N_alloc | apply Kd.N_drewN | apply Kd.N_drew)); exact HO260.out) gb262 (Nat.le_of_eq hg.symm)) hb); have n2_ := Aside0.mk (blk_below (bk_ BK243.out) hb); have n3_ := Aside0.mk (blk_below (bk_ BK252.out) hb); have n4_ := Aside0.mk (blk_below (bk_ BK253.out) hb); have n5_ := Aside0.mk (blk_below (bk_ BK261.out) hb); have n6_ := Aside0.mk (below_step (bw_ HB.out) hb); have n7_ := Aside0.mk (hbox); have n8_ := Aside0.mk (sz_ hg (bw_ HB.out)); have n9_ := n8_; have n10_ := Aside0.mk (ne_ hg (blk_lt (bk_ BK243.out))); have n11_ := Aside0.mk n10_.out.symm; have n12_ := Aside0.mk (ne_ hg (blk_lt (bk_ BK252.out))); have n13_ := Aside0.mk n12_.out.symm; have n14_ := Aside0.mk (ne_ hg (blk_lt (bk_ BK253.out))); have n15_ := Aside0.mk n14_.out.symm; have n16_ := Aside0.mk (ne_ hg (blk_lt (bk_ BK261.out))); have n17_ := Aside0.mk n16_.out.symm; clear HO251 HO260 BK243 BK252 BK253 BK261 HB; have HO251 := n0_; have HO260 := n1_; have BK243 := n2_; have BK252 := n3_; have BK253 := n4_; have BK261 := n5_; have HB := n6_; have BK262 := n7_; have GW262 := n8_; have GE262 := n9_; have NB243_262 := n10_; have NB262_243 := n11_; have NB252_262 := n12_; have NB262_252 := n13_; have NB253_262 := n14_; have NB262_253 := n15_; have NB261_262 := n16_; have NB262_261 := n17_; clear n0_ n1_ n2_ n3_ n4_ n5_ n6_ n7_ n8_ n9_ n10_ n11_ n12_ n13_ n14_ n15_ n16_ n17_; clear hb hbox hg; have hnb30 := NB261_243.out; have hnc30 := NB243_261.out; have hnb31 := NB261_252.out; have hnc31 := NB252_261.out; have hnb32 := NB261_253.out; have hnc32 := NB253_261.out; have hnb33 := NB261_262.out; have hnc33 := NB262_261.out; have hcz34_0 : w29.cell? ⟨gb261, 0, none⟩ = some (.int .i64 0) := (blk_cell BK261.out 0).trans rfl; have hcz34_1 : w29.cell? ⟨gb261, 1, none⟩ = some (.int .i64 0) := (blk_cell BK261.out 1).trans rfl; have hfz34_0 := blk_frozen BK261.out 0; have hfz34_1 := blk_frozen BK261.out 1; have hnb35 := NB262_243.out; have hnc35 := NB243_262.out; have hnb36 := NB262_252.out; have hnc36 := NB252_262.out; have hnb37 := NB262_253.out; have hnc37 := NB253_262.out; have hcz38_0 : w29.cell? ⟨gb262, 0, none⟩ = some (.int .i64 0) := (blk_cell BK262.out 0).trans rfl; have hcz38_1 : w29.cell? ⟨gb262, 1, none⟩ = some (.int .i64 0) := (blk_cell BK262.out 1).trans rfl; have hfz38_0 := blk_frozen BK262.out 0; have hfz38_1 := blk_frozen BK262.out 1; obtain ⟨Ao39, co39, eo39⟩ := Kd.N_slice HO251.out; subst eo39; obtain ⟨Ao40, co40, eo40⟩ := Kd.N_slice HO260.out; subst eo40))
    have n0_ : Aside0 (Kd.N k44 44 ((((w29.setCell ⟨gb261, 0, none⟩ (.int .i64 t254)).setCell ⟨gb261, 1, none⟩ (.int .i64 t255)).setCell ⟨gb262, 0, none⟩ (.int .i64 t256)).setCell ⟨gb262, 1, none⟩ (.int .i64 t257)) w.heap.size (fun k_ => some k_ ≠ (.slice Ao40 t258.length co40 : Value).ownBlock ∧ k_ ≠ gb243 ∧ k_ ≠ gb252 ∧ k_ ≠ gb253 ∧ k_ ≠ gb261 ∧ k_ ≠ gb262) (.slice Ao39 t249.length co39) t249) := ⟨by (with_reducible repeat (first | apply Kd.N_alloc | apply Kd.N_drewN | apply Kd.N_drew)); exact Kd.N_mono (Kd.N_far (p := ⟨gb262, 1, none⟩) (Kd.N_far (p := ⟨gb262, 0, none⟩) (Kd.N_far (p := ⟨gb261, 1, none⟩) (Kd.N_far (p := ⟨gb261, 0, none⟩) (Kd.N_mono (Kd.N_mono HO251.out (fun k_ hk => (⟨hk, hk.1.2⟩ : _ ∧ k_ ≠ gb261))) (fun k_ hk => (⟨hk, hk.1.2⟩ : _ ∧ k_ ≠ gb262))) (fun _ hk => hk.1.2) (.int .i64 t254)) (fun _ hk => hk.1.2) (.int .i64 t255)) (fun _ hk => hk.2) (.int .i64 t256)) (fun _ hk => hk.2) (.int .i64 t257)) (fun _ hk => ⟨hk.1.1.1.1.2, ⟨hk.1.1.1.1.1.1.1, ⟨hk.1.1.1.1.1.1.2, ⟨hk.1.1.1.1.1.2, ⟨hk.1.1.1.2, hk.1.1.2⟩⟩⟩⟩⟩)⟩
    have n1_ : Aside0 (Kd.N k44 44 ((((w29.setCell ⟨gb261, 0, none⟩ (.int .i64 t254)).setCell ⟨gb261, 1, none⟩ (.int .i64 t255)).setCell ⟨gb262, 0, none⟩ (.int .i64 t256)).setCell ⟨gb262, 1, none⟩ (.int .i64 t257)) w.heap.size (fun k_ => some k_ ≠ (.slice Ao39 t249.length co39 : Value).ownBlock ∧ k_ ≠ gb243 ∧ k_ ≠ gb252 ∧ k_ ≠ gb253 ∧ k_ ≠ gb261 ∧ k_ ≠ gb262) (.slice Ao40 t258.length co40) t258) := ⟨by (with_reducible repeat (first | apply Kd.N_alloc | apply Kd.N_drewN | apply Kd.N_drew)); exact Kd.N_mono (Kd.N_far (p := ⟨gb262, 1, none⟩) (Kd.N_far (p := ⟨gb262, 0, none⟩) (Kd.N_far (p := ⟨gb261, 1, none⟩) (Kd.N_far (p := ⟨gb261, 0, none⟩) (Kd.N_mono (Kd.N_mono HO260.out (fun k_ hk => (⟨hk, hk.1.2⟩ : _ ∧ k_ ≠ gb261))) (fun k_ hk => (⟨hk, hk.1.2⟩ : _ ∧ k_ ≠ gb262))) (fun _ hk => hk.1.2) (.int .i64 t254)) (fun _ hk => hk.1.2) (.int .i64 t255)) (fun _ hk => hk.2) (.int .i64 t256)) (fun _ hk => hk.2) (.int .i64 t257)) (fun _ hk => ⟨hk.1.1.1.1.1, ⟨hk.1.1.1.1.2.1, ⟨hk.1.1.1.1.2.2.1, ⟨hk.1.1.1.1.2.2.2, ⟨hk.1.1.1.2, hk.1.1.2⟩⟩⟩⟩⟩)⟩
    have n2_ : Aside0 (((((w29.setCell ⟨gb261, 0, none⟩ (.int .i64 t254)).setCell ⟨gb261, 1, none⟩ (.int .i64 t255)).setCell ⟨gb262, 0, none⟩ (.int .i64 t256)).setCell ⟨gb262, 1, none⟩ (.int .i64 t257)).heap[gb243]? = some (.cells #[.int .i64 a0_0, .int .i64 a0_1] 23 (0, 0))) := ⟨by (with_reducible repeat (first | refine blk_drewN ?_ _ | refine blk_drew ?_ | refine blk_alloc ?_ _)); refine blk_far ?_ NB243_262.out _; (with_reducible repeat (first | refine blk_drewN ?_ _ | refine blk_drew ?_ | refine blk_alloc ?_ _)); refine blk_far ?_ NB243_262.out _; (with_reducible repeat (first | refine blk_drewN ?_ _ | refine blk_drew ?_ | refine blk_alloc ?_ _)); refine blk_far ?_ NB243_261.out _; (with_reducible repeat (first | refine blk_drewN ?_ _ | refine blk_drew ?_ | refine blk_alloc ?_ _)); refine blk_far ?_ NB243_261.out _; (with_reducible repeat (first | refine blk_drewN ?_ _ | refine blk_drew ?_ | refine blk_alloc ?_ _)); exact BK243.out⟩
    have n3_ : Aside0 (((((w29.setCell ⟨gb261, 0, none⟩ (.int .i64 t254)).setCell ⟨gb261, 1, none⟩ (.int .i64 t255)).setCell ⟨gb262, 0, none⟩ (.int .i64 t256)).setCell ⟨gb262, 1, none⟩ (.int .i64 t257)).heap[gb252]? = some (.cells #[.int .i64 t245, .int .i64 t246] 27 (0, 0))) := ⟨by (with_reducible repeat (first | refine blk_drewN ?_ _ | refine blk_drew ?_ | refine blk_alloc ?_ _)); refine blk_far ?_ NB252_262.out _; (with_reducible repeat (first | refine blk_drewN ?_ _ | refine blk_drew ?_ | refine blk_alloc ?_ _)); refine blk_far ?_ NB252_262.out _; (with_reducible repeat (first | refine blk_drewN ?_ _ | refine blk_drew ?_ | refine blk_alloc ?_ _)); refine blk_far ?_ NB252_261.out _; (with_reducible repeat (first | refine blk_drewN ?_ _ | refine blk_drew ?_ | refine blk_alloc ?_ _)); refine blk_far ?_ NB252_261.out _; (with_reducible repeat (first | refine blk_drewN ?_ _ | refine blk_drew ?_ | refine blk_alloc ?_ _)); exact BK252.out⟩
    have n4_ : Aside0 (((((w29.setCell ⟨gb261, 0, none⟩ (.int .i64 t254)).setCell ⟨gb261, 1, none⟩ (.int .i64 t255)).setCell ⟨gb262, 0, none⟩ (.int .i64 t256)).setCell ⟨gb262, 1, none⟩ (.int .i64 t257)).heap[gb253]? = some (.cells #[.int .i64 t247, .int .i64 t248] 23 (0, 0))) := ⟨by (with_reducible repeat (first | refine blk_drewN ?_ _ | refine blk_drew ?_ | refine blk_alloc ?_ _)); refine blk_far ?_ NB253_262.out _; (with_reducible repeat (first | refine blk_drewN ?_ _ | refine blk_drew ?_ | refine blk_alloc ?_ _)); refine blk_far ?_ NB253_262.out _; (with_reducible repeat (first | refine blk_drewN ?_ _ | refine blk_drew ?_ | refine blk_alloc ?_ _)); refine blk_far ?_ NB253_261.out _; (with_reducible repeat (first | refine blk_drewN ?_ _ | refine blk_drew ?_ | refine blk_alloc ?_ _)); refine blk_far ?_ NB253_261.out _; (with_reducible repeat (first | refine blk_drewN ?_ _ | refine blk_drew ?_ | refine blk_alloc ?_ _)); exact BK253.out⟩
    have n5_ : Aside0 (((((w29.setCell ⟨gb261, 0, none⟩ (.int .i64 t254)).setCell ⟨gb261, 1, none⟩ (.int .i64 t255)).setCell ⟨gb262, 0, none⟩ (.int .i64 t256)).setCell ⟨gb262, 1, none⟩ (.int .i64 t257)).heap[gb261]? = some (.cells #[.int .i64 t254, .int .i64 t255] 27 (0, 0))) := ⟨by (with_reducible repeat (first | refine blk_drewN ?_ _ | refine blk_drew ?_ | refine blk_alloc ?_ _)); refine blk_far ?_ NB261_262.out _; (with_reducible repeat (first | refine blk_drewN ?_ _ | refine blk_drew ?_ | refine blk_alloc ?_ _)); refine blk_far ?_ NB261_262.out _; (with_reducible repeat (first | refine blk_drewN ?_ _ | refine blk_drew ?_ | refine blk_alloc ?_ _)); refine blk_put (cs := #[.int .i64 t254, .int .i64 0]) ?_ 1 _ rfl; (with_reducible repeat (first | refine blk_drewN ?_ _ | refine blk_drew ?_ | refine blk_alloc ?_ _)); refine blk_put (cs := #[.int .i64 0, .int .i64 0]) ?_ 0 _ rfl; (with_reducible repeat (first | refine blk_drewN ?_ _ | refine blk_drew ?_ | refine blk_alloc ?_ _)); exact BK261.out⟩
    have n6_ : Aside0 (((((w29.setCell ⟨gb261, 0, none⟩ (.int .i64 t254)).setCell ⟨gb261, 1, none⟩ (.int .i64 t255)).setCell ⟨gb262, 0, none⟩ (.int .i64 t256)).setCell ⟨gb262, 1, none⟩ (.int .i64 t257)).heap[gb262]? = some (.cells #[.int .i64 t256, .int .i64 t257] 23 (0, 0))) := ⟨by (with_reducible repeat (first | refine blk_drewN ?_ _ | refine blk_drew ?_ | refine blk_alloc ?_ _)); refine blk_put (cs := #[.int .i64 t256, .int .i64 0]) ?_ 1 _ rfl; (with_reducible repeat (first | refine blk_drewN ?_ _ | refine blk_drew ?_ | refine blk_alloc ?_ _)); refine blk_put (cs := #[.int .i64 0, .int .i64 0]) ?_ 0 _ rfl; (with_reducible repeat (first | refine blk_drewN ?_ _ | refine blk_drew ?_ | refine blk_alloc ?_ _)); refine blk_far ?_ NB262_261.out _; (with_reducible repeat (first | refine blk_drewN ?_ _ | refine blk_drew ?_ | refine blk_alloc ?_ _)); refine blk_far ?_ NB262_261.out _; (with_reducible repeat (first | refine blk_drewN ?_ _ | refine blk_drew ?_ | refine blk_alloc ?_ _)); exact BK262.out⟩
    have n7_ : Aside0 (Below w.heap.size w ((((w29.setCell ⟨gb261, 0, none⟩ (.int .i64 t254)).setCell ⟨gb261, 1, none⟩ (.int .i64 t255)).setCell ⟨gb262, 0, none⟩ (.int .i64 t256)).setCell ⟨gb262, 1, none⟩ (.int .i64 t257))) := ⟨by repeat (first | (with_reducible first | exact HB.out | apply below_alloc | apply pw_below_drewN | apply below_drew1 | refine below_set ?_ GE243.out | refine below_set ?_ GE252.out | refine below_set ?_ GE253.out | refine below_set ?_ GE261.out | refine below_set ?_ GE262.out) | exact HB.out)⟩
    (try clear HO251)
    (try clear HO260)
    (try clear BK243)
    (try clear BK252)
    (try clear BK253)
    (try clear BK261)
    (try clear BK262)
    (try clear HB)
    generalize ((((w29.setCell ⟨gb261, 0, none⟩ (.int .i64 t254)).setCell ⟨gb261, 1, none⟩ (.int .i64 t255)).setCell ⟨gb262, 0, none⟩ (.int .i64 t256)).setCell ⟨gb262, 1, none⟩ (.int .i64 t257)) = w41 at n0_ n1_ n2_ n3_ n4_ n5_ n6_ n7_ ⊢
    have HO251 := n0_
    have HO260 := n1_
    have BK243 := n2_
    have BK252 := n3_
    have BK253 := n4_
    have BK261 := n5_
    have BK262 := n6_
    have HB := n7_
    clear n0_ n1_ n2_ n3_ n4_ n5_ n6_ n7_
    have n0_ := Aside0.mk (Kd.N_drew HO251.out)
    have n1_ := Aside0.mk (Kd.N_drew HO260.out)
    have n2_ := Aside0.mk (blk_drew BK243.out)
    have n3_ := Aside0.mk (blk_drew BK252.out)
    have n4_ := Aside0.mk (blk_drew BK253.out)
    have n5_ := Aside0.mk (blk_drew BK261.out)
    have n6_ := Aside0.mk (blk_drew BK262.out)
    have n7_ := Aside0.mk (below_drew1 HB.out)
    clear HO251
    clear HO260
    clear BK243
    clear BK252
    clear BK253
    clear BK261
    clear BK262
    clear HB
    have HO251 := n0_
    have HO260 := n1_
    have BK243 := n2_
    have BK252 := n3_
    have BK253 := n4_
    have BK261 := n5_
    have BK262 := n6_
    have HB := n7_
    clear n0_ n1_ n2_ n3_ n4_ n5_ n6_ n7_
    refine start_ (n := 10) (S := fun w' => w'.cell? ⟨gb253, 0, none⟩ = some (.int .i64 t247) ∧ w'.cell? ⟨gb253, 1, none⟩ = some (.int .i64 t248)) (ds := []) #[false, false, false, false, false, false, false, false, false, false] (by kernel_rfl) rfl rfl ⟨(blk_cell BK253.out 0).trans rfl, (blk_cell BK253.out 1).trans rfl⟩ (fun hHeld => ?_); refine with_tabW gristmilllaw06_AggMerges.tab6 gristmilllaw06_AggMerges.bits6 (fun HT_ HW_ => ?_)
    generalize w41.drew = w42 at HO251 HO260 BK243 BK252 BK253 BK261 BK262 HB hHeld ⊢
    refine pure_ (i := 2) (N := some 35) (v := ?_) (a' := ?_) #[false, false, true, false, false, false, false, false, false, false] rfl rfl (any_of HT_.out (by kernel_rfl)) (fun _ _ _ h => h) (Or.inl ⟨by rfl, ?_⟩) ?_ ?_
    rotate_left
    ·intro w'
     go_simp
     with_reducible rfl
    rotate_left
    ·simp only [Act.put, q1_, q2_, q3_, i64_w, i32_w]
     rfl
    refine pure_ (i := 5) (N := some 38) (v := ?_) (a' := ?_) #[false, false, true, false, false, true, false, false, false, false] rfl rfl (any_of HT_.out (by kernel_rfl)) (fun _ _ _ h => h) (Or.inl ⟨by rfl, ?_⟩) ?_ ?_
    rotate_left
    ·intro w'
     go_simp
     with_reducible rfl
    rotate_left
    ·simp only [Act.put, q1_, q2_, q3_, i64_w, i32_w]
     rfl
    refine take_ (i := 0) (N := some 33) (v := ?_) (a' := ?_) #[true, false, true, false, false, true, false, false, false, false] rfl rfl (take_ofW HT_.out HW_.out (by kernel_rfl)) (fun _ _ _ h => h) (Or.inl ⟨by rfl, ?_⟩) hHeld ?_ ?_
    rotate_left
    ·rintro w' ⟨s0, s1⟩
     go_simp
     with_reducible rfl
    rotate_left
    ·simp only [Act.put, q1_, q2_, q3_, i64_w, i32_w]
     rfl
    refine take_ (i := 1) (N := some 34) (v := ?_) (a' := ?_) #[true, true, true, false, false, true, false, false, false, false] rfl rfl (take_ofW HT_.out HW_.out (by kernel_rfl)) (fun _ _ _ h => h) (Or.inl ⟨by rfl, ?_⟩) hHeld ?_ ?_
    rotate_left
    ·rintro w' ⟨s0, s1⟩
     go_simp
     with_reducible rfl
    rotate_left
    ·simp only [Act.put, q1_, q2_, q3_, i64_w, i32_w]
     rfl
    refine take_ (i := 4) (N := some 37) (v := ?_) (a' := ?_) #[true, true, true, false, true, true, false, false, false, false] rfl rfl (take_ofW HT_.out HW_.out (by kernel_rfl)) (fun _ _ _ h => h) (Or.inl ⟨by rfl, ?_⟩) hHeld ?_ ?_
    rotate_left
    ·rintro w' ⟨s0, s1⟩
     go_simp
     with_reducible rfl
    rotate_left
    ·simp only [Act.put, q1_, q2_, q3_, i64_w, i32_w]
     rfl
    refine join_ (σ := Value × Value × Value × Nat) 1 #[true, true, true, true, true, true, true, true, true, false] (fun s_ => [(36, .agg #[.int .u64 t263, .int .i64 t264, s_.1]), (39, .agg #[.int .u64 t268, .int .i64 t269, s_.2.1]), (40, .agg #[.int .u64 t273, .int .i64 t274, s_.2.2.1]), (14, .pointer (some ⟨s_.2.2.2, 0, none⟩))]) (fun s_ w' => (w'.cell? ⟨gb253, 0, none⟩ = some (.int .i64 t247) ∧ w'.cell? ⟨gb253, 1, none⟩ = some (.int .i64 t248)) ∧ (Kd.N k44 44 w' w.heap.size (fun k_ => some k_ ≠ (.slice Ao40 t258.length co40 : Value).ownBlock ∧ some k_ ≠ (s_.1 : Value).ownBlock ∧ some k_ ≠ (s_.2.1 : Value).ownBlock ∧ some k_ ≠ (s_.2.2.1 : Value).ownBlock ∧ k_ ≠ gb243 ∧ k_ ≠ gb252 ∧ k_ ≠ gb253 ∧ k_ ≠ gb261 ∧ k_ ≠ gb262 ∧ k_ ≠ s_.2.2.2) (.slice Ao39 t249.length co39) t249) ∧ (Kd.N k44 44 w' w.heap.size (fun k_ => some k_ ≠ (.slice Ao39 t249.length co39 : Value).ownBlock ∧ some k_ ≠ (s_.1 : Value).ownBlock ∧ some k_ ≠ (s_.2.1 : Value).ownBlock ∧ some k_ ≠ (s_.2.2.1 : Value).ownBlock ∧ k_ ≠ gb243 ∧ k_ ≠ gb252 ∧ k_ ≠ gb253 ∧ k_ ≠ gb261 ∧ k_ ≠ gb262 ∧ k_ ≠ s_.2.2.2) (.slice Ao40 t258.length co40) t258) ∧ (Kd.R Kd.string 9 w' w.heap.size (fun k_ => some k_ ≠ (s_.2.1 : Value).ownBlock ∧ some k_ ≠ (s_.2.2.1 : Value).ownBlock) s_.1 t265) ∧ (Kd.R Kd.string 9 w' w.heap.size (fun k_ => some k_ ≠ (s_.1 : Value).ownBlock ∧ some k_ ≠ (s_.2.2.1 : Value).ownBlock) s_.2.1 t270) ∧ (Kd.R Kd.string 9 w' w.heap.size (fun k_ => some k_ ≠ (s_.1 : Value).ownBlock ∧ some k_ ≠ (s_.2.1 : Value).ownBlock) s_.2.2.1 t275) ∧ (w'.heap[gb243]? = some (.cells #[.int .i64 a0_0, .int .i64 a0_1] 23 (0, 0))) ∧ (w'.heap[gb252]? = some (.cells #[.int .i64 t245, .int .i64 t246] 27 (0, 0))) ∧ (w'.heap[gb253]? = some (.cells #[.int .i64 t247, .int .i64 t248] 23 (0, 0))) ∧ (w'.heap[gb261]? = some (.cells #[.int .i64 t254, .int .i64 t255] 27 (0, 0))) ∧ (w'.heap[gb262]? = some (.cells #[.int .i64 t256, .int .i64 t257] 23 (0, 0))) ∧ (w'.heap[s_.2.2.2]? = some (.cells #[.int .u64 0, .int .i64 0, .slice none 0 0] 33 (0, 0))) ∧ (w.heap.size ≤ s_.2.2.2) ∧ (w.heap.size ≤ s_.2.2.2) ∧ (gb243 ≠ s_.2.2.2) ∧ (s_.2.2.2 ≠ gb243) ∧ (gb252 ≠ s_.2.2.2) ∧ (s_.2.2.2 ≠ gb252) ∧ (gb253 ≠ s_.2.2.2) ∧ (s_.2.2.2 ≠ gb253) ∧ (gb261 ≠ s_.2.2.2) ∧ (s_.2.2.2 ≠ gb261) ∧ (gb262 ≠ s_.2.2.2) ∧ (s_.2.2.2 ≠ gb262) ∧ (Below w.heap.size w w')) ?_ ?_
    rotate_left
    ·intro hCont
     refine two_ (i := 3) (j := 8) (Ni := some 36) (Nj := some 14) #[true, true, true, true, true, true, false, false, false, false] #[true, true, true, false, true, true, false, false, true, false] rfl rfl rfl rfl (two_of HT_.out (by kernel_rfl)) (by decide) (by decide) (fun K hK => ?_) (fun K hK => ?_)
     ·skip
      refine goes_ Try.func12 (by kernel_rfl) rfl #[.agg #[.int .i64 t247, .int .i64 t248], .slice Ao39 t249.length co39] (by rfl) rfl rfl (by (try simp only [List.map_toArray, List.map_cons, List.map_nil]); first | done | rfl | (simp only [List.length_drop, List.length_take]; rfl)) ?_
      with_reducible refine (gristmilllaw06_of.calls k t247 t248 _ _ t249 t263 t264 t265 _ ?side1 ?side2 A8.out).mono ?_
      (case side1 => repeat (first | exact (Kd.N_reads' HO251.out).2.2 | (with_reducible refine Kd.C_alloc ?_ _) | (with_reducible refine Kd.C_drewN ?_ _) | (with_reducible refine Kd.C_drew ?_)))
      (case side2 => exact (Kd.N_reads' HO251.out).2.1)
      rintro e w43 ⟨v266, rfl, ho0, hb⟩
      refine ⟨_, rfl, ?_⟩
      have n0_ := Aside0.mk (Kd.N_elder' (by (with_reducible repeat (first | apply Kd.N_alloc | apply Kd.N_drewN | apply Kd.N_drew)); exact HO251.out) (Kd.R_base ho0) hb)
      have n1_ := Aside0.mk (Kd.N_elder' (by (with_reducible repeat (first | apply Kd.N_alloc | apply Kd.N_drewN | apply Kd.N_drew)); exact HO260.out) (Kd.R_base ho0) hb)
      have n2_ := Aside0.mk (Kd.R_lower ho0 (below_size (bw_ HB.out)))
      have n3_ := Aside0.mk (blk_below (bk_ BK243.out) hb)
      have n4_ := Aside0.mk (blk_below (bk_ BK252.out) hb)
      have n5_ := Aside0.mk (blk_below (bk_ BK253.out) hb)
      have n6_ := Aside0.mk (blk_below (bk_ BK261.out) hb)
      have n7_ := Aside0.mk (blk_below (bk_ BK262.out) hb)
      have n8_ := Aside0.mk (below_step (bw_ HB.out) hb)
      clear HO251
      clear HO260
      clear BK243
      clear BK252
      clear BK253
      clear BK261
      clear BK262
      clear HB
      have HO251 := n0_
      have HO260 := n1_
      have HO267 := n2_
      have BK243 := n3_
      have BK252 := n4_
      have BK253 := n5_
      have BK261 := n6_
      have BK262 := n7_
      have HB := n8_
      clear n0_ n1_ n2_ n3_ n4_ n5_ n6_ n7_ n8_
      (try clear hb)
      (try clear hb2)
      (try clear hk)
      (try clear hi)
      (try clear ho0)
      refine hK.out _ _ ⟨(blk_cell BK253.out 0).trans rfl, (blk_cell BK253.out 1).trans rfl⟩ (fun hHeld => ?_)
      clear hK K
      refine norm_ (a' := ?_) ?_ ?_
      rotate_left
      ·show Act.put _ (some 36) _ = _
       simp only [Act.put, q1_, q2_, q3_, i64_w, i32_w]
       rfl
      refine two_ (i := 6) (j := 8) (Ni := some 39) (Nj := some 14) #[true, true, true, true, true, true, true, false, false, false] #[true, true, true, true, true, true, false, false, true, false] rfl rfl rfl rfl (two_of HT_.out (by kernel_rfl)) (by decide) (by decide) (fun K hK => ?_) (fun K hK => ?_)
      ·skip
       refine goes_ Try.func12 (by kernel_rfl) rfl #[.agg #[.int .i64 t247, .int .i64 t248], .slice Ao40 t258.length co40] (by rfl) rfl rfl (by (try simp only [List.map_toArray, List.map_cons, List.map_nil]); first | done | rfl | (simp only [List.length_drop, List.length_take]; rfl)) ?_
       with_reducible refine (gristmilllaw06_of.calls k t247 t248 _ _ t258 t268 t269 t270 _ ?side1 ?side2 A9.out).mono ?_
       (case side1 => repeat (first | exact (Kd.N_reads' HO260.out).2.2 | (with_reducible refine Kd.C_alloc ?_ _) | (with_reducible refine Kd.C_drewN ?_ _) | (with_reducible refine Kd.C_drew ?_)))
       (case side2 => exact (Kd.N_reads' HO260.out).2.1)
       rintro e w44 ⟨v271, rfl, ho0, hb⟩
       refine ⟨_, rfl, ?_⟩
       have n0_ := Aside0.mk (Kd.N_elder' (by (with_reducible repeat (first | apply Kd.N_alloc | apply Kd.N_drewN | apply Kd.N_drew)); exact HO251.out) (Kd.R_base ho0) hb)
       have n1_ := Aside0.mk (Kd.N_elder' (by (with_reducible repeat (first | apply Kd.N_alloc | apply Kd.N_drewN | apply Kd.N_drew)); exact HO260.out) (Kd.R_base ho0) hb)
       have n2_ := Aside0.mk (Kd.R_elder' (by (with_reducible repeat (first | apply Kd.R_alloc | apply Kd.R_drewN | apply Kd.R_drew)); exact HO267.out) (Kd.R_base ho0) hb)
       have n3_ := Aside0.mk (Kd.R_lower (Kd.R_new' ho0 (Kd.R_lt (by (with_reducible repeat (first | apply Kd.R_alloc | apply Kd.R_drewN | apply Kd.R_drew)); exact HO267.out))) (below_size (bw_ HB.out)))
       have n4_ := Aside0.mk (blk_below (bk_ BK243.out) hb)
       have n5_ := Aside0.mk (blk_below (bk_ BK252.out) hb)
       have n6_ := Aside0.mk (blk_below (bk_ BK253.out) hb)
       have n7_ := Aside0.mk (blk_below (bk_ BK261.out) hb)
       have n8_ := Aside0.mk (blk_below (bk_ BK262.out) hb)
       have n9_ := Aside0.mk (below_step (bw_ HB.out) hb)
       clear HO251
       clear HO260
       clear HO267
       clear BK243
       clear BK252
       clear BK253
       clear BK261
       clear BK262
       clear HB
       have HO251 := n0_
       have HO260 := n1_
       have HO267 := n2_
       have HO272 := n3_
       have BK243 := n4_
       have BK252 := n5_
       have BK253 := n6_
       have BK261 := n7_
       have BK262 := n8_
       have HB := n9_
       clear n0_ n1_ n2_ n3_ n4_ n5_ n6_ n7_ n8_ n9_
       (try clear hb)
       (try clear hb2)
       (try clear hk)
       (try clear hi)
       (try clear ho0)
       obtain ⟨Ao45, co45, eo45⟩ := Kd.R_slice HO267.out
       (first | subst eo45 | (injection eo45 with f1_ f2_ f3_; have f4_ := f1_.symm; have f5_ := f3_.symm; clear f1_ f2_ f3_; subst f4_; subst f5_))
       obtain ⟨Ao46, co46, eo46⟩ := Kd.R_slice HO272.out
       (first | subst eo46 | (injection eo46 with f1_ f2_ f3_; have f4_ := f1_.symm; have f5_ := f3_.symm; clear f1_ f2_ f3_; subst f4_; subst f5_))
       refine hK.out _ _ ⟨(blk_cell BK253.out 0).trans rfl, (blk_cell BK253.out 1).trans rfl⟩ (fun hHeld => ?_)
       clear hK K
       refine norm_ (a' := ?_) ?_ ?_
       rotate_left
       ·show Act.put _ (some 39) _ = _
        simp only [Act.put, q1_, q2_, q3_, i64_w, i32_w]
        rfl
       refine two_ (i := 7) (j := 8) (Ni := some 40) (Nj := some 14) #[true, true, true, true, true, true, true, true, false, false] #[true, true, true, true, true, true, true, false, true, false] rfl rfl rfl rfl (two_of HT_.out (by kernel_rfl)) (by decide) (by decide) (fun K hK => ?_) (fun K hK => ?_)
       ·skip
        refine goes_ Try.func17 (by kernel_rfl) rfl #[.agg #[.int .i64 t247, .int .i64 t248], .agg #[.int .u64 t263, .int .i64 t264, .slice Ao45 t265.length co45], .agg #[.int .u64 t268, .int .i64 t269, .slice Ao46 t270.length co46]] (by rfl) rfl rfl (by (try simp only [List.map_toArray, List.map_cons, List.map_nil]); first | done | rfl | (simp only [List.length_drop, List.length_take]; rfl)) ?_
        with_reducible refine (agg_Merge.calls t247 t248 t263 t264 _ _ t265 t268 t269 _ _ t270 t273 t274 t275 _ ?side1 ?side2 ?side3 ?side4 A10.out).mono ?_
        (case side1 => repeat (first | exact (Kd.R_reads' HO267.out).2.2 | (with_reducible refine Kd.C_alloc ?_ _) | (with_reducible refine Kd.C_drewN ?_ _) | (with_reducible refine Kd.C_drew ?_)))
        (case side2 => exact (Kd.R_reads' HO267.out).2.1)
        (case side3 => repeat (first | exact (Kd.R_reads' HO272.out).2.2 | (with_reducible refine Kd.C_alloc ?_ _) | (with_reducible refine Kd.C_drewN ?_ _) | (with_reducible refine Kd.C_drew ?_)))
        (case side4 => exact (Kd.R_reads' HO272.out).2.1)
        rintro e w47 ⟨v276, rfl, ho0, hb⟩
        refine ⟨_, rfl, ?_⟩
        have n0_ := Aside0.mk (Kd.N_elder' (by (with_reducible repeat (first | apply Kd.N_alloc | apply Kd.N_drewN | apply Kd.N_drew)); exact HO251.out) (Kd.R_base ho0) hb)
        have n1_ := Aside0.mk (Kd.N_elder' (by (with_reducible repeat (first | apply Kd.N_alloc | apply Kd.N_drewN | apply Kd.N_drew)); exact HO260.out) (Kd.R_base ho0) hb)
        have n2_ := Aside0.mk (Kd.R_elder' (by (with_reducible repeat (first | apply Kd.R_alloc | apply Kd.R_drewN | apply Kd.R_drew)); exact HO267.out) (Kd.R_base ho0) hb)
        have n3_ := Aside0.mk (Kd.R_elder' (by (with_reducible repeat (first | apply Kd.R_alloc | apply Kd.R_drewN | apply Kd.R_drew)); exact HO272.out) (Kd.R_base ho0) hb)
        have n4_ := Aside0.mk (Kd.R_lower (Kd.R_new' (Kd.R_new' ho0 (Kd.R_lt (by (with_reducible repeat (first | apply Kd.R_alloc | apply Kd.R_drewN | apply Kd.R_drew)); exact HO267.out))) (Kd.R_lt (by (with_reducible repeat (first | apply Kd.R_alloc | apply Kd.R_drewN | apply Kd.R_drew)); exact HO272.out))) (below_size (bw_ HB.out)))
        have n5_ := Aside0.mk (blk_below (bk_ BK243.out) hb)
        have n6_ := Aside0.mk (blk_below (bk_ BK252.out) hb)
        have n7_ := Aside0.mk (blk_below (bk_ BK253.out) hb)
        have n8_ := Aside0.mk (blk_below (bk_ BK261.out) hb)
        have n9_ := Aside0.mk (blk_below (bk_ BK262.out) hb)
        have n10_ := Aside0.mk (below_step (bw_ HB.out) hb)
        clear HO251
        clear HO260
        clear HO267
        clear HO272
        clear BK243
        clear BK252
        clear BK253
        clear BK261
        clear BK262
        clear HB
        have HO251 := n0_
        have HO260 := n1_
        have HO267 := n2_
        have HO272 := n3_
        have HO277 := n4_
        have BK243 := n5_
        have BK252 := n6_
        have BK253 := n7_
        have BK261 := n8_
        have BK262 := n9_
        have HB := n10_
        clear n0_ n1_ n2_ n3_ n4_ n5_ n6_ n7_ n8_ n9_ n10_
        (try clear hb)
        (try clear hb2)
        (try clear hk)
        (try clear hi)
        (try clear ho0)
        refine hK.out _ _ ⟨(blk_cell BK253.out 0).trans rfl, (blk_cell BK253.out 1).trans rfl⟩ (fun hHeld => ?_)
        clear hK K
        refine norm_ (a' := ?_) ?_ ?_
        rotate_left
        ·show Act.put _ (some 40) _ = _
         simp only [Act.put, q1_, q2_, q3_, i64_w, i32_w]
         rfl
        refine one_ (i := 8) (N := some 14) #[true, true, true, true, true, true, true, true, true, false] rfl rfl (one_of HT_.out (by kernel_rfl)) (by decide) (fun K hK => ?_)
        refine box_step ?hg (N := 14) ?hd (cs := #[.int .u64 0, .int .i64 0, .slice none 0 0]) (t := 33) ?hr ?_; (case hd => rfl); (case hg => rfl); (case hr => first | (go_simp; done) | (go_simp; rfl))
        intro gb278 hg w48 hbox hb
        have n0_ := Aside0.mk (Kd.N_below (Kd.N_elderB (by (with_reducible repeat (first | apply Kd.N_alloc | apply Kd.N_drewN | apply Kd.N_drew)); exact HO251.out) gb278 (Nat.le_of_eq hg.symm)) hb)
        have n1_ := Aside0.mk (Kd.N_below (Kd.N_elderB (by (with_reducible repeat (first | apply Kd.N_alloc | apply Kd.N_drewN | apply Kd.N_drew)); exact HO260.out) gb278 (Nat.le_of_eq hg.symm)) hb)
        have n2_ := Aside0.mk (Kd.R_below (by (with_reducible repeat (first | apply Kd.R_alloc | apply Kd.R_drewN | apply Kd.R_drew)); exact HO267.out) hb)
        have n3_ := Aside0.mk (Kd.R_below (by (with_reducible repeat (first | apply Kd.R_alloc | apply Kd.R_drewN | apply Kd.R_drew)); exact HO272.out) hb)
        have n4_ := Aside0.mk (Kd.R_below (by (with_reducible repeat (first | apply Kd.R_alloc | apply Kd.R_drewN | apply Kd.R_drew)); exact HO277.out) hb)
        have n5_ := Aside0.mk (blk_below (bk_ BK243.out) hb)
        have n6_ := Aside0.mk (blk_below (bk_ BK252.out) hb)
        have n7_ := Aside0.mk (blk_below (bk_ BK253.out) hb)
        have n8_ := Aside0.mk (blk_below (bk_ BK261.out) hb)
        have n9_ := Aside0.mk (blk_below (bk_ BK262.out) hb)
        have n10_ := Aside0.mk (below_step (bw_ HB.out) hb)
        have n11_ := Aside0.mk (hbox)
        have n12_ := Aside0.mk ((by rw [hg]; exact (below_size (bw_ HB.out)) : w.heap.size ≤ gb278))
        have n13_ := Aside0.mk ((by rw [hg]; exact (below_size (bw_ HB.out)) : w.heap.size ≤ gb278))
        have n14_ := Aside0.mk ((by rw [hg]; exact Nat.ne_of_lt (blk_lt (bk_ BK243.out)) : gb243 ≠ gb278))
        have n15_ := Aside0.mk ((by rw [hg]; exact Nat.ne_of_gt (blk_lt (bk_ BK243.out)) : gb278 ≠ gb243))
        have n16_ := Aside0.mk ((by rw [hg]; exact Nat.ne_of_lt (blk_lt (bk_ BK252.out)) : gb252 ≠ gb278))
        have n17_ := Aside0.mk ((by rw [hg]; exact Nat.ne_of_gt (blk_lt (bk_ BK252.out)) : gb278 ≠ gb252))
        have n18_ := Aside0.mk ((by rw [hg]; exact Nat.ne_of_lt (blk_lt (bk_ BK253.out)) : gb253 ≠ gb278))
        have n19_ := Aside0.mk ((by rw [hg]; exact Nat.ne_of_gt (blk_lt (bk_ BK253.out)) : gb278 ≠ gb253))
        have n20_ := Aside0.mk ((by rw [hg]; exact Nat.ne_of_lt (blk_lt (bk_ BK261.out)) : gb261 ≠ gb278))
        have n21_ := Aside0.mk ((by rw [hg]; exact Nat.ne_of_gt (blk_lt (bk_ BK261.out)) : gb278 ≠ gb261))
        have n22_ := Aside0.mk ((by rw [hg]; exact Nat.ne_of_lt (blk_lt (bk_ BK262.out)) : gb262 ≠ gb278))
        have n23_ := Aside0.mk ((by rw [hg]; exact Nat.ne_of_gt (blk_lt (bk_ BK262.out)) : gb278 ≠ gb262))
        clear HO251
        clear HO260
        clear HO267
        clear HO272
        clear HO277
        clear BK243
        clear BK252
        clear BK253
        clear BK261
        clear BK262
        clear HB
        have HO251 := n0_
        have HO260 := n1_
        have HO267 := n2_
        have HO272 := n3_
        have HO277 := n4_
        have BK243 := n5_
        have BK252 := n6_
        have BK253 := n7_
        have BK261 := n8_
        have BK262 := n9_
        have HB := n10_
        have BK278 := n11_
        have GW278 := n12_
        have GE278 := n13_
        have NB243_278 := n14_
        have NB278_243 := n15_
        have NB252_278 := n16_
        have NB278_252 := n17_
        have NB253_278 := n18_
        have NB278_253 := n19_
        have NB261_278 := n20_
        have NB278_261 := n21_
        have NB262_278 := n22_
        have NB278_262 := n23_
        clear n0_ n1_ n2_ n3_ n4_ n5_ n6_ n7_ n8_ n9_ n10_ n11_ n12_ n13_ n14_ n15_ n16_ n17_ n18_ n19_ n20_ n21_ n22_ n23_
        clear hb hbox hg
        refine hK.out _ _ ⟨(blk_cell BK253.out 0).trans rfl, (blk_cell BK253.out 1).trans rfl⟩ (fun hHeld => ?_)
        clear hK K
        refine norm_ (a' := ?_) ?_ ?_
        rotate_left
        ·show Act.put _ (some 14) _ = _
         simp only [Act.put, q1_, q2_, q3_, i64_w, i32_w]
         rfl
        exact norm_ (by simp only [putAll, Act.put, q1_, q2_, q3_]) (hCont (.slice Ao45 t265.length co45, .slice Ao46 t270.length co46, v276, gb278) _ ⟨hHeld, (by (with_reducible repeat (first | apply Kd.N_alloc | apply Kd.N_drewN | apply Kd.N_drew)); exact Kd.N_mono HO251.out (fun _ hk => ⟨hk.1.1.1.1.1, ⟨hk.1.1.1.2, ⟨hk.1.1.2, ⟨hk.1.2, ⟨hk.1.1.1.1.2.1, ⟨hk.1.1.1.1.2.2.1, ⟨hk.1.1.1.1.2.2.2.1, ⟨hk.1.1.1.1.2.2.2.2.1, ⟨hk.1.1.1.1.2.2.2.2.2, hk.2⟩⟩⟩⟩⟩⟩⟩⟩⟩)), (by (with_reducible repeat (first | apply Kd.N_alloc | apply Kd.N_drewN | apply Kd.N_drew)); exact Kd.N_mono HO260.out (fun _ hk => ⟨hk.1.1.1.1.1, ⟨hk.1.1.1.2, ⟨hk.1.1.2, ⟨hk.1.2, ⟨hk.1.1.1.1.2.1, ⟨hk.1.1.1.1.2.2.1, ⟨hk.1.1.1.1.2.2.2.1, ⟨hk.1.1.1.1.2.2.2.2.1, ⟨hk.1.1.1.1.2.2.2.2.2, hk.2⟩⟩⟩⟩⟩⟩⟩⟩⟩)), (by (with_reducible repeat (first | apply Kd.R_alloc | apply Kd.R_drewN | apply Kd.R_drew)); exact Kd.R_mono HO267.out (fun _ hk => ⟨hk.1.2, hk.2⟩)), (by (with_reducible repeat (first | apply Kd.R_alloc | apply Kd.R_drewN | apply Kd.R_drew)); exact Kd.R_mono HO272.out (fun _ hk => ⟨hk.1.2, hk.2⟩)), (by (with_reducible repeat (first | apply Kd.R_alloc | apply Kd.R_drewN | apply Kd.R_drew)); exact Kd.R_mono HO277.out (fun _ hk => ⟨hk.1.2, hk.2⟩)), (bk_ BK243.out), (bk_ BK252.out), (bk_ BK253.out), (bk_ BK261.out), (bk_ BK262.out), (bk_ BK278.out), GW278.out, GE278.out, NB243_278.out, NB278_243.out, NB252_278.out, NB278_252.out, NB253_278.out, NB278_253.out, NB261_278.out, NB278_261.out, NB262_278.out, NB278_262.out, (bw_ HB.out)⟩)
       ·skip
        refine box_step ?hg (N := 14) ?hd (cs := #[.int .u64 0, .int .i64 0, .slice none 0 0]) (t := 33) ?hr ?_; (case hd => rfl); (case hg => rfl); (case hr => first | (go_simp; done) | (go_simp; rfl))
        intro gb278 hg w45 hbox hb
        have n0_ := Aside0.mk (Kd.N_below (Kd.N_elderB (by (with_reducible repeat (first | apply Kd.N_alloc | apply Kd.N_drewN | apply Kd.N_drew)); exact HO251.out) gb278 (Nat.le_of_eq hg.symm)) hb)
        have n1_ := Aside0.mk (Kd.N_below (Kd.N_elderB (by (with_reducible repeat (first | apply Kd.N_alloc | apply Kd.N_drewN | apply Kd.N_drew)); exact HO260.out) gb278 (Nat.le_of_eq hg.symm)) hb)
        have n2_ := Aside0.mk (Kd.R_below (by (with_reducible repeat (first | apply Kd.R_alloc | apply Kd.R_drewN | apply Kd.R_drew)); exact HO267.out) hb)
        have n3_ := Aside0.mk (Kd.R_below (by (with_reducible repeat (first | apply Kd.R_alloc | apply Kd.R_drewN | apply Kd.R_drew)); exact HO272.out) hb)
        have n4_ := Aside0.mk (blk_below (bk_ BK243.out) hb)
        have n5_ := Aside0.mk (blk_below (bk_ BK252.out) hb)
        have n6_ := Aside0.mk (blk_below (bk_ BK253.out) hb)
        have n7_ := Aside0.mk (blk_below (bk_ BK261.out) hb)
        have n8_ := Aside0.mk (blk_below (bk_ BK262.out) hb)
        have n9_ := Aside0.mk (below_step (bw_ HB.out) hb)
        have n10_ := Aside0.mk (hbox)
        have n11_ := Aside0.mk ((by rw [hg]; exact (below_size (bw_ HB.out)) : w.heap.size ≤ gb278))
        have n12_ := Aside0.mk ((by rw [hg]; exact (below_size (bw_ HB.out)) : w.heap.size ≤ gb278))
        have n13_ := Aside0.mk ((by rw [hg]; exact Nat.ne_of_lt (blk_lt (bk_ BK243.out)) : gb243 ≠ gb278))
        have n14_ := Aside0.mk ((by rw [hg]; exact Nat.ne_of_gt (blk_lt (bk_ BK243.out)) : gb278 ≠ gb243))
        have n15_ := Aside0.mk ((by rw [hg]; exact Nat.ne_of_lt (blk_lt (bk_ BK252.out)) : gb252 ≠ gb278))
        have n16_ := Aside0.mk ((by rw [hg]; exact Nat.ne_of_gt (blk_lt (bk_ BK252.out)) : gb278 ≠ gb252))
        have n17_ := Aside0.mk ((by rw [hg]; exact Nat.ne_of_lt (blk_lt (bk_ BK253.out)) : gb253 ≠ gb278))
        have n18_ := Aside0.mk ((by rw [hg]; exact Nat.ne_of_gt (blk_lt (bk_ BK253.out)) : gb278 ≠ gb253))
        have n19_ := Aside0.mk ((by rw [hg]; exact Nat.ne_of_lt (blk_lt (bk_ BK261.out)) : gb261 ≠ gb278))
        have n20_ := Aside0.mk ((by rw [hg]; exact Nat.ne_of_gt (blk_lt (bk_ BK261.out)) : gb278 ≠ gb261))
        have n21_ := Aside0.mk ((by rw [hg]; exact Nat.ne_of_lt (blk_lt (bk_ BK262.out)) : gb262 ≠ gb278))
        have n22_ := Aside0.mk ((by rw [hg]; exact Nat.ne_of_gt (blk_lt (bk_ BK262.out)) : gb278 ≠ gb262))
        clear HO251
        clear HO260
        clear HO267
        clear HO272
        clear BK243
        clear BK252
        clear BK253
        clear BK261
        clear BK262
        clear HB
        have HO251 := n0_
        have HO260 := n1_
        have HO267 := n2_
        have HO272 := n3_
        have BK243 := n4_
        have BK252 := n5_
        have BK253 := n6_
        have BK261 := n7_
        have BK262 := n8_
        have HB := n9_
        have BK278 := n10_
        have GW278 := n11_
        have GE278 := n12_
        have NB243_278 := n13_
        have NB278_243 := n14_
        have NB252_278 := n15_
        have NB278_252 := n16_
        have NB253_278 := n17_
        have NB278_253 := n18_
        have NB261_278 := n19_
        have NB278_261 := n20_
        have NB262_278 := n21_
        have NB278_262 := n22_
        clear n0_ n1_ n2_ n3_ n4_ n5_ n6_ n7_ n8_ n9_ n10_ n11_ n12_ n13_ n14_ n15_ n16_ n17_ n18_ n19_ n20_ n21_ n22_
        clear hb hbox hg
        obtain ⟨Ao46, co46, eo46⟩ := Kd.R_slice HO267.out
        (first | subst eo46 | (injection eo46 with f1_ f2_ f3_; have f4_ := f1_.symm; have f5_ := f3_.symm; clear f1_ f2_ f3_; subst f4_; subst f5_))
        obtain ⟨Ao47, co47, eo47⟩ := Kd.R_slice HO272.out
        (first | subst eo47 | (injection eo47 with f1_ f2_ f3_; have f4_ := f1_.symm; have f5_ := f3_.symm; clear f1_ f2_ f3_; subst f4_; subst f5_))
        refine hK.out _ _ ⟨(blk_cell BK253.out 0).trans rfl, (blk_cell BK253.out 1).trans rfl⟩ (fun hHeld => ?_)
        clear hK K
        refine norm_ (a' := ?_) ?_ ?_
        rotate_left
        ·show Act.put _ (some 14) _ = _
         simp only [Act.put, q1_, q2_, q3_, i64_w, i32_w]
         rfl
        refine one_ (i := 7) (N := some 40) #[true, true, true, true, true, true, true, true, true, false] rfl rfl (one_of HT_.out (by kernel_rfl)) (by decide) (fun K hK => ?_)
        refine goes_ Try.func17 (by kernel_rfl) rfl #[.agg #[.int .i64 t247, .int .i64 t248], .agg #[.int .u64 t263, .int .i64 t264, .slice Ao46 t265.length co46], .agg #[.int .u64 t268, .int .i64 t269, .slice Ao47 t270.length co47]] (by rfl) rfl rfl (by (try simp only [List.map_toArray, List.map_cons, List.map_nil]); first | done | rfl | (simp only [List.length_drop, List.length_take]; rfl)) ?_
        with_reducible refine (agg_Merge.calls t247 t248 t263 t264 _ _ t265 t268 t269 _ _ t270 t273 t274 t275 _ ?side1 ?side2 ?side3 ?side4 A10.out).mono ?_
        (case side1 => repeat (first | exact (Kd.R_reads' HO267.out).2.2 | (with_reducible refine Kd.C_alloc ?_ _) | (with_reducible refine Kd.C_drewN ?_ _) | (with_reducible refine Kd.C_drew ?_)))
        (case side2 => exact (Kd.R_reads' HO267.out).2.1)
        (case side3 => repeat (first | exact (Kd.R_reads' HO272.out).2.2 | (with_reducible refine Kd.C_alloc ?_ _) | (with_reducible refine Kd.C_drewN ?_ _) | (with_reducible refine Kd.C_drew ?_)))
        (case side4 => exact (Kd.R_reads' HO272.out).2.1)
        rintro e w48 ⟨v276, rfl, ho0, hb⟩
        refine ⟨_, rfl, ?_⟩
        have n0_ := Aside0.mk (Kd.N_elder' (by (with_reducible repeat (first | apply Kd.N_alloc | apply Kd.N_drewN | apply Kd.N_drew)); exact HO251.out) (Kd.R_base ho0) hb)
        have n1_ := Aside0.mk (Kd.N_elder' (by (with_reducible repeat (first | apply Kd.N_alloc | apply Kd.N_drewN | apply Kd.N_drew)); exact HO260.out) (Kd.R_base ho0) hb)
        have n2_ := Aside0.mk (Kd.R_elder' (by (with_reducible repeat (first | apply Kd.R_alloc | apply Kd.R_drewN | apply Kd.R_drew)); exact HO267.out) (Kd.R_base ho0) hb)
        have n3_ := Aside0.mk (Kd.R_elder' (by (with_reducible repeat (first | apply Kd.R_alloc | apply Kd.R_drewN | apply Kd.R_drew)); exact HO272.out) (Kd.R_base ho0) hb)
        have n4_ := Aside0.mk (Kd.R_lower (Kd.R_new' (Kd.R_new' ho0 (Kd.R_lt (by (with_reducible repeat (first | apply Kd.R_alloc | apply Kd.R_drewN | apply Kd.R_drew)); exact HO267.out))) (Kd.R_lt (by (with_reducible repeat (first | apply Kd.R_alloc | apply Kd.R_drewN | apply Kd.R_drew)); exact HO272.out))) (below_size (bw_ HB.out)))
        have n5_ := Aside0.mk (blk_below (bk_ BK243.out) hb)
        have n6_ := Aside0.mk (blk_below (bk_ BK252.out) hb)
        have n7_ := Aside0.mk (blk_below (bk_ BK253.out) hb)
        have n8_ := Aside0.mk (blk_below (bk_ BK261.out) hb)
        have n9_ := Aside0.mk (blk_below (bk_ BK262.out) hb)
        have n10_ := Aside0.mk (blk_below (bk_ BK278.out) hb)
        have n11_ := Aside0.mk (below_step (bw_ HB.out) hb)
        clear HO251
        clear HO260
        clear HO267
        clear HO272
        clear BK243
        clear BK252
        clear BK253
        clear BK261
        clear BK262
        clear BK278
        clear HB
        have HO251 := n0_
        have HO260 := n1_
        have HO267 := n2_
        have HO272 := n3_
        have HO277 := n4_
        have BK243 := n5_
        have BK252 := n6_
        have BK253 := n7_
        have BK261 := n8_
        have BK262 := n9_
        have BK278 := n10_
        have HB := n11_
        clear n0_ n1_ n2_ n3_ n4_ n5_ n6_ n7_ n8_ n9_ n10_ n11_
        (try clear hb)
        (try clear hb2)
        (try clear hk)
        (try clear hi)
        (try clear ho0)
        refine hK.out _ _ ⟨(blk_cell BK253.out 0).trans rfl, (blk_cell BK253.out 1).trans rfl⟩ (fun hHeld => ?_)
        clear hK K
        refine norm_ (a' := ?_) ?_ ?_
        rotate_left
        ·show Act.put _ (some 40) _ = _
         simp only [Act.put, q1_, q2_, q3_, i64_w, i32_w]
         rfl
        exact norm_ (by simp only [putAll, Act.put, q1_, q2_, q3_]) (hCont (.slice Ao46 t265.length co46, .slice Ao47 t270.length co47, v276, gb278) _ ⟨hHeld, (by (with_reducible repeat (first | apply Kd.N_alloc | apply Kd.N_drewN | apply Kd.N_drew)); exact Kd.N_mono HO251.out (fun _ hk => ⟨hk.1.1.1.1.1, ⟨hk.1.1.1.2, ⟨hk.1.1.2, ⟨hk.2, ⟨hk.1.1.1.1.2.1, ⟨hk.1.1.1.1.2.2.1, ⟨hk.1.1.1.1.2.2.2.1, ⟨hk.1.1.1.1.2.2.2.2.1, ⟨hk.1.1.1.1.2.2.2.2.2, hk.1.2⟩⟩⟩⟩⟩⟩⟩⟩⟩)), (by (with_reducible repeat (first | apply Kd.N_alloc | apply Kd.N_drewN | apply Kd.N_drew)); exact Kd.N_mono HO260.out (fun _ hk => ⟨hk.1.1.1.1.1, ⟨hk.1.1.1.2, ⟨hk.1.1.2, ⟨hk.2, ⟨hk.1.1.1.1.2.1, ⟨hk.1.1.1.1.2.2.1, ⟨hk.1.1.1.1.2.2.2.1, ⟨hk.1.1.1.1.2.2.2.2.1, ⟨hk.1.1.1.1.2.2.2.2.2, hk.1.2⟩⟩⟩⟩⟩⟩⟩⟩⟩)), (by (with_reducible repeat (first | apply Kd.R_alloc | apply Kd.R_drewN | apply Kd.R_drew)); exact Kd.R_mono HO267.out (fun _ hk => ⟨hk.1.2, hk.2⟩)), (by (with_reducible repeat (first | apply Kd.R_alloc | apply Kd.R_drewN | apply Kd.R_drew)); exact Kd.R_mono HO272.out (fun _ hk => ⟨hk.1.2, hk.2⟩)), (by (with_reducible repeat (first | apply Kd.R_alloc | apply Kd.R_drewN | apply Kd.R_drew)); exact Kd.R_mono HO277.out (fun _ hk => ⟨hk.1.2, hk.2⟩)), (bk_ BK243.out), (bk_ BK252.out), (bk_ BK253.out), (bk_ BK261.out), (bk_ BK262.out), (bk_ BK278.out), GW278.out, GE278.out, NB243_278.out, NB278_243.out, NB252_278.out, NB278_252.out, NB253_278.out, NB278_253.out, NB261_278.out, NB278_261.out, NB262_278.out, NB278_262.out, (bw_ HB.out)⟩)
      ·skip
       refine box_step ?hg (N := 14) ?hd (cs := #[.int .u64 0, .int .i64 0, .slice none 0 0]) (t := 33) ?hr ?_; (case hd => rfl); (case hg => rfl); (case hr => first | (go_simp; done) | (go_simp; rfl))
       intro gb278 hg w44 hbox hb
       have n0_ := Aside0.mk (Kd.N_below (Kd.N_elderB (by (with_reducible repeat (first | apply Kd.N_alloc | apply Kd.N_drewN | apply Kd.N_drew)); exact HO251.out) gb278 (Nat.le_of_eq hg.symm)) hb)
       have n1_ := Aside0.mk (Kd.N_below (Kd.N_elderB (by (with_reducible repeat (first | apply Kd.N_alloc | apply Kd.N_drewN | apply Kd.N_drew)); exact HO260.out) gb278 (Nat.le_of_eq hg.symm)) hb)
       have n2_ := Aside0.mk (Kd.R_below (by (with_reducible repeat (first | apply Kd.R_alloc | apply Kd.R_drewN | apply Kd.R_drew)); exact HO267.out) hb)
       have n3_ := Aside0.mk (blk_below (bk_ BK243.out) hb)
       have n4_ := Aside0.mk (blk_below (bk_ BK252.out) hb)
       have n5_ := Aside0.mk (blk_below (bk_ BK253.out) hb)
       have n6_ := Aside0.mk (blk_below (bk_ BK261.out) hb)
       have n7_ := Aside0.mk (blk_below (bk_ BK262.out) hb)
       have n8_ := Aside0.mk (below_step (bw_ HB.out) hb)
       have n9_ := Aside0.mk (hbox)
       have n10_ := Aside0.mk ((by rw [hg]; exact (below_size (bw_ HB.out)) : w.heap.size ≤ gb278))
       have n11_ := Aside0.mk ((by rw [hg]; exact (below_size (bw_ HB.out)) : w.heap.size ≤ gb278))
       have n12_ := Aside0.mk ((by rw [hg]; exact Nat.ne_of_lt (blk_lt (bk_ BK243.out)) : gb243 ≠ gb278))
       have n13_ := Aside0.mk ((by rw [hg]; exact Nat.ne_of_gt (blk_lt (bk_ BK243.out)) : gb278 ≠ gb243))
       have n14_ := Aside0.mk ((by rw [hg]; exact Nat.ne_of_lt (blk_lt (bk_ BK252.out)) : gb252 ≠ gb278))
       have n15_ := Aside0.mk ((by rw [hg]; exact Nat.ne_of_gt (blk_lt (bk_ BK252.out)) : gb278 ≠ gb252))
       have n16_ := Aside0.mk ((by rw [hg]; exact Nat.ne_of_lt (blk_lt (bk_ BK253.out)) : gb253 ≠ gb278))
       have n17_ := Aside0.mk ((by rw [hg]; exact Nat.ne_of_gt (blk_lt (bk_ BK253.out)) : gb278 ≠ gb253))
       have n18_ := Aside0.mk ((by rw [hg]; exact Nat.ne_of_lt (blk_lt (bk_ BK261.out)) : gb261 ≠ gb278))
       have n19_ := Aside0.mk ((by rw [hg]; exact Nat.ne_of_gt (blk_lt (bk_ BK261.out)) : gb278 ≠ gb261))
       have n20_ := Aside0.mk ((by rw [hg]; exact Nat.ne_of_lt (blk_lt (bk_ BK262.out)) : gb262 ≠ gb278))
       have n21_ := Aside0.mk ((by rw [hg]; exact Nat.ne_of_gt (blk_lt (bk_ BK262.out)) : gb278 ≠ gb262))
       clear HO251
       clear HO260
       clear HO267
       clear BK243
       clear BK252
       clear BK253
       clear BK261
       clear BK262
       clear HB
       have HO251 := n0_
       have HO260 := n1_
       have HO267 := n2_
       have BK243 := n3_
       have BK252 := n4_
       have BK253 := n5_
       have BK261 := n6_
       have BK262 := n7_
       have HB := n8_
       have BK278 := n9_
       have GW278 := n10_
       have GE278 := n11_
       have NB243_278 := n12_
       have NB278_243 := n13_
       have NB252_278 := n14_
       have NB278_252 := n15_
       have NB253_278 := n16_
       have NB278_253 := n17_
       have NB261_278 := n18_
       have NB278_261 := n19_
       have NB262_278 := n20_
       have NB278_262 := n21_
       clear n0_ n1_ n2_ n3_ n4_ n5_ n6_ n7_ n8_ n9_ n10_ n11_ n12_ n13_ n14_ n15_ n16_ n17_ n18_ n19_ n20_ n21_
       clear hb hbox hg
       refine hK.out _ _ ⟨(blk_cell BK253.out 0).trans rfl, (blk_cell BK253.out 1).trans rfl⟩ (fun hHeld => ?_)
       clear hK K
       refine norm_ (a' := ?_) ?_ ?_
       rotate_left
       ·show Act.put _ (some 14) _ = _
        simp only [Act.put, q1_, q2_, q3_, i64_w, i32_w]
        rfl
       refine one_ (i := 6) (N := some 39) #[true, true, true, true, true, true, true, false, true, false] rfl rfl (one_of HT_.out (by kernel_rfl)) (by decide) (fun K hK => ?_)
       refine goes_ Try.func12 (by kernel_rfl) rfl #[.agg #[.int .i64 t247, .int .i64 t248], .slice Ao40 t258.length co40] (by rfl) rfl rfl (by (try simp only [List.map_toArray, List.map_cons, List.map_nil]); first | done | rfl | (simp only [List.length_drop, List.length_take]; rfl)) ?_
       with_reducible refine (gristmilllaw06_of.calls k t247 t248 _ _ t258 t268 t269 t270 _ ?side1 ?side2 A9.out).mono ?_
       (case side1 => repeat (first | exact (Kd.N_reads' HO260.out).2.2 | (with_reducible refine Kd.C_alloc ?_ _) | (with_reducible refine Kd.C_drewN ?_ _) | (with_reducible refine Kd.C_drew ?_)))
       (case side2 => exact (Kd.N_reads' HO260.out).2.1)
       rintro e w45 ⟨v271, rfl, ho0, hb⟩
       refine ⟨_, rfl, ?_⟩
       have n0_ := Aside0.mk (Kd.N_elder' (by (with_reducible repeat (first | apply Kd.N_alloc | apply Kd.N_drewN | apply Kd.N_drew)); exact HO251.out) (Kd.R_base ho0) hb)
       have n1_ := Aside0.mk (Kd.N_elder' (by (with_reducible repeat (first | apply Kd.N_alloc | apply Kd.N_drewN | apply Kd.N_drew)); exact HO260.out) (Kd.R_base ho0) hb)
       have n2_ := Aside0.mk (Kd.R_elder' (by (with_reducible repeat (first | apply Kd.R_alloc | apply Kd.R_drewN | apply Kd.R_drew)); exact HO267.out) (Kd.R_base ho0) hb)
       have n3_ := Aside0.mk (Kd.R_lower (Kd.R_new' ho0 (Kd.R_lt (by (with_reducible repeat (first | apply Kd.R_alloc | apply Kd.R_drewN | apply Kd.R_drew)); exact HO267.out))) (below_size (bw_ HB.out)))
       have n4_ := Aside0.mk (blk_below (bk_ BK243.out) hb)
       have n5_ := Aside0.mk (blk_below (bk_ BK252.out) hb)
       have n6_ := Aside0.mk (blk_below (bk_ BK253.out) hb)
       have n7_ := Aside0.mk (blk_below (bk_ BK261.out) hb)
       have n8_ := Aside0.mk (blk_below (bk_ BK262.out) hb)
       have n9_ := Aside0.mk (blk_below (bk_ BK278.out) hb)
       have n10_ := Aside0.mk (below_step (bw_ HB.out) hb)
       clear HO251
       clear HO260
       clear HO267
       clear BK243
       clear BK252
       clear BK253
       clear BK261
       clear BK262
       clear BK278
       clear HB
       have HO251 := n0_
       have HO260 := n1_
       have HO267 := n2_
       have HO272 := n3_
       have BK243 := n4_
       have BK252 := n5_
       have BK253 := n6_
       have BK261 := n7_
       have BK262 := n8_
       have BK278 := n9_
       have HB := n10_
       clear n0_ n1_ n2_ n3_ n4_ n5_ n6_ n7_ n8_ n9_ n10_
       (try clear hb)
       (try clear hb2)
       (try clear hk)
       (try clear hi)
       (try clear ho0)
       obtain ⟨Ao46, co46, eo46⟩ := Kd.R_slice HO267.out
       (first | subst eo46 | (injection eo46 with f1_ f2_ f3_; have f4_ := f1_.symm; have f5_ := f3_.symm; clear f1_ f2_ f3_; subst f4_; subst f5_))
       obtain ⟨Ao47, co47, eo47⟩ := Kd.R_slice HO272.out
       (first | subst eo47 | (injection eo47 with f1_ f2_ f3_; have f4_ := f1_.symm; have f5_ := f3_.symm; clear f1_ f2_ f3_; subst f4_; subst f5_))
       refine hK.out _ _ ⟨(blk_cell BK253.out 0).trans rfl, (blk_cell BK253.out 1).trans rfl⟩ (fun hHeld => ?_)
       clear hK K
       refine norm_ (a' := ?_) ?_ ?_
       rotate_left
       ·show Act.put _ (some 39) _ = _
        simp only [Act.put, q1_, q2_, q3_, i64_w, i32_w]
        rfl
       refine one_ (i := 7) (N := some 40) #[true, true, true, true, true, true, true, true, true, false] rfl rfl (one_of HT_.out (by kernel_rfl)) (by decide) (fun K hK => ?_)
       refine goes_ Try.func17 (by kernel_rfl) rfl #[.agg #[.int .i64 t247, .int .i64 t248], .agg #[.int .u64 t263, .int .i64 t264, .slice Ao46 t265.length co46], .agg #[.int .u64 t268, .int .i64 t269, .slice Ao47 t270.length co47]] (by rfl) rfl rfl (by (try simp only [List.map_toArray, List.map_cons, List.map_nil]); first | done | rfl | (simp only [List.length_drop, List.length_take]; rfl)) ?_
       with_reducible refine (agg_Merge.calls t247 t248 t263 t264 _ _ t265 t268 t269 _ _ t270 t273 t274 t275 _ ?side1 ?side2 ?side3 ?side4 A10.out).mono ?_
       (case side1 => repeat (first | exact (Kd.R_reads' HO267.out).2.2 | (with_reducible refine Kd.C_alloc ?_ _) | (with_reducible refine Kd.C_drewN ?_ _) | (with_reducible refine Kd.C_drew ?_)))
       (case side2 => exact (Kd.R_reads' HO267.out).2.1)
       (case side3 => repeat (first | exact (Kd.R_reads' HO272.out).2.2 | (with_reducible refine Kd.C_alloc ?_ _) | (with_reducible refine Kd.C_drewN ?_ _) | (with_reducible refine Kd.C_drew ?_)))
       (case side4 => exact (Kd.R_reads' HO272.out).2.1)
       rintro e w48 ⟨v276, rfl, ho0, hb⟩
       refine ⟨_, rfl, ?_⟩
       have n0_ := Aside0.mk (Kd.N_elder' (by (with_reducible repeat (first | apply Kd.N_alloc | apply Kd.N_drewN | apply Kd.N_drew)); exact HO251.out) (Kd.R_base ho0) hb)
       have n1_ := Aside0.mk (Kd.N_elder' (by (with_reducible repeat (first | apply Kd.N_alloc | apply Kd.N_drewN | apply Kd.N_drew)); exact HO260.out) (Kd.R_base ho0) hb)
       have n2_ := Aside0.mk (Kd.R_elder' (by (with_reducible repeat (first | apply Kd.R_alloc | apply Kd.R_drewN | apply Kd.R_drew)); exact HO267.out) (Kd.R_base ho0) hb)
       have n3_ := Aside0.mk (Kd.R_elder' (by (with_reducible repeat (first | apply Kd.R_alloc | apply Kd.R_drewN | apply Kd.R_drew)); exact HO272.out) (Kd.R_base ho0) hb)
       have n4_ := Aside0.mk (Kd.R_lower (Kd.R_new' (Kd.R_new' ho0 (Kd.R_lt (by (with_reducible repeat (first | apply Kd.R_alloc | apply Kd.R_drewN | apply Kd.R_drew)); exact HO267.out))) (Kd.R_lt (by (with_reducible repeat (first | apply Kd.R_alloc | apply Kd.R_drewN | apply Kd.R_drew)); exact HO272.out))) (below_size (bw_ HB.out)))
       have n5_ := Aside0.mk (blk_below (bk_ BK243.out) hb)
       have n6_ := Aside0.mk (blk_below (bk_ BK252.out) hb)
       have n7_ := Aside0.mk (blk_below (bk_ BK253.out) hb)
       have n8_ := Aside0.mk (blk_below (bk_ BK261.out) hb)
       have n9_ := Aside0.mk (blk_below (bk_ BK262.out) hb)
       have n10_ := Aside0.mk (blk_below (bk_ BK278.out) hb)
       have n11_ := Aside0.mk (below_step (bw_ HB.out) hb)
       clear HO251
       clear HO260
       clear HO267
       clear HO272
       clear BK243
       clear BK252
       clear BK253
       clear BK261
       clear BK262
       clear BK278
       clear HB
       have HO251 := n0_
       have HO260 := n1_
       have HO267 := n2_
       have HO272 := n3_
       have HO277 := n4_
       have BK243 := n5_
       have BK252 := n6_
       have BK253 := n7_
       have BK261 := n8_
       have BK262 := n9_
       have BK278 := n10_
       have HB := n11_
       clear n0_ n1_ n2_ n3_ n4_ n5_ n6_ n7_ n8_ n9_ n10_ n11_
       (try clear hb)
       (try clear hb2)
       (try clear hk)
       (try clear hi)
       (try clear ho0)
       refine hK.out _ _ ⟨(blk_cell BK253.out 0).trans rfl, (blk_cell BK253.out 1).trans rfl⟩ (fun hHeld => ?_)
       clear hK K
       refine norm_ (a' := ?_) ?_ ?_
       rotate_left
       ·show Act.put _ (some 40) _ = _
        simp only [Act.put, q1_, q2_, q3_, i64_w, i32_w]
        rfl
       exact norm_ (by simp only [putAll, Act.put, q1_, q2_, q3_]) (hCont (.slice Ao46 t265.length co46, .slice Ao47 t270.length co47, v276, gb278) _ ⟨hHeld, (by (with_reducible repeat (first | apply Kd.N_alloc | apply Kd.N_drewN | apply Kd.N_drew)); exact Kd.N_mono HO251.out (fun _ hk => ⟨hk.1.1.1.1.1, ⟨hk.1.1.1.2, ⟨hk.1.2, ⟨hk.2, ⟨hk.1.1.1.1.2.1, ⟨hk.1.1.1.1.2.2.1, ⟨hk.1.1.1.1.2.2.2.1, ⟨hk.1.1.1.1.2.2.2.2.1, ⟨hk.1.1.1.1.2.2.2.2.2, hk.1.1.2⟩⟩⟩⟩⟩⟩⟩⟩⟩)), (by (with_reducible repeat (first | apply Kd.N_alloc | apply Kd.N_drewN | apply Kd.N_drew)); exact Kd.N_mono HO260.out (fun _ hk => ⟨hk.1.1.1.1.1, ⟨hk.1.1.1.2, ⟨hk.1.2, ⟨hk.2, ⟨hk.1.1.1.1.2.1, ⟨hk.1.1.1.1.2.2.1, ⟨hk.1.1.1.1.2.2.2.1, ⟨hk.1.1.1.1.2.2.2.2.1, ⟨hk.1.1.1.1.2.2.2.2.2, hk.1.1.2⟩⟩⟩⟩⟩⟩⟩⟩⟩)), (by (with_reducible repeat (first | apply Kd.R_alloc | apply Kd.R_drewN | apply Kd.R_drew)); exact Kd.R_mono HO267.out (fun _ hk => ⟨hk.1.2, hk.2⟩)), (by (with_reducible repeat (first | apply Kd.R_alloc | apply Kd.R_drewN | apply Kd.R_drew)); exact Kd.R_mono HO272.out (fun _ hk => ⟨hk.1.2, hk.2⟩)), (by (with_reducible repeat (first | apply Kd.R_alloc | apply Kd.R_drewN | apply Kd.R_drew)); exact Kd.R_mono HO277.out (fun _ hk => ⟨hk.1.2, hk.2⟩)), (bk_ BK243.out), (bk_ BK252.out), (bk_ BK253.out), (bk_ BK261.out), (bk_ BK262.out), (bk_ BK278.out), GW278.out, GE278.out, NB243_278.out, NB278_243.out, NB252_278.out, NB278_252.out, NB253_278.out, NB278_253.out, NB261_278.out, NB278_261.out, NB262_278.out, NB278_262.out, (bw_ HB.out)⟩)
     ·skip
      refine box_step ?hg (N := 14) ?hd (cs := #[.int .u64 0, .int .i64 0, .slice none 0 0]) (t := 33) ?hr ?_; (case hd => rfl); (case hg => rfl); (case hr => first | (go_simp; done) | (go_simp; rfl))
      intro gb278 hg w43 hbox hb
      have n0_ := Aside0.mk (Kd.N_below (Kd.N_elderB (by (with_reducible repeat (first | apply Kd.N_alloc | apply Kd.N_drewN | apply Kd.N_drew)); exact HO251.out) gb278 (Nat.le_of_eq hg.symm)) hb)
      have n1_ := Aside0.mk (Kd.N_below (Kd.N_elderB (by (with_reducible repeat (first | apply Kd.N_alloc | apply Kd.N_drewN | apply Kd.N_drew)); exact HO260.out) gb278 (Nat.le_of_eq hg.symm)) hb)
      have n2_ := Aside0.mk (blk_below (bk_ BK243.out) hb)
      have n3_ := Aside0.mk (blk_below (bk_ BK252.out) hb)
      have n4_ := Aside0.mk (blk_below (bk_ BK253.out) hb)
      have n5_ := Aside0.mk (blk_below (bk_ BK261.out) hb)
      have n6_ := Aside0.mk (blk_below (bk_ BK262.out) hb)
      have n7_ := Aside0.mk (below_step (bw_ HB.out) hb)
      have n8_ := Aside0.mk (hbox)
      have n9_ := Aside0.mk ((by rw [hg]; exact (below_size (bw_ HB.out)) : w.heap.size ≤ gb278))
      have n10_ := Aside0.mk ((by rw [hg]; exact (below_size (bw_ HB.out)) : w.heap.size ≤ gb278))
      have n11_ := Aside0.mk ((by rw [hg]; exact Nat.ne_of_lt (blk_lt (bk_ BK243.out)) : gb243 ≠ gb278))
      have n12_ := Aside0.mk ((by rw [hg]; exact Nat.ne_of_gt (blk_lt (bk_ BK243.out)) : gb278 ≠ gb243))
      have n13_ := Aside0.mk ((by rw [hg]; exact Nat.ne_of_lt (blk_lt (bk_ BK252.out)) : gb252 ≠ gb278))
      have n14_ := Aside0.mk ((by rw [hg]; exact Nat.ne_of_gt (blk_lt (bk_ BK252.out)) : gb278 ≠ gb252))
      have n15_ := Aside0.mk ((by rw [hg]; exact Nat.ne_of_lt (blk_lt (bk_ BK253.out)) : gb253 ≠ gb278))
      have n16_ := Aside0.mk ((by rw [hg]; exact Nat.ne_of_gt (blk_lt (bk_ BK253.out)) : gb278 ≠ gb253))
      have n17_ := Aside0.mk ((by rw [hg]; exact Nat.ne_of_lt (blk_lt (bk_ BK261.out)) : gb261 ≠ gb278))
      have n18_ := Aside0.mk ((by rw [hg]; exact Nat.ne_of_gt (blk_lt (bk_ BK261.out)) : gb278 ≠ gb261))
      have n19_ := Aside0.mk ((by rw [hg]; exact Nat.ne_of_lt (blk_lt (bk_ BK262.out)) : gb262 ≠ gb278))
      have n20_ := Aside0.mk ((by rw [hg]; exact Nat.ne_of_gt (blk_lt (bk_ BK262.out)) : gb278 ≠ gb262))
      clear HO251
      clear HO260
      clear BK243
      clear BK252
      clear BK253
      clear BK261
      clear BK262
      clear HB
      have HO251 := n0_
      have HO260 := n1_
      have BK243 := n2_
      have BK252 := n3_
      have BK253 := n4_
      have BK261 := n5_
      have BK262 := n6_
      have HB := n7_
      have BK278 := n8_
      have GW278 := n9_
      have GE278 := n10_
      have NB243_278 := n11_
      have NB278_243 := n12_
      have NB252_278 := n13_
      have NB278_252 := n14_
      have NB253_278 := n15_
      have NB278_253 := n16_
      have NB261_278 := n17_
      have NB278_261 := n18_
      have NB262_278 := n19_
      have NB278_262 := n20_
      clear n0_ n1_ n2_ n3_ n4_ n5_ n6_ n7_ n8_ n9_ n10_ n11_ n12_ n13_ n14_ n15_ n16_ n17_ n18_ n19_ n20_
      clear hb hbox hg
      refine hK.out _ _ ⟨(blk_cell BK253.out 0).trans rfl, (blk_cell BK253.out 1).trans rfl⟩ (fun hHeld => ?_)
      clear hK K
      refine norm_ (a' := ?_) ?_ ?_
      rotate_left
      ·show Act.put _ (some 14) _ = _
       simp only [Act.put, q1_, q2_, q3_, i64_w, i32_w]
       rfl
      refine one_ (i := 3) (N := some 36) #[true, true, true, true, true, true, false, false, true, false] rfl rfl (one_of HT_.out (by kernel_rfl)) (by decide) (fun K hK => ?_)
      refine goes_ Try.func12 (by kernel_rfl) rfl #[.agg #[.int .i64 t247, .int .i64 t248], .slice Ao39 t249.length co39] (by rfl) rfl rfl (by (try simp only [List.map_toArray, List.map_cons, List.map_nil]); first | done | rfl | (simp only [List.length_drop, List.length_take]; rfl)) ?_
      with_reducible refine (gristmilllaw06_of.calls k t247 t248 _ _ t249 t263 t264 t265 _ ?side1 ?side2 A8.out).mono ?_
      (case side1 => repeat (first | exact (Kd.N_reads' HO251.out).2.2 | (with_reducible refine Kd.C_alloc ?_ _) | (with_reducible refine Kd.C_drewN ?_ _) | (with_reducible refine Kd.C_drew ?_)))
      (case side2 => exact (Kd.N_reads' HO251.out).2.1)
      rintro e w44 ⟨v266, rfl, ho0, hb⟩
      refine ⟨_, rfl, ?_⟩
      have n0_ := Aside0.mk (Kd.N_elder' (by (with_reducible repeat (first | apply Kd.N_alloc | apply Kd.N_drewN | apply Kd.N_drew)); exact HO251.out) (Kd.R_base ho0) hb)
      have n1_ := Aside0.mk (Kd.N_elder' (by (with_reducible repeat (first | apply Kd.N_alloc | apply Kd.N_drewN | apply Kd.N_drew)); exact HO260.out) (Kd.R_base ho0) hb)
      have n2_ := Aside0.mk (Kd.R_lower ho0 (below_size (bw_ HB.out)))
      have n3_ := Aside0.mk (blk_below (bk_ BK243.out) hb)
      have n4_ := Aside0.mk (blk_below (bk_ BK252.out) hb)
      have n5_ := Aside0.mk (blk_below (bk_ BK253.out) hb)
      have n6_ := Aside0.mk (blk_below (bk_ BK261.out) hb)
      have n7_ := Aside0.mk (blk_below (bk_ BK262.out) hb)
      have n8_ := Aside0.mk (blk_below (bk_ BK278.out) hb)
      have n9_ := Aside0.mk (below_step (bw_ HB.out) hb)
      clear HO251
      clear HO260
      clear BK243
      clear BK252
      clear BK253
      clear BK261
      clear BK262
      clear BK278
      clear HB
      have HO251 := n0_
      have HO260 := n1_
      have HO267 := n2_
      have BK243 := n3_
      have BK252 := n4_
      have BK253 := n5_
      have BK261 := n6_
      have BK262 := n7_
      have BK278 := n8_
      have HB := n9_
      clear n0_ n1_ n2_ n3_ n4_ n5_ n6_ n7_ n8_ n9_
      (try clear hb)
      (try clear hb2)
      (try clear hk)
      (try clear hi)
      (try clear ho0)
      refine hK.out _ _ ⟨(blk_cell BK253.out 0).trans rfl, (blk_cell BK253.out 1).trans rfl⟩ (fun hHeld => ?_)
      clear hK K
      refine norm_ (a' := ?_) ?_ ?_
      rotate_left
      ·show Act.put _ (some 36) _ = _
       simp only [Act.put, q1_, q2_, q3_, i64_w, i32_w]
       rfl
      refine one_ (i := 6) (N := some 39) #[true, true, true, true, true, true, true, false, true, false] rfl rfl (one_of HT_.out (by kernel_rfl)) (by decide) (fun K hK => ?_)
      refine goes_ Try.func12 (by kernel_rfl) rfl #[.agg #[.int .i64 t247, .int .i64 t248], .slice Ao40 t258.length co40] (by rfl) rfl rfl (by (try simp only [List.map_toArray, List.map_cons, List.map_nil]); first | done | rfl | (simp only [List.length_drop, List.length_take]; rfl)) ?_
      with_reducible refine (gristmilllaw06_of.calls k t247 t248 _ _ t258 t268 t269 t270 _ ?side1 ?side2 A9.out).mono ?_
      (case side1 => repeat (first | exact (Kd.N_reads' HO260.out).2.2 | (with_reducible refine Kd.C_alloc ?_ _) | (with_reducible refine Kd.C_drewN ?_ _) | (with_reducible refine Kd.C_drew ?_)))
      (case side2 => exact (Kd.N_reads' HO260.out).2.1)
      rintro e w45 ⟨v271, rfl, ho0, hb⟩
      refine ⟨_, rfl, ?_⟩
      have n0_ := Aside0.mk (Kd.N_elder' (by (with_reducible repeat (first | apply Kd.N_alloc | apply Kd.N_drewN | apply Kd.N_drew)); exact HO251.out) (Kd.R_base ho0) hb)
      have n1_ := Aside0.mk (Kd.N_elder' (by (with_reducible repeat (first | apply Kd.N_alloc | apply Kd.N_drewN | apply Kd.N_drew)); exact HO260.out) (Kd.R_base ho0) hb)
      have n2_ := Aside0.mk (Kd.R_elder' (by (with_reducible repeat (first | apply Kd.R_alloc | apply Kd.R_drewN | apply Kd.R_drew)); exact HO267.out) (Kd.R_base ho0) hb)
      have n3_ := Aside0.mk (Kd.R_lower (Kd.R_new' ho0 (Kd.R_lt (by (with_reducible repeat (first | apply Kd.R_alloc | apply Kd.R_drewN | apply Kd.R_drew)); exact HO267.out))) (below_size (bw_ HB.out)))
      have n4_ := Aside0.mk (blk_below (bk_ BK243.out) hb)
      have n5_ := Aside0.mk (blk_below (bk_ BK252.out) hb)
      have n6_ := Aside0.mk (blk_below (bk_ BK253.out) hb)
      have n7_ := Aside0.mk (blk_below (bk_ BK261.out) hb)
      have n8_ := Aside0.mk (blk_below (bk_ BK262.out) hb)
      have n9_ := Aside0.mk (blk_below (bk_ BK278.out) hb)
      have n10_ := Aside0.mk (below_step (bw_ HB.out) hb)
      clear HO251
      clear HO260
      clear HO267
      clear BK243
      clear BK252
      clear BK253
      clear BK261
      clear BK262
      clear BK278
      clear HB
      have HO251 := n0_
      have HO260 := n1_
      have HO267 := n2_
      have HO272 := n3_
      have BK243 := n4_
      have BK252 := n5_
      have BK253 := n6_
      have BK261 := n7_
      have BK262 := n8_
      have BK278 := n9_
      have HB := n10_
      clear n0_ n1_ n2_ n3_ n4_ n5_ n6_ n7_ n8_ n9_ n10_
      (try clear hb)
      (try clear hb2)
      (try clear hk)
      (try clear hi)
      (try clear ho0)
      obtain ⟨Ao46, co46, eo46⟩ := Kd.R_slice HO267.out
      (first | subst eo46 | (injection eo46 with f1_ f2_ f3_; have f4_ := f1_.symm; have f5_ := f3_.symm; clear f1_ f2_ f3_; subst f4_; subst f5_))
      obtain ⟨Ao47, co47, eo47⟩ := Kd.R_slice HO272.out
      (first | subst eo47 | (injection eo47 with f1_ f2_ f3_; have f4_ := f1_.symm; have f5_ := f3_.symm; clear f1_ f2_ f3_; subst f4_; subst f5_))
      refine hK.out _ _ ⟨(blk_cell BK253.out 0).trans rfl, (blk_cell BK253.out 1).trans rfl⟩ (fun hHeld => ?_)
      clear hK K
      refine norm_ (a' := ?_) ?_ ?_
      rotate_left
      ·show Act.put _ (some 39) _ = _
       simp only [Act.put, q1_, q2_, q3_, i64_w, i32_w]
       rfl
      refine one_ (i := 7) (N := some 40) #[true, true, true, true, true, true, true, true, true, false] rfl rfl (one_of HT_.out (by kernel_rfl)) (by decide) (fun K hK => ?_)
      refine goes_ Try.func17 (by kernel_rfl) rfl #[.agg #[.int .i64 t247, .int .i64 t248], .agg #[.int .u64 t263, .int .i64 t264, .slice Ao46 t265.length co46], .agg #[.int .u64 t268, .int .i64 t269, .slice Ao47 t270.length co47]] (by rfl) rfl rfl (by (try simp only [List.map_toArray, List.map_cons, List.map_nil]); first | done | rfl | (simp only [List.length_drop, List.length_take]; rfl)) ?_
      with_reducible refine (agg_Merge.calls t247 t248 t263 t264 _ _ t265 t268 t269 _ _ t270 t273 t274 t275 _ ?side1 ?side2 ?side3 ?side4 A10.out).mono ?_
      (case side1 => repeat (first | exact (Kd.R_reads' HO267.out).2.2 | (with_reducible refine Kd.C_alloc ?_ _) | (with_reducible refine Kd.C_drewN ?_ _) | (with_reducible refine Kd.C_drew ?_)))
      (case side2 => exact (Kd.R_reads' HO267.out).2.1)
      (case side3 => repeat (first | exact (Kd.R_reads' HO272.out).2.2 | (with_reducible refine Kd.C_alloc ?_ _) | (with_reducible refine Kd.C_drewN ?_ _) | (with_reducible refine Kd.C_drew ?_)))
      (case side4 => exact (Kd.R_reads' HO272.out).2.1)
      rintro e w48 ⟨v276, rfl, ho0, hb⟩
      refine ⟨_, rfl, ?_⟩
      have n0_ := Aside0.mk (Kd.N_elder' (by (with_reducible repeat (first | apply Kd.N_alloc | apply Kd.N_drewN | apply Kd.N_drew)); exact HO251.out) (Kd.R_base ho0) hb)
      have n1_ := Aside0.mk (Kd.N_elder' (by (with_reducible repeat (first | apply Kd.N_alloc | apply Kd.N_drewN | apply Kd.N_drew)); exact HO260.out) (Kd.R_base ho0) hb)
      have n2_ := Aside0.mk (Kd.R_elder' (by (with_reducible repeat (first | apply Kd.R_alloc | apply Kd.R_drewN | apply Kd.R_drew)); exact HO267.out) (Kd.R_base ho0) hb)
      have n3_ := Aside0.mk (Kd.R_elder' (by (with_reducible repeat (first | apply Kd.R_alloc | apply Kd.R_drewN | apply Kd.R_drew)); exact HO272.out) (Kd.R_base ho0) hb)
      have n4_ := Aside0.mk (Kd.R_lower (Kd.R_new' (Kd.R_new' ho0 (Kd.R_lt (by (with_reducible repeat (first | apply Kd.R_alloc | apply Kd.R_drewN | apply Kd.R_drew)); exact HO267.out))) (Kd.R_lt (by (with_reducible repeat (first | apply Kd.R_alloc | apply Kd.R_drewN | apply Kd.R_drew)); exact HO272.out))) (below_size (bw_ HB.out)))
      have n5_ := Aside0.mk (blk_below (bk_ BK243.out) hb)
      have n6_ := Aside0.mk (blk_below (bk_ BK252.out) hb)
      have n7_ := Aside0.mk (blk_below (bk_ BK253.out) hb)
      have n8_ := Aside0.mk (blk_below (bk_ BK261.out) hb)
      have n9_ := Aside0.mk (blk_below (bk_ BK262.out) hb)
      have n10_ := Aside0.mk (blk_below (bk_ BK278.out) hb)
      have n11_ := Aside0.mk (below_step (bw_ HB.out) hb)
      clear HO251
      clear HO260
      clear HO267
      clear HO272
      clear BK243
      clear BK252
      clear BK253
      clear BK261
      clear BK262
      clear BK278
      clear HB
      have HO251 := n0_
      have HO260 := n1_
      have HO267 := n2_
      have HO272 := n3_
      have HO277 := n4_
      have BK243 := n5_
      have BK252 := n6_
      have BK253 := n7_
      have BK261 := n8_
      have BK262 := n9_
      have BK278 := n10_
      have HB := n11_
      clear n0_ n1_ n2_ n3_ n4_ n5_ n6_ n7_ n8_ n9_ n10_ n11_
      (try clear hb)
      (try clear hb2)
      (try clear hk)
      (try clear hi)
      (try clear ho0)
      refine hK.out _ _ ⟨(blk_cell BK253.out 0).trans rfl, (blk_cell BK253.out 1).trans rfl⟩ (fun hHeld => ?_)
      clear hK K
      refine norm_ (a' := ?_) ?_ ?_
      rotate_left
      ·show Act.put _ (some 40) _ = _
       simp only [Act.put, q1_, q2_, q3_, i64_w, i32_w]
       rfl
      exact norm_ (by simp only [putAll, Act.put, q1_, q2_, q3_]) (hCont (.slice Ao46 t265.length co46, .slice Ao47 t270.length co47, v276, gb278) _ ⟨hHeld, (by (with_reducible repeat (first | apply Kd.N_alloc | apply Kd.N_drewN | apply Kd.N_drew)); exact Kd.N_mono HO251.out (fun _ hk => ⟨hk.1.1.1.1.1, ⟨hk.1.1.2, ⟨hk.1.2, ⟨hk.2, ⟨hk.1.1.1.1.2.1, ⟨hk.1.1.1.1.2.2.1, ⟨hk.1.1.1.1.2.2.2.1, ⟨hk.1.1.1.1.2.2.2.2.1, ⟨hk.1.1.1.1.2.2.2.2.2, hk.1.1.1.2⟩⟩⟩⟩⟩⟩⟩⟩⟩)), (by (with_reducible repeat (first | apply Kd.N_alloc | apply Kd.N_drewN | apply Kd.N_drew)); exact Kd.N_mono HO260.out (fun _ hk => ⟨hk.1.1.1.1.1, ⟨hk.1.1.2, ⟨hk.1.2, ⟨hk.2, ⟨hk.1.1.1.1.2.1, ⟨hk.1.1.1.1.2.2.1, ⟨hk.1.1.1.1.2.2.2.1, ⟨hk.1.1.1.1.2.2.2.2.1, ⟨hk.1.1.1.1.2.2.2.2.2, hk.1.1.1.2⟩⟩⟩⟩⟩⟩⟩⟩⟩)), (by (with_reducible repeat (first | apply Kd.R_alloc | apply Kd.R_drewN | apply Kd.R_drew)); exact Kd.R_mono HO267.out (fun _ hk => ⟨hk.1.2, hk.2⟩)), (by (with_reducible repeat (first | apply Kd.R_alloc | apply Kd.R_drewN | apply Kd.R_drew)); exact Kd.R_mono HO272.out (fun _ hk => ⟨hk.1.2, hk.2⟩)), (by (with_reducible repeat (first | apply Kd.R_alloc | apply Kd.R_drewN | apply Kd.R_drew)); exact Kd.R_mono HO277.out (fun _ hk => ⟨hk.1.2, hk.2⟩)), (bk_ BK243.out), (bk_ BK252.out), (bk_ BK253.out), (bk_ BK261.out), (bk_ BK262.out), (bk_ BK278.out), GW278.out, GE278.out, NB243_278.out, NB278_243.out, NB252_278.out, NB278_252.out, NB253_278.out, NB278_253.out, NB261_278.out, NB278_261.out, NB262_278.out, NB278_262.out, (bw_ HB.out)⟩)
    rintro ⟨v266, v271, v276, gb278⟩ w49 ⟨hS_, h0_, h1_, h2_, h3_, h4_, h5_, h6_, h7_, h8_, h9_, h10_, h11_, h12_, h13_, h14_, h15_, h16_, h17_, h18_, h19_, h20_, h21_, h22_, h23_⟩
    have n0_ : Aside0 (Kd.N k44 44 w49 w.heap.size (fun k_ => some k_ ≠ (.slice Ao40 t258.length co40 : Value).ownBlock ∧ some k_ ≠ (v266 : Value).ownBlock ∧ some k_ ≠ (v271 : Value).ownBlock ∧ some k_ ≠ (v276 : Value).ownBlock ∧ k_ ≠ gb243 ∧ k_ ≠ gb252 ∧ k_ ≠ gb253 ∧ k_ ≠ gb261 ∧ k_ ≠ gb262 ∧ k_ ≠ gb278) (.slice Ao39 t249.length co39) t249) := ⟨h0_⟩
    have n1_ : Aside0 (Kd.N k44 44 w49 w.heap.size (fun k_ => some k_ ≠ (.slice Ao39 t249.length co39 : Value).ownBlock ∧ some k_ ≠ (v266 : Value).ownBlock ∧ some k_ ≠ (v271 : Value).ownBlock ∧ some k_ ≠ (v276 : Value).ownBlock ∧ k_ ≠ gb243 ∧ k_ ≠ gb252 ∧ k_ ≠ gb253 ∧ k_ ≠ gb261 ∧ k_ ≠ gb262 ∧ k_ ≠ gb278) (.slice Ao40 t258.length co40) t258) := ⟨h1_⟩
    have n2_ : Aside0 (Kd.R Kd.string 9 w49 w.heap.size (fun k_ => some k_ ≠ (v271 : Value).ownBlock ∧ some k_ ≠ (v276 : Value).ownBlock) v266 t265) := ⟨h2_⟩
    have n3_ : Aside0 (Kd.R Kd.string 9 w49 w.heap.size (fun k_ => some k_ ≠ (v266 : Value).ownBlock ∧ some k_ ≠ (v276 : Value).ownBlock) v271 t270) := ⟨h3_⟩
    have n4_ : Aside0 (Kd.R Kd.string 9 w49 w.heap.size (fun k_ => some k_ ≠ (v266 : Value).ownBlock ∧ some k_ ≠ (v271 : Value).ownBlock) v276 t275) := ⟨h4_⟩
    have n5_ : Aside0 (w49.heap[gb243]? = some (.cells #[.int .i64 a0_0, .int .i64 a0_1] 23 (0, 0))) := ⟨h5_⟩
    have n6_ : Aside0 (w49.heap[gb252]? = some (.cells #[.int .i64 t245, .int .i64 t246] 27 (0, 0))) := ⟨h6_⟩
    have n7_ : Aside0 (w49.heap[gb253]? = some (.cells #[.int .i64 t247, .int .i64 t248] 23 (0, 0))) := ⟨h7_⟩
    have n8_ : Aside0 (w49.heap[gb261]? = some (.cells #[.int .i64 t254, .int .i64 t255] 27 (0, 0))) := ⟨h8_⟩
    have n9_ : Aside0 (w49.heap[gb262]? = some (.cells #[.int .i64 t256, .int .i64 t257] 23 (0, 0))) := ⟨h9_⟩
    have n10_ : Aside0 (w49.heap[gb278]? = some (.cells #[.int .u64 0, .int .i64 0, .slice none 0 0] 33 (0, 0))) := ⟨h10_⟩
    have n11_ : Aside0 (w.heap.size ≤ gb278) := ⟨h11_⟩
    have n12_ : Aside0 (w.heap.size ≤ gb278) := ⟨h12_⟩
    have n13_ : Aside0 (gb243 ≠ gb278) := ⟨h13_⟩
    have n14_ : Aside0 (gb278 ≠ gb243) := ⟨h14_⟩
    have n15_ : Aside0 (gb252 ≠ gb278) := ⟨h15_⟩
    have n16_ : Aside0 (gb278 ≠ gb252) := ⟨h16_⟩
    have n17_ : Aside0 (gb253 ≠ gb278) := ⟨h17_⟩
    have n18_ : Aside0 (gb278 ≠ gb253) := ⟨h18_⟩
    have n19_ : Aside0 (gb261 ≠ gb278) := ⟨h19_⟩
    have n20_ : Aside0 (gb278 ≠ gb261) := ⟨h20_⟩
    have n21_ : Aside0 (gb262 ≠ gb278) := ⟨h21_⟩
    have n22_ : Aside0 (gb278 ≠ gb262) := ⟨h22_⟩
    have n23_ : Aside0 (Below w.heap.size w w49) := ⟨h23_⟩
    clear HO251
    clear HO260
    clear BK243
    clear BK252
    clear BK253
    clear BK261
    clear BK262
    clear HB
    clear h0_ h1_ h2_ h3_ h4_ h5_ h6_ h7_ h8_ h9_ h10_ h11_ h12_ h13_ h14_ h15_ h16_ h17_ h18_ h19_ h20_ h21_ h22_ h23_
    have HO251 := n0_
    have HO260 := n1_
    have HO267 := n2_
    have HO272 := n3_
    have HO277 := n4_
    have BK243 := n5_
    have BK252 := n6_
    have BK253 := n7_
    have BK261 := n8_
    have BK262 := n9_
    have BK278 := n10_
    have GW278 := n11_
    have GE278 := n12_
    have NB243_278 := n13_
    have NB278_243 := n14_
    have NB252_278 := n15_
    have NB278_252 := n16_
    have NB253_278 := n17_
    have NB278_253 := n18_
    have NB261_278 := n19_
    have NB278_261 := n20_
    have NB262_278 := n21_
    have NB278_262 := n22_
    have HB := n23_
    clear n0_ n1_ n2_ n3_ n4_ n5_ n6_ n7_ n8_ n9_ n10_ n11_ n12_ n13_ n14_ n15_ n16_ n17_ n18_ n19_ n20_ n21_ n22_ n23_
    have hHeld : w49.cell? ⟨gb253, 0, none⟩ = some (.int .i64 t247) ∧ w49.cell? ⟨gb253, 1, none⟩ = some (.int .i64 t248) := hS_
    obtain ⟨Ao52, co52, eo52⟩ := Kd.R_slice HO277.out
    (first | subst eo52 | (injection eo52 with f1_ f2_ f3_; have f4_ := f1_.symm; have f5_ := f3_.symm; clear f1_ f2_ f3_; subst f4_; subst f5_))
    refine norm_ (a' := ?_) ?_ ?_
    rotate_left
    ·simp only [putAll, Act.put, q1_, q2_, q3_]
     rfl
    refine one_ (i := 9) (N := none) #[true, true, true, true, true, true, true, true, true, true] rfl rfl (one_of HT_.out (by kernel_rfl)) (by decide) (fun K hK => ?_)
    have hs50 : w49.cell? ⟨gb278, 0, none⟩ = some (.int .u64 0) := (blk_cell BK278.out 0).trans rfl
    have hfs50 := blk_frozen BK278.out 0
    have hns50_0 := NB243_278.out
    have hns50_1 := NB252_278.out
    have hns50_2 := NB253_278.out
    have hns50_3 := NB261_278.out
    have hns50_4 := NB262_278.out
    have hms50_0 := NB278_243.out
    have hms50_1 := NB278_252.out
    have hms50_2 := NB278_253.out
    have hms50_3 := NB278_261.out
    have hms50_4 := NB278_262.out
    have hs51 : w49.cell? ⟨gb278, 1, none⟩ = some (.int .i64 0) := (blk_cell BK278.out 1).trans rfl
    have hfs51 := blk_frozen BK278.out 1
    have hns51_0 := NB243_278.out
    have hns51_1 := NB252_278.out
    have hns51_2 := NB253_278.out
    have hns51_3 := NB261_278.out
    have hns51_4 := NB262_278.out
    have hms51_0 := NB278_243.out
    have hms51_1 := NB278_252.out
    have hms51_2 := NB278_253.out
    have hms51_3 := NB278_261.out
    have hms51_4 := NB278_262.out
    have hs53 : w49.cell? ⟨gb278, 2, none⟩ = some (.slice none 0 0) := (blk_cell BK278.out 2).trans rfl
    have hfs53 := blk_frozen BK278.out 2
    have hns53_0 := NB243_278.out
    have hns53_1 := NB252_278.out
    have hns53_2 := NB253_278.out
    have hns53_3 := NB261_278.out
    have hns53_4 := NB262_278.out
    have hms53_0 := NB278_243.out
    have hms53_1 := NB278_252.out
    have hms53_2 := NB278_253.out
    have hms53_3 := NB278_261.out
    have hms53_4 := NB278_262.out
    refine skip_ (w1 := ?_) (by rfl) rfl ?_ ?_
    rotate_left
    ·go_simp
     rfl
    refine hK.out _ _ ⟨((cell_far (p := ⟨gb278, _, none⟩) NB253_278.out _).trans (((cell_far (p := ⟨gb278, _, none⟩) NB253_278.out _).trans (((cell_far (p := ⟨gb278, _, none⟩) NB253_278.out _).trans (hHeld.1)))))), ((cell_far (p := ⟨gb278, _, none⟩) NB253_278.out _).trans (((cell_far (p := ⟨gb278, _, none⟩) NB253_278.out _).trans (((cell_far (p := ⟨gb278, _, none⟩) NB253_278.out _).trans (hHeld.2))))))⟩ (fun hHeld => ?_)
    clear hK K
    refine done_ (done_of HT_.out (by kernel_rfl)) ?_
    try go_wp2_with (first | ((with_reducible refine gate_builtin (b := .append) (xs := #[.tmp 41, .tmp 42]) rfl ?_); at_builtin; refine Kd.N_append_rows k44 (w0 := w) w.heap.size rfl (.tmp 41) (.tmp 42) 24 44 (.agg #[(.int .i64 0), (.slice none 0 0), (.slice none 0 0), (.int .u64 0)]) 64 rfl Try.underlying24 info44 rfl (by decide) (by omega) (.slice none 0 0) ([] : List (S44)) t249 _ _ _ (fun k_ => some k_ ≠ (.slice Ao40 t258.length co40 : Value).ownBlock ∧ some k_ ≠ (v266 : Value).ownBlock ∧ some k_ ≠ (v271 : Value).ownBlock ∧ some k_ ≠ (.slice Ao52 t275.length co52 : Value).ownBlock ∧ k_ ≠ gb243 ∧ k_ ≠ gb252 ∧ k_ ≠ gb253 ∧ k_ ≠ gb261 ∧ k_ ≠ gb262 ∧ k_ ≠ gb278) (fun k_ => ((fun k_ => some k_ ≠ (.slice Ao40 t258.length co40 : Value).ownBlock ∧ some k_ ≠ (v266 : Value).ownBlock ∧ some k_ ≠ (v271 : Value).ownBlock ∧ some k_ ≠ (.slice Ao52 t275.length co52 : Value).ownBlock ∧ k_ ≠ gb243 ∧ k_ ≠ gb252 ∧ k_ ≠ gb253 ∧ k_ ≠ gb261 ∧ k_ ≠ gb262 ∧ k_ ≠ gb278)) k_ ∧ some k_ ≠ (.slice none 0 0 : Value).ownBlock) rfl rfl ?aO ?aR (fun _ hk => hk) ?aF ?aB ?aS ?aL ?_; (case aR => exact (by skip; exact Kd.N_F (Kd.N_mono (ok' := (fun k_ => ((fun k_ => some k_ ≠ (.slice Ao40 t258.length co40 : Value).ownBlock ∧ some k_ ≠ (v266 : Value).ownBlock ∧ some k_ ≠ (v271 : Value).ownBlock ∧ some k_ ≠ (.slice Ao52 t275.length co52 : Value).ownBlock ∧ k_ ≠ gb243 ∧ k_ ≠ gb252 ∧ k_ ≠ gb253 ∧ k_ ≠ gb261 ∧ k_ ≠ gb262 ∧ k_ ≠ gb278)) k_ ∧ some k_ ≠ (.slice none 0 0 : Value).ownBlock)) ((Kd.N_far (p := ⟨gb278, 2, none⟩) (Kd.N_far (p := ⟨gb278, 1, none⟩) (Kd.N_far (p := ⟨gb278, 0, none⟩) (Kd.N_mono HO251.out (fun k_ hk => (⟨hk, hk.2.2.2.2.2.2.2.2.2⟩ : _ ∧ k_ ≠ gb278))) (fun _ hk => hk.2) (.int .u64 t273)) (fun _ hk => hk.2) (.int .i64 t274)) (fun _ hk => hk.2) (.slice Ao52 t275.length co52))) (fun k_ hk => ⟨⟨hk.1.1, ⟨hk.1.2.1, ⟨hk.1.2.2.1, ⟨hk.1.2.2.2.1, ⟨hk.1.2.2.2.2.1, ⟨hk.1.2.2.2.2.2.1, ⟨hk.1.2.2.2.2.2.2.1, ⟨hk.1.2.2.2.2.2.2.2.1, ⟨hk.1.2.2.2.2.2.2.2.2.1, hk.1.2.2.2.2.2.2.2.2.2⟩⟩⟩⟩⟩⟩⟩⟩⟩, (by simp [Value.ownBlock])⟩)))); (case aB => exact (bw_ HB.out)); (case aF => exact (fun k_ hk => ⟨Kd.fresh' (Kd.N_lt (by (with_reducible repeat (first | apply Kd.N_alloc | apply Kd.N_drewN | apply Kd.N_drew)); exact (Kd.N_mono (Kd.N_far (p := ⟨gb278, 2, none⟩) (Kd.N_far (p := ⟨gb278, 1, none⟩) (Kd.N_far (p := ⟨gb278, 0, none⟩) (Kd.N_mono HO260.out (fun k_ hk => (⟨hk, hk.2.2.2.2.2.2.2.2.2⟩ : _ ∧ k_ ≠ gb278))) (fun _ hk => hk.2) (.int .u64 t273)) (fun _ hk => hk.2) (.int .i64 t274)) (fun _ hk => hk.2) (.slice Ao52 t275.length co52)) (fun _ h_ => h_.1)))) k_ hk, Kd.fresh' (Kd.R_lt (by (with_reducible repeat (first | apply Kd.R_alloc | apply Kd.R_drewN | apply Kd.R_drew)); exact (Kd.R_mono (Kd.R_far (p := ⟨gb278, 2, none⟩) (Kd.R_far (p := ⟨gb278, 1, none⟩) (Kd.R_far (p := ⟨gb278, 0, none⟩) (Kd.R_types HO267.out BK278.out (by decide)) (fun _ hk => hk.2) (.int .u64 t273)) (fun _ hk => hk.2) (.int .i64 t274)) (fun _ hk => hk.2) (.slice Ao52 t275.length co52)) (fun _ h_ => h_.1)))) k_ hk, Kd.fresh' (Kd.R_lt (by (with_reducible repeat (first | apply Kd.R_alloc | apply Kd.R_drewN | apply Kd.R_drew)); exact (Kd.R_mono (Kd.R_far (p := ⟨gb278, 2, none⟩) (Kd.R_far (p := ⟨gb278, 1, none⟩) (Kd.R_far (p := ⟨gb278, 0, none⟩) (Kd.R_types HO272.out BK278.out (by decide)) (fun _ hk => hk.2) (.int .u64 t273)) (fun _ hk => hk.2) (.int .i64 t274)) (fun _ hk => hk.2) (.slice Ao52 t275.length co52)) (fun _ h_ => h_.1)))) k_ hk, Kd.fresh' (Kd.R_lt (by (with_reducible repeat (first | apply Kd.R_alloc | apply Kd.R_drewN | apply Kd.R_drew)); exact (Kd.R_mono (Kd.R_far (p := ⟨gb278, 2, none⟩) (Kd.R_far (p := ⟨gb278, 1, none⟩) (Kd.R_far (p := ⟨gb278, 0, none⟩) (Kd.R_types HO277.out BK278.out (by decide)) (fun _ hk => hk.2) (.int .u64 t273)) (fun _ hk => hk.2) (.int .i64 t274)) (fun _ hk => hk.2) (.slice Ao52 t275.length co52)) (fun _ h_ => h_.1)))) k_ hk, Kd.freshB (g := gb243) (o := .cells #[.int .i64 a0_0, .int .i64 a0_1] 23 (0, 0)) (by (with_reducible repeat (first | refine blk_drewN ?_ _ | refine blk_drew ?_ | refine blk_alloc ?_ _)); refine blk_far ?_ NB243_278.out _; (with_reducible repeat (first | refine blk_drewN ?_ _ | refine blk_drew ?_ | refine blk_alloc ?_ _)); refine blk_far ?_ NB243_278.out _; (with_reducible repeat (first | refine blk_drewN ?_ _ | refine blk_drew ?_ | refine blk_alloc ?_ _)); refine blk_far ?_ NB243_278.out _; (with_reducible repeat (first | refine blk_drewN ?_ _ | refine blk_drew ?_ | refine blk_alloc ?_ _)); exact BK243.out) k_ hk, Kd.freshB (g := gb252) (o := .cells #[.int .i64 t245, .int .i64 t246] 27 (0, 0)) (by (with_reducible repeat (first | refine blk_drewN ?_ _ | refine blk_drew ?_ | refine blk_alloc ?_ _)); refine blk_far ?_ NB252_278.out _; (with_reducible repeat (first | refine blk_drewN ?_ _ | refine blk_drew ?_ | refine blk_alloc ?_ _)); refine blk_far ?_ NB252_278.out _; (with_reducible repeat (first | refine blk_drewN ?_ _ | refine blk_drew ?_ | refine blk_alloc ?_ _)); refine blk_far ?_ NB252_278.out _; (with_reducible repeat (first | refine blk_drewN ?_ _ | refine blk_drew ?_ | refine blk_alloc ?_ _)); exact BK252.out) k_ hk, Kd.freshB (g := gb253) (o := .cells #[.int .i64 t247, .int .i64 t248] 23 (0, 0)) (by (with_reducible repeat (first | refine blk_drewN ?_ _ | refine blk_drew ?_ | refine blk_alloc ?_ _)); refine blk_far ?_ NB253_278.out _; (with_reducible repeat (first | refine blk_drewN ?_ _ | refine blk_drew ?_ | refine blk_alloc ?_ _)); refine blk_far ?_ NB253_278.out _; (with_reducible repeat (first | refine blk_drewN ?_ _ | refine blk_drew ?_ | refine blk_alloc ?_ _)); refine blk_far ?_ NB253_278.out _; (with_reducible repeat (first | refine blk_drewN ?_ _ | refine blk_drew ?_ | refine blk_alloc ?_ _)); exact BK253.out) k_ hk, Kd.freshB (g := gb261) (o := .cells #[.int .i64 t254, .int .i64 t255] 27 (0, 0)) (by (with_reducible repeat (first | refine blk_drewN ?_ _ | refine blk_drew ?_ | refine blk_alloc ?_ _)); refine blk_far ?_ NB261_278.out _; (with_reducible repeat (first | refine blk_drewN ?_ _ | refine blk_drew ?_ | refine blk_alloc ?_ _)); refine blk_far ?_ NB261_278.out _; (with_reducible repeat (first | refine blk_drewN ?_ _ | refine blk_drew ?_ | refine blk_alloc ?_ _)); refine blk_far ?_ NB261_278.out _; (with_reducible repeat (first | refine blk_drewN ?_ _ | refine blk_drew ?_ | refine blk_alloc ?_ _)); exact BK261.out) k_ hk, Kd.freshB (g := gb262) (o := .cells #[.int .i64 t256, .int .i64 t257] 23 (0, 0)) (by (with_reducible repeat (first | refine blk_drewN ?_ _ | refine blk_drew ?_ | refine blk_alloc ?_ _)); refine blk_far ?_ NB262_278.out _; (with_reducible repeat (first | refine blk_drewN ?_ _ | refine blk_drew ?_ | refine blk_alloc ?_ _)); refine blk_far ?_ NB262_278.out _; (with_reducible repeat (first | refine blk_drewN ?_ _ | refine blk_drew ?_ | refine blk_alloc ?_ _)); refine blk_far ?_ NB262_278.out _; (with_reducible repeat (first | refine blk_drewN ?_ _ | refine blk_drew ?_ | refine blk_alloc ?_ _)); exact BK262.out) k_ hk, Kd.freshB (g := gb278) (o := .cells #[.int .u64 t273, .int .i64 t274, .slice Ao52 t275.length co52] 33 (0, 0)) (by (with_reducible repeat (first | refine blk_drewN ?_ _ | refine blk_drew ?_ | refine blk_alloc ?_ _)); refine blk_put (cs := #[.int .u64 t273, .int .i64 t274, .slice none 0 0]) ?_ 2 _ rfl; (with_reducible repeat (first | refine blk_drewN ?_ _ | refine blk_drew ?_ | refine blk_alloc ?_ _)); refine blk_put (cs := #[.int .u64 t273, .int .i64 0, .slice none 0 0]) ?_ 1 _ rfl; (with_reducible repeat (first | refine blk_drewN ?_ _ | refine blk_drew ?_ | refine blk_alloc ?_ _)); refine blk_put (cs := #[.int .u64 0, .int .i64 0, .slice none 0 0]) ?_ 0 _ rfl; (with_reducible repeat (first | refine blk_drewN ?_ _ | refine blk_drew ?_ | refine blk_alloc ?_ _)); exact BK278.out) k_ hk⟩)); (case aO => exact ((Kd.N_nil _ _ _ _ (fun k_ => some k_ ≠ (.slice Ao40 t258.length co40 : Value).ownBlock ∧ some k_ ≠ (v266 : Value).ownBlock ∧ some k_ ≠ (v271 : Value).ownBlock ∧ some k_ ≠ (.slice Ao52 t275.length co52 : Value).ownBlock ∧ k_ ≠ gb243 ∧ k_ ≠ gb252 ∧ k_ ≠ gb253 ∧ k_ ≠ gb261 ∧ k_ ≠ gb262 ∧ k_ ≠ gb278)))); (case aS => exact (below_size (bw_ HB.out))); (case aL => have := LMc11.out; omega); intro v280 w54 ho hb hg hat; rw [← Ny279.out] at ho; have n0_ := Aside0.mk (blk_grown (g := gb243) (o := .cells #[.int .i64 a0_0, .int .i64 a0_1] 23 (0, 0)) (by (with_reducible repeat (first | refine blk_drewN ?_ _ | refine blk_drew ?_ | refine blk_alloc ?_ _)); refine blk_far ?_ NB243_278.out _; (with_reducible repeat (first | refine blk_drewN ?_ _ | refine blk_drew ?_ | refine blk_alloc ?_ _)); refine blk_far ?_ NB243_278.out _; (with_reducible repeat (first | refine blk_drewN ?_ _ | refine blk_drew ?_ | refine blk_alloc ?_ _)); refine blk_far ?_ NB243_278.out _; (with_reducible repeat (first | refine blk_drewN ?_ _ | refine blk_drew ?_ | refine blk_alloc ?_ _)); exact BK243.out) hg (by simp [Value.ownBlock])); have n1_ := Aside0.mk (Kd.N_afterv (Kd.N_apart_nil (by (with_reducible repeat (first | apply Kd.N_alloc | apply Kd.N_drewN | apply Kd.N_drew)); exact (Kd.N_mono (Kd.N_far (p := ⟨gb278, 2, none⟩) (Kd.N_far (p := ⟨gb278, 1, none⟩) (Kd.N_far (p := ⟨gb278, 0, none⟩) (Kd.N_mono HO251.out (fun k_ hk => (⟨hk, hk.2.2.2.2.2.2.2.2.2⟩ : _ ∧ k_ ≠ gb278))) (fun _ hk => hk.2) (.int .u64 t273)) (fun _ hk => hk.2) (.int .i64 t274)) (fun _ hk => hk.2) (.slice Ao52 t275.length co52)) (fun _ h_ => h_.1)))) hg hat); have n2_ := Aside0.mk (blk_grown (g := gb252) (o := .cells #[.int .i64 t245, .int .i64 t246] 27 (0, 0)) (by (with_reducible repeat (first | refine blk_drewN ?_ _ | refine blk_drew ?_ | refine blk_alloc ?_ _)); refine blk_far ?_ NB252_278.out _; (with_reducible repeat (first | refine blk_drewN ?_ _ | refine blk_drew ?_ | refine blk_alloc ?_ _)); refine blk_far ?_ NB252_278.out _; (with_reducible repeat (first | refine blk_drewN ?_ _ | refine blk_drew ?_ | refine blk_alloc ?_ _)); refine blk_far ?_ NB252_278.out _; (with_reducible repeat (first | refine blk_drewN ?_ _ | refine blk_drew ?_ | refine blk_alloc ?_ _)); exact BK252.out) hg (by simp [Value.ownBlock])); have n3_ := Aside0.mk (blk_grown (g := gb253) (o := .cells #[.int .i64 t247, .int .i64 t248] 23 (0, 0)) (by (with_reducible repeat (first | refine blk_drewN ?_ _ | refine blk_drew ?_ | refine blk_alloc ?_ _)); refine blk_far ?_ NB253_278.out _; (with_reducible repeat (first | refine blk_drewN ?_ _ | refine blk_drew ?_ | refine blk_alloc ?_ _)); refine blk_far ?_ NB253_278.out _; (with_reducible repeat (first | refine blk_drewN ?_ _ | refine blk_drew ?_ | refine blk_alloc ?_ _)); refine blk_far ?_ NB253_278.out _; (with_reducible repeat (first | refine blk_drewN ?_ _ | refine blk_drew ?_ | refine blk_alloc ?_ _)); exact BK253.out) hg (by simp [Value.ownBlock])); have n4_ := Aside0.mk (Kd.N_afterv (Kd.N_apart_nil (by (with_reducible repeat (first | apply Kd.N_alloc | apply Kd.N_drewN | apply Kd.N_drew)); exact (Kd.N_mono (Kd.N_far (p := ⟨gb278, 2, none⟩) (Kd.N_far (p := ⟨gb278, 1, none⟩) (Kd.N_far (p := ⟨gb278, 0, none⟩) (Kd.N_mono HO260.out (fun k_ hk => (⟨hk, hk.2.2.2.2.2.2.2.2.2⟩ : _ ∧ k_ ≠ gb278))) (fun _ hk => hk.2) (.int .u64 t273)) (fun _ hk => hk.2) (.int .i64 t274)) (fun _ hk => hk.2) (.slice Ao52 t275.length co52)) (fun _ h_ => h_.1)))) hg hat); have n5_ := Aside0.mk (blk_grown (g := gb261) (o := .cells #[.int .i64 t254, .int .i64 t255] 27 (0, 0)) (by (with_reducible repeat (first | refine blk_drewN ?_ _ | refine blk_drew ?_ | refine blk_alloc ?_ _)); refine blk_far ?_ NB261_278.out _; (with_reducible repeat (first | refine blk_drewN ?_ _ | refine blk_drew ?_ | refine blk_alloc ?_ _)); refine blk_far ?_ NB261_278.out _; (with_reducible repeat (first | refine blk_drewN ?_ _ | refine blk_drew ?_ | refine blk_alloc ?_ _)); refine blk_far ?_ NB261_278.out _; (with_reducible repeat (first | refine blk_drewN ?_ _ | refine blk_drew ?_ | refine blk_alloc ?_ _)); exact BK261.out) hg (by simp [Value.ownBlock])); have n6_ := Aside0.mk (blk_grown (g := gb262) (o := .cells #[.int .i64 t256, .int .i64 t257] 23 (0, 0)) (by (with_reducible repeat (first | refine blk_drewN ?_ _ | refine blk_drew ?_ | refine blk_alloc ?_ _)); refine blk_far ?_ NB262_278.out _; (with_reducible repeat (first | refine blk_drewN ?_ _ | refine blk_drew ?_ | refine blk_alloc ?_ _)); refine blk_far ?_ NB262_278.out _; (with_reducible repeat (first | refine blk_drewN ?_ _ | refine blk_drew ?_ | refine blk_alloc ?_ _)); refine blk_far ?_ NB262_278.out _; (with_reducible repeat (first | refine blk_drewN ?_ _ | refine blk_drew ?_ | refine blk_alloc ?_ _)); exact BK262.out) hg (by simp [Value.ownBlock])); have n7_ := Aside0.mk (Kd.R_grown (by (with_reducible repeat (first | apply Kd.R_alloc | apply Kd.R_drewN | apply Kd.R_drew)); exact (Kd.R_mono (Kd.R_far (p := ⟨gb278, 2, none⟩) (Kd.R_far (p := ⟨gb278, 1, none⟩) (Kd.R_far (p := ⟨gb278, 0, none⟩) (Kd.R_types HO267.out BK278.out (by decide)) (fun _ hk => hk.2) (.int .u64 t273)) (fun _ hk => hk.2) (.int .i64 t274)) (fun _ hk => hk.2) (.slice Ao52 t275.length co52)) (fun _ h_ => h_.1))) hg (fun _ _ => by simp [Value.ownBlock])); have n8_ := Aside0.mk (Kd.R_grown (by (with_reducible repeat (first | apply Kd.R_alloc | apply Kd.R_drewN | apply Kd.R_drew)); exact (Kd.R_mono (Kd.R_far (p := ⟨gb278, 2, none⟩) (Kd.R_far (p := ⟨gb278, 1, none⟩) (Kd.R_far (p := ⟨gb278, 0, none⟩) (Kd.R_types HO272.out BK278.out (by decide)) (fun _ hk => hk.2) (.int .u64 t273)) (fun _ hk => hk.2) (.int .i64 t274)) (fun _ hk => hk.2) (.slice Ao52 t275.length co52)) (fun _ h_ => h_.1))) hg (fun _ _ => by simp [Value.ownBlock])); have n9_ := Aside0.mk (Kd.R_grown (by (with_reducible repeat (first | apply Kd.R_alloc | apply Kd.R_drewN | apply Kd.R_drew)); exact (Kd.R_mono (Kd.R_far (p := ⟨gb278, 2, none⟩) (Kd.R_far (p := ⟨gb278, 1, none⟩) (Kd.R_far (p := ⟨gb278, 0, none⟩) (Kd.R_types HO277.out BK278.out (by decide)) (fun _ hk => hk.2) (.int .u64 t273)) (fun _ hk => hk.2) (.int .i64 t274)) (fun _ hk => hk.2) (.slice Ao52 t275.length co52)) (fun _ h_ => h_.1))) hg (fun _ _ => by simp [Value.ownBlock])); have n10_ := Aside0.mk (blk_grown (g := gb278) (o := .cells #[.int .u64 t273, .int .i64 t274, .slice Ao52 t275.length co52] 33 (0, 0)) (by (with_reducible repeat (first | refine blk_drewN ?_ _ | refine blk_drew ?_ | refine blk_alloc ?_ _)); refine blk_put (cs := #[.int .u64 t273, .int .i64 t274, .slice none 0 0]) ?_ 2 _ rfl; (with_reducible repeat (first | refine blk_drewN ?_ _ | refine blk_drew ?_ | refine blk_alloc ?_ _)); refine blk_put (cs := #[.int .u64 t273, .int .i64 0, .slice none 0 0]) ?_ 1 _ rfl; (with_reducible repeat (first | refine blk_drewN ?_ _ | refine blk_drew ?_ | refine blk_alloc ?_ _)); refine blk_put (cs := #[.int .u64 0, .int .i64 0, .slice none 0 0]) ?_ 0 _ rfl; (with_reducible repeat (first | refine blk_drewN ?_ _ | refine blk_drew ?_ | refine blk_alloc ?_ _)); exact BK278.out) hg (by simp [Value.ownBlock])); have n11_ := Aside0.mk (hb); have n12_ := Aside0.mk (ho); clear BK243 HO251 BK252 BK253 HO260 BK261 BK262 HO267 HO272 HO277 BK278 HB; have BK243 := n0_; have HO251 := n1_; have BK252 := n2_; have BK253 := n3_; have HO260 := n4_; have BK261 := n5_; have BK262 := n6_; have HO267 := n7_; have HO272 := n8_; have HO277 := n9_; have BK278 := n10_; have HB := n11_; have HO281 := n12_; clear n0_ n1_ n2_ n3_ n4_ n5_ n6_ n7_ n8_ n9_ n10_ n11_ n12_; clear ho hb hg hat) | ((with_reducible refine gate_builtin (b := .append) (xs := #[.tmp 44, .tmp 45]) rfl ?_); at_builtin; refine Kd.N_append_rows k44 (w0 := w) w.heap.size rfl (.tmp 44) (.tmp 45) 24 44 (.agg #[(.int .i64 0), (.slice none 0 0), (.slice none 0 0), (.int .u64 0)]) 64 rfl Try.underlying24 info44 rfl (by decide) (by omega) v280 y279 t258 _ _ _ (fun k_ => some k_ ≠ (v266 : Value).ownBlock ∧ some k_ ≠ (v271 : Value).ownBlock ∧ some k_ ≠ (.slice Ao52 t275.length co52 : Value).ownBlock ∧ k_ ≠ gb243 ∧ k_ ≠ gb252 ∧ k_ ≠ gb253 ∧ k_ ≠ gb261 ∧ k_ ≠ gb262 ∧ k_ ≠ gb278) (fun k_ => ((fun k_ => some k_ ≠ (v266 : Value).ownBlock ∧ some k_ ≠ (v271 : Value).ownBlock ∧ some k_ ≠ (.slice Ao52 t275.length co52 : Value).ownBlock ∧ k_ ≠ gb243 ∧ k_ ≠ gb252 ∧ k_ ≠ gb253 ∧ k_ ≠ gb261 ∧ k_ ≠ gb262 ∧ k_ ≠ gb278)) k_ ∧ some k_ ≠ (v280 : Value).ownBlock) rfl rfl ?aO ?aR (fun _ hk => hk) ?aF ?aB ?aS ?aL ?_; (case aR => exact (by skip; exact Kd.N_F (Kd.N_mono (ok' := (fun k_ => ((fun k_ => some k_ ≠ (v266 : Value).ownBlock ∧ some k_ ≠ (v271 : Value).ownBlock ∧ some k_ ≠ (.slice Ao52 t275.length co52 : Value).ownBlock ∧ k_ ≠ gb243 ∧ k_ ≠ gb252 ∧ k_ ≠ gb253 ∧ k_ ≠ gb261 ∧ k_ ≠ gb262 ∧ k_ ≠ gb278)) k_ ∧ some k_ ≠ (v280 : Value).ownBlock)) (HO260.out) (fun k_ hk => ⟨⟨hk.1.2.1, ⟨hk.1.2.2.1, ⟨hk.1.2.2.2.1, ⟨hk.1.2.2.2.2.1, ⟨hk.1.2.2.2.2.2.1, ⟨hk.1.2.2.2.2.2.2.1, ⟨hk.1.2.2.2.2.2.2.2.1, ⟨hk.1.2.2.2.2.2.2.2.2.1, hk.1.2.2.2.2.2.2.2.2.2⟩⟩⟩⟩⟩⟩⟩⟩, hk.2⟩)))); (case aB => exact (bw_ HB.out)); (case aF => exact (fun k_ hk => ⟨Kd.fresh' (Kd.R_lt (by (with_reducible repeat (first | apply Kd.R_alloc | apply Kd.R_drewN | apply Kd.R_drew)); exact HO267.out)) k_ hk, Kd.fresh' (Kd.R_lt (by (with_reducible repeat (first | apply Kd.R_alloc | apply Kd.R_drewN | apply Kd.R_drew)); exact HO272.out)) k_ hk, Kd.fresh' (Kd.R_lt (by (with_reducible repeat (first | apply Kd.R_alloc | apply Kd.R_drewN | apply Kd.R_drew)); exact HO277.out)) k_ hk, Kd.freshB (g := gb243) (o := .cells #[.int .i64 a0_0, .int .i64 a0_1] 23 (0, 0)) (bk_ BK243.out) k_ hk, Kd.freshB (g := gb252) (o := .cells #[.int .i64 t245, .int .i64 t246] 27 (0, 0)) (bk_ BK252.out) k_ hk, Kd.freshB (g := gb253) (o := .cells #[.int .i64 t247, .int .i64 t248] 23 (0, 0)) (bk_ BK253.out) k_ hk, Kd.freshB (g := gb261) (o := .cells #[.int .i64 t254, .int .i64 t255] 27 (0, 0)) (bk_ BK261.out) k_ hk, Kd.freshB (g := gb262) (o := .cells #[.int .i64 t256, .int .i64 t257] 23 (0, 0)) (bk_ BK262.out) k_ hk, Kd.freshB (g := gb278) (o := .cells #[.int .u64 t273, .int .i64 t274, .slice Ao52 t275.length co52] 33 (0, 0)) (bk_ BK278.out) k_ hk⟩)); (case aO => exact (by (with_reducible repeat (first | apply Kd.N_alloc | apply Kd.N_drewN | apply Kd.N_drew)); exact Kd.N_mono HO281.out (fun _ hk => ⟨hk.2.1, ⟨hk.2.2.1, ⟨hk.2.2.2.1, ⟨hk.2.2.2.2.1, ⟨hk.2.2.2.2.2.1, ⟨hk.2.2.2.2.2.2.1, ⟨hk.2.2.2.2.2.2.2.1, ⟨hk.2.2.2.2.2.2.2.2.1, hk.2.2.2.2.2.2.2.2.2⟩⟩⟩⟩⟩⟩⟩⟩))); (case aS => exact (below_size (bw_ HB.out))); (case aL => have := LMc12.out; omega); intro v283 w55 ho hb hg hat; rw [← Ny282.out] at ho; have n0_ := Aside0.mk (blk_grown (g := gb243) (o := .cells #[.int .i64 a0_0, .int .i64 a0_1] 23 (0, 0)) (bk_ BK243.out) hg (Kd.N_ne HO281.out BK243.out (by decide))); have n1_ := Aside0.mk (Kd.N_afterv (ok := (fun k_ => some k_ ≠ (.slice Ao40 t258.length co40 : Value).ownBlock ∧ some k_ ≠ (v266 : Value).ownBlock ∧ some k_ ≠ (v271 : Value).ownBlock ∧ some k_ ≠ (.slice Ao52 t275.length co52 : Value).ownBlock ∧ k_ ≠ gb243 ∧ k_ ≠ gb252 ∧ k_ ≠ gb253 ∧ k_ ≠ gb261 ∧ k_ ≠ gb262 ∧ k_ ≠ gb278)) (by (with_reducible repeat (first | apply Kd.N_alloc | apply Kd.N_drewN | apply Kd.N_drew)); exact HO251.out) hg hat); have n2_ := Aside0.mk (blk_grown (g := gb252) (o := .cells #[.int .i64 t245, .int .i64 t246] 27 (0, 0)) (bk_ BK252.out) hg (Kd.N_ne HO281.out BK252.out (by decide))); have n3_ := Aside0.mk (blk_grown (g := gb253) (o := .cells #[.int .i64 t247, .int .i64 t248] 23 (0, 0)) (bk_ BK253.out) hg (Kd.N_ne HO281.out BK253.out (by decide))); have n4_ := Aside0.mk (Kd.N_afterv (ok := (fun k_ => some k_ ≠ (.slice Ao39 t249.length co39 : Value).ownBlock ∧ some k_ ≠ (v266 : Value).ownBlock ∧ some k_ ≠ (v271 : Value).ownBlock ∧ some k_ ≠ (.slice Ao52 t275.length co52 : Value).ownBlock ∧ k_ ≠ gb243 ∧ k_ ≠ gb252 ∧ k_ ≠ gb253 ∧ k_ ≠ gb261 ∧ k_ ≠ gb262 ∧ k_ ≠ gb278)) (by (with_reducible repeat (first | apply Kd.N_alloc | apply Kd.N_drewN | apply Kd.N_drew)); exact HO260.out) hg hat); have n5_ := Aside0.mk (blk_grown (g := gb261) (o := .cells #[.int .i64 t254, .int .i64 t255] 27 (0, 0)) (bk_ BK261.out) hg (Kd.N_ne HO281.out BK261.out (by decide))); have n6_ := Aside0.mk (blk_grown (g := gb262) (o := .cells #[.int .i64 t256, .int .i64 t257] 23 (0, 0)) (bk_ BK262.out) hg (Kd.N_ne HO281.out BK262.out (by decide))); have n7_ := Aside0.mk (Kd.R_over' (by (with_reducible repeat (first | apply Kd.R_alloc | apply Kd.R_drewN | apply Kd.R_drew)); exact HO267.out) (Kd.N_typed (by (with_reducible repeat (first | apply Kd.N_alloc | apply Kd.N_drewN | apply Kd.N_drew)); exact HO281.out)) (by decide) hg); have n8_ := Aside0.mk (Kd.R_over' (by (with_reducible repeat (first | apply Kd.R_alloc | apply Kd.R_drewN | apply Kd.R_drew)); exact HO272.out) (Kd.N_typed (by (with_reducible repeat (first | apply Kd.N_alloc | apply Kd.N_drewN | apply Kd.N_drew)); exact HO281.out)) (by decide) hg); have n9_ := Aside0.mk (Kd.R_over' (by (with_reducible repeat (first | apply Kd.R_alloc | apply Kd.R_drewN | apply Kd.R_drew)); exact HO277.out) (Kd.N_typed (by (with_reducible repeat (first | apply Kd.N_alloc | apply Kd.N_drewN | apply Kd.N_drew)); exact HO281.out)) (by decide) hg); have n10_ := Aside0.mk (blk_grown (g := gb278) (o := .cells #[.int .u64 t273, .int .i64 t274, .slice Ao52 t275.length co52] 33 (0, 0)) (bk_ BK278.out) hg (Kd.N_ne HO281.out BK278.out (by decide))); have n11_ := Aside0.mk (hb); have n12_ := Aside0.mk (ho); clear BK243 HO251 BK252 BK253 HO260 BK261 BK262 HO267 HO272 HO277 BK278 HB HO281; have BK243 := n0_; have HO251 := n1_; have BK252 := n2_; have BK253 := n3_; have HO260 := n4_; have BK261 := n5_; have BK262 := n6_; have HO267 := n7_; have HO272 := n8_; have HO277 := n9_; have BK278 := n10_; have HB := n11_; have HO284 := n12_; clear n0_ n1_ n2_ n3_ n4_ n5_ n6_ n7_ n8_ n9_ n10_ n11_ n12_; clear ho hb hg hat))
    have n0_ := Aside0.mk (Kd.N_drew HO251.out)
    have n1_ := Aside0.mk (Kd.N_drew HO260.out)
    have n2_ := Aside0.mk (Kd.R_drew HO267.out)
    have n3_ := Aside0.mk (Kd.R_drew HO272.out)
    have n4_ := Aside0.mk (Kd.R_drew HO277.out)
    have n5_ := Aside0.mk (Kd.N_drew HO284.out)
    have n6_ := Aside0.mk (blk_drew BK243.out)
    have n7_ := Aside0.mk (blk_drew BK252.out)
    have n8_ := Aside0.mk (blk_drew BK253.out)
    have n9_ := Aside0.mk (blk_drew BK261.out)
    have n10_ := Aside0.mk (blk_drew BK262.out)
    have n11_ := Aside0.mk (blk_drew BK278.out)
    have n12_ := Aside0.mk (below_drew1 HB.out)
    clear HO251
    clear HO260
    clear HO267
    clear HO272
    clear HO277
    clear HO284
    clear BK243
    clear BK252
    clear BK253
    clear BK261
    clear BK262
    clear BK278
    clear HB
    have HO251 := n0_
    have HO260 := n1_
    have HO267 := n2_
    have HO272 := n3_
    have HO277 := n4_
    have HO284 := n5_
    have BK243 := n6_
    have BK252 := n7_
    have BK253 := n8_
    have BK261 := n9_
    have BK262 := n10_
    have BK278 := n11_
    have HB := n12_
    clear n0_ n1_ n2_ n3_ n4_ n5_ n6_ n7_ n8_ n9_ n10_ n11_ n12_
    obtain ⟨Ao57, co57, eo57⟩ := Kd.N_slice HO284.out
    (first | subst eo57 | (injection eo57 with f1_ f2_ f3_; have f4_ := f1_.symm; have f5_ := f3_.symm; clear f1_ f2_ f3_; subst f4_; subst f5_))
    refine start_ (n := 6) (S := fun w' => w'.cell? ⟨gb278, 0, none⟩ = some (.int .u64 t273) ∧ w'.cell? ⟨gb278, 1, none⟩ = some (.int .i64 t274) ∧ w'.cell? ⟨gb278, 2, none⟩ = some (.slice Ao52 t275.length co52) ∧ w'.cell? ⟨gb253, 0, none⟩ = some (.int .i64 t247) ∧ w'.cell? ⟨gb253, 1, none⟩ = some (.int .i64 t248)) (ds := []) #[false, false, false, false, false, false] (by kernel_rfl) rfl rfl ⟨(blk_cell BK278.out 0).trans rfl, (blk_cell BK278.out 1).trans rfl, (blk_cell BK278.out 2).trans rfl, (blk_cell BK253.out 0).trans rfl, (blk_cell BK253.out 1).trans rfl⟩ (fun hHeld => ?_)
    generalize w55.drew = w56 at HO251 HO260 HO267 HO272 HO277 HO284 BK243 BK252 BK253 BK261 BK262 BK278 HB hHeld ⊢
    refine pure_ (i := 2) (N := some 49) (v := ?_) (a' := ?_) #[false, false, true, false, false, false] rfl rfl (by kernel_rfl) (fun _ _ _ h => h) (Or.inl ⟨by rfl, ?_⟩) ?_ ?_
    rotate_left
    ·intro w'
     go_simp
     with_reducible rfl
    rotate_left
    ·simp only [Act.put, q1_, q2_, q3_, i64_w, i32_w]
     rfl
    refine take_ (i := 0) (N := some 47) (v := ?_) (a' := ?_) #[true, false, true, false, false, false] rfl rfl (by kernel_rfl) (fun _ _ _ h => h) (Or.inl ⟨by rfl, ?_⟩) hHeld ?_ ?_
    rotate_left
    ·rintro w' ⟨s0, s1, s2, s3, s4⟩
     go_simp
     with_reducible rfl
    rotate_left
    ·simp only [Act.put, q1_, q2_, q3_, i64_w, i32_w]
     rfl
    refine take_ (i := 1) (N := some 48) (v := ?_) (a' := ?_) #[true, true, true, false, false, false] rfl rfl (by kernel_rfl) (fun _ _ _ h => h) (Or.inl ⟨by rfl, ?_⟩) hHeld ?_ ?_
    rotate_left
    ·rintro w' ⟨s0, s1, s2, s3, s4⟩
     go_simp
     with_reducible rfl
    rotate_left
    ·simp only [Act.put, q1_, q2_, q3_, i64_w, i32_w]
     rfl
    refine one_ (i := 3) (N := some 50) #[true, true, true, true, false, false] rfl rfl (by kernel_rfl) (by decide) (fun K hK => ?_)
    refine goes_ Try.func13 (by kernel_rfl) rfl #[.agg #[.int .i64 t247, .int .i64 t248], .slice Ao57 y282.length co57] (by rfl) rfl rfl (by (try simp only [List.map_toArray, List.map_cons, List.map_nil]); first | done | rfl | (simp only [List.length_drop, List.length_take]; rfl)) ?_
    with_reducible refine (gristmillref06_Of.calls k t247 t248 _ _ y282 t285 t286 t287 _ ?side1 ?side2 A13.out).mono ?_
    (case side1 => repeat (first | exact (Kd.N_reads' HO284.out).2.2 | (with_reducible refine Kd.C_alloc ?_ _) | (with_reducible refine Kd.C_drewN ?_ _) | (with_reducible refine Kd.C_drew ?_)))
    (case side2 => exact (Kd.N_reads' HO284.out).2.1)
    rintro e w58 ⟨v288, rfl, ho0, hb⟩
    refine ⟨_, rfl, ?_⟩
    have n0_ := Aside0.mk (Kd.N_elder' (by (with_reducible repeat (first | apply Kd.N_alloc | apply Kd.N_drewN | apply Kd.N_drew)); exact HO251.out) (Kd.R_base ho0) hb)
    have n1_ := Aside0.mk (Kd.N_elder' (by (with_reducible repeat (first | apply Kd.N_alloc | apply Kd.N_drewN | apply Kd.N_drew)); exact HO260.out) (Kd.R_base ho0) hb)
    have n2_ := Aside0.mk (Kd.R_elder' (by (with_reducible repeat (first | apply Kd.R_alloc | apply Kd.R_drewN | apply Kd.R_drew)); exact HO267.out) (Kd.R_base ho0) hb)
    have n3_ := Aside0.mk (Kd.R_elder' (by (with_reducible repeat (first | apply Kd.R_alloc | apply Kd.R_drewN | apply Kd.R_drew)); exact HO272.out) (Kd.R_base ho0) hb)
    have n4_ := Aside0.mk (Kd.R_elder' (by (with_reducible repeat (first | apply Kd.R_alloc | apply Kd.R_drewN | apply Kd.R_drew)); exact HO277.out) (Kd.R_base ho0) hb)
    have n5_ := Aside0.mk (Kd.N_elder' (by (with_reducible repeat (first | apply Kd.N_alloc | apply Kd.N_drewN | apply Kd.N_drew)); exact HO284.out) (Kd.R_base ho0) hb)
    have n6_ := Aside0.mk (Kd.R_lower (Kd.R_new' (Kd.R_new' (Kd.R_new' ho0 (Kd.R_lt (by (with_reducible repeat (first | apply Kd.R_alloc | apply Kd.R_drewN | apply Kd.R_drew)); exact HO267.out))) (Kd.R_lt (by (with_reducible repeat (first | apply Kd.R_alloc | apply Kd.R_drewN | apply Kd.R_drew)); exact HO272.out))) (Kd.R_lt (by (with_reducible repeat (first | apply Kd.R_alloc | apply Kd.R_drewN | apply Kd.R_drew)); exact HO277.out))) (below_size (bw_ HB.out)))
    have n7_ := Aside0.mk (blk_below (bk_ BK243.out) hb)
    have n8_ := Aside0.mk (blk_below (bk_ BK252.out) hb)
    have n9_ := Aside0.mk (blk_below (bk_ BK253.out) hb)
    have n10_ := Aside0.mk (blk_below (bk_ BK261.out) hb)
    have n11_ := Aside0.mk (blk_below (bk_ BK262.out) hb)
    have n12_ := Aside0.mk (blk_below (bk_ BK278.out) hb)
    have n13_ := Aside0.mk (below_step (bw_ HB.out) hb)
    clear HO251
    clear HO260
    clear HO267
    clear HO272
    clear HO277
    clear HO284
    clear BK243
    clear BK252
    clear BK253
    clear BK261
    clear BK262
    clear BK278
    clear HB
    have HO251 := n0_
    have HO260 := n1_
    have HO267 := n2_
    have HO272 := n3_
    have HO277 := n4_
    have HO284 := n5_
    have HO289 := n6_
    have BK243 := n7_
    have BK252 := n8_
    have BK253 := n9_
    have BK261 := n10_
    have BK262 := n11_
    have BK278 := n12_
    have HB := n13_
    clear n0_ n1_ n2_ n3_ n4_ n5_ n6_ n7_ n8_ n9_ n10_ n11_ n12_ n13_
    (try clear hb)
    (try clear hb2)
    (try clear hk)
    (try clear hi)
    (try clear ho0)
    obtain ⟨Ao59, co59, eo59⟩ := Kd.R_slice HO289.out
    (first | subst eo59 | (injection eo59 with f1_ f2_ f3_; have f4_ := f1_.symm; have f5_ := f3_.symm; clear f1_ f2_ f3_; subst f4_; subst f5_))
    refine hK.out _ _ ⟨(blk_cell BK278.out 0).trans rfl, (blk_cell BK278.out 1).trans rfl, (blk_cell BK278.out 2).trans rfl, (blk_cell BK253.out 0).trans rfl, (blk_cell BK253.out 1).trans rfl⟩ (fun hHeld => ?_)
    clear hK K
    refine norm_ (a' := ?_) ?_ ?_
    rotate_left
    ·show Act.put _ (some 50) _ = _
     simp only [Act.put, q1_, q2_, q3_, i64_w, i32_w]
     rfl
    refine one_ (i := 4) (N := some 51) #[true, true, true, true, true, false] rfl rfl (by kernel_rfl) (by decide) (fun K hK => ?_)
    refine goes_ Try.func14 (by kernel_rfl) rfl #[.agg #[.int .u64 t273, .int .i64 t274, .slice Ao52 t275.length co52], .agg #[.int .u64 t285, .int .i64 t286, .slice Ao59 t287.length co59]] (by rfl) rfl rfl (by (try simp only [List.map_toArray, List.map_cons, List.map_nil]); first | done | rfl | (simp only [List.length_drop, List.length_take]; rfl)) ?_
    with_reducible refine (gristmillref06_Same.calls k t273 t274 _ _ t275 t285 t286 _ _ t287 t290 _ ?side1 ?side2 ?side3 ?side4 A14.out).mono ?_
    (case side1 => repeat (first | exact (Kd.R_reads' HO277.out).2.2 | (with_reducible refine Kd.C_alloc ?_ _) | (with_reducible refine Kd.C_drewN ?_ _) | (with_reducible refine Kd.C_drew ?_)))
    (case side2 => exact (Kd.R_reads' HO277.out).2.1)
    (case side3 => repeat (first | exact (Kd.R_reads' HO289.out).2.2 | (with_reducible refine Kd.C_alloc ?_ _) | (with_reducible refine Kd.C_drewN ?_ _) | (with_reducible refine Kd.C_drew ?_)))
    (case side4 => exact (Kd.R_reads' HO289.out).2.1)
    rintro e w60 ⟨rfl, hb⟩
    refine ⟨_, rfl, ?_⟩
    have n0_ := Aside0.mk (Kd.N_below (by (with_reducible repeat (first | apply Kd.N_alloc | apply Kd.N_drewN | apply Kd.N_drew)); exact HO251.out) hb)
    have n1_ := Aside0.mk (Kd.N_below (by (with_reducible repeat (first | apply Kd.N_alloc | apply Kd.N_drewN | apply Kd.N_drew)); exact HO260.out) hb)
    have n2_ := Aside0.mk (Kd.R_below (by (with_reducible repeat (first | apply Kd.R_alloc | apply Kd.R_drewN | apply Kd.R_drew)); exact HO267.out) hb)
    have n3_ := Aside0.mk (Kd.R_below (by (with_reducible repeat (first | apply Kd.R_alloc | apply Kd.R_drewN | apply Kd.R_drew)); exact HO272.out) hb)
    have n4_ := Aside0.mk (Kd.R_below (by (with_reducible repeat (first | apply Kd.R_alloc | apply Kd.R_drewN | apply Kd.R_drew)); exact HO277.out) hb)
    have n5_ := Aside0.mk (Kd.N_below (by (with_reducible repeat (first | apply Kd.N_alloc | apply Kd.N_drewN | apply Kd.N_drew)); exact HO284.out) hb)
    have n6_ := Aside0.mk (Kd.R_below (by (with_reducible repeat (first | apply Kd.R_alloc | apply Kd.R_drewN | apply Kd.R_drew)); exact HO289.out) hb)
    have n7_ := Aside0.mk (blk_below (bk_ BK243.out) hb)
    have n8_ := Aside0.mk (blk_below (bk_ BK252.out) hb)
    have n9_ := Aside0.mk (blk_below (bk_ BK253.out) hb)
    have n10_ := Aside0.mk (blk_below (bk_ BK261.out) hb)
    have n11_ := Aside0.mk (blk_below (bk_ BK262.out) hb)
    have n12_ := Aside0.mk (blk_below (bk_ BK278.out) hb)
    have n13_ := Aside0.mk (below_step (bw_ HB.out) hb)
    clear HO251
    clear HO260
    clear HO267
    clear HO272
    clear HO277
    clear HO284
    clear HO289
    clear BK243
    clear BK252
    clear BK253
    clear BK261
    clear BK262
    clear BK278
    clear HB
    have HO251 := n0_
    have HO260 := n1_
    have HO267 := n2_
    have HO272 := n3_
    have HO277 := n4_
    have HO284 := n5_
    have HO289 := n6_
    have BK243 := n7_
    have BK252 := n8_
    have BK253 := n9_
    have BK261 := n10_
    have BK262 := n11_
    have BK278 := n12_
    have HB := n13_
    clear n0_ n1_ n2_ n3_ n4_ n5_ n6_ n7_ n8_ n9_ n10_ n11_ n12_ n13_
    (try clear hb)
    (try clear hb2)
    (try clear hk)
    (try clear hi)
    refine hK.out _ _ ⟨(blk_cell BK278.out 0).trans rfl, (blk_cell BK278.out 1).trans rfl, (blk_cell BK278.out 2).trans rfl, (blk_cell BK253.out 0).trans rfl, (blk_cell BK253.out 1).trans rfl⟩ (fun hHeld => ?_)
    clear hK K
    refine norm_ (a' := ?_) ?_ ?_
    rotate_left
    ·show Act.put _ (some 51) _ = _
     simp only [Act.put, q1_, q2_, q3_, i64_w, i32_w]
     rfl
    refine pure_ (i := 5) (N := some 6) (v := ?_) (a' := ?_) #[true, true, true, true, true, true] rfl rfl (by kernel_rfl) (fun _ _ _ h => h) (Or.inl ⟨by rfl, ?_⟩) ?_ ?_
    rotate_left
    ·intro w'
     go_simp
     with_reducible rfl
    rotate_left
    ·simp only [Act.put, q1_, q2_, q3_, i64_w, i32_w]
     rfl
    refine done_ (by kernel_rfl) ?_
    try go_wp2
    go_ret
    exact ⟨by first | rfl | (simp [errW_none, errW_some] <;> rfl) | (simp [*, errW_none, errW_some] <;> rfl), by repeat (first | (with_reducible first | exact HB.out | apply below_alloc | apply pw_below_drewN | apply below_drew1 | refine below_set ?_ GE243.out | refine below_set ?_ GE252.out | refine below_set ?_ GE253.out | refine below_set ?_ GE261.out | refine below_set ?_ GE262.out | refine below_set ?_ GE278.out) | exact HB.out)⟩
   ·rw [if_neg c12] at H
    exact absurd H (by simp)
  ·rw [if_neg c11] at H
   exact absurd H (by simp)
 ·replace c5 := Bool.eq_false_iff.mpr c5
  subst c5
  have H1 : (some false) = some r := by rw [if_neg (show ¬ (false = true) by decide)] at H; exact H
  clear H
  have H := H1
  clear H1
  obtain rfl := Option.some.inj H
  go_enter Try.func4, Try.ntmps4
  go_wp2_with (first | ((with_reducible refine gate_dst (N := 3) rfl ?_); refine bx_ (N := 3) (cs := #[.int .i64 a0_0, .int .i64 a0_1]) (t := 23) ?_; intro gb243 hg w61 hbox hb; have n0_ := Aside0.mk (below_step (bw_ HB.out) hb); have n1_ := Aside0.mk (hbox); have n2_ := Aside0.mk (sz_ hg (bw_ HB.out)); have n3_ := n2_; clear HB; have HB := n0_; have BK243 := n1_; have GW243 := n2_; have GE243 := n3_; clear n0_ n1_ n2_ n3_; clear hb hbox hg) | ((with_reducible refine gate_callee (f := 10) rfl ?_); refine goesL_ (some 16) rfl rfl Try.func10 (by kernel_rfl) rfl #[] rfl (by (try simp only [List.map_toArray, List.map_cons, List.map_nil]); first | done | rfl | (simp only [List.length_drop, List.length_take]; rfl)) ?_; (with_reducible refine (gristmilllaw06_awake.calls  false _ A4.out).mono ?_); rintro e w62 ⟨rfl, hb⟩; refine ⟨_, rfl, ?_⟩; have n0_ := Aside0.mk (blk_below (bk_ BK243.out) hb); have n1_ := Aside0.mk (below_step (bw_ HB.out) hb); clear BK243 HB; have BK243 := n0_; have HB := n1_; clear n0_ n1_; (try clear hb); (try clear hb2); (try clear hk); (try clear hi)))
  go_ret
  exact ⟨by first | rfl | (simp [errW_none, errW_some] <;> rfl) | (simp [*, errW_none, errW_some] <;> rfl), by repeat (first | (with_reducible first | exact HB.out | apply below_alloc | apply pw_below_drewN | apply below_drew1 | refine below_set ?_ GE243.out) | exact HB.out)⟩
end Go.Proofs.Ytmjhgeinhhhodaa.P
end

section
namespace Go.Proofs.Ytmjhgeinhhhodaa.Ext
set_option linter.unusedVariables false
set_option linter.unusedSimpArgs false
open Go.RowKit Go.Proofs.YtmjhgeinhhhodaaW.PrintWords Go.Proofs.Ytmjhgeinhhhodaa.P Go.Proofs.Ytmjhgeinhhhodaa.Txt
theorem mem_built (a : List ByteArray) (y : ByteArray) : y ∈ builtB a ↔ y ∈ a := by
  unfold builtB strs
  rw [List.mem_map]
  constructor
  · rintro ⟨t, ht, rfl⟩
    rw [built_mem] at ht
    unfold txts at ht
    obtain ⟨z, hz, rfl⟩ := List.mem_map.1 ht
    have e : Txt.bs z.data.toList = z := bs_of z
    rw [e]; exact hz
  · intro h
    exact ⟨y.data.toList, (built_mem _ _).2 (List.mem_map.2 ⟨y, h, rfl⟩), bs_of y⟩
theorem built_ext {a b : List ByteArray} (h : ∀ y, y ∈ a ↔ y ∈ b) : builtB a = builtB b := by
  unfold builtB
  congr 1
  refine rises_same (built_rises _) (built_rises _) (fun y => ?_)
  rw [built_mem, built_mem]
  unfold txts
  rw [List.mem_map, List.mem_map]
  constructor
  · rintro ⟨z, hz, rfl⟩; exact ⟨z, (h z).1 hz, rfl⟩
  · rintro ⟨z, hz, rfl⟩; exact ⟨z, (h z).2 hz, rfl⟩
theorem built_twice (a : List ByteArray) : builtB (builtB a) = builtB a := built_ext (fun y => mem_built a y)
theorem built_left (a b : List ByteArray) : builtB (builtB a ++ b) = builtB (a ++ b) := built_ext (fun y => by simp [mem_built])
theorem built_right (a b : List ByteArray) : builtB (a ++ builtB b) = builtB (a ++ b) := built_ext (fun y => by simp [mem_built])
theorem built_length (a : List ByteArray) : (builtB a).length ≤ a.length := by
  unfold builtB
  rw [strs_length]
  exact Nat.le_trans (built_le _) (by rw [txts_length]; exact Nat.le_refl _)
structure Pt where
  n : Int
  v : Int
  t : List ByteArray
def Pt.z : Pt := ⟨0, 0, []⟩
def mg (c : Int) (p q : Pt) : Pt :=
  if p.n = 0 then (if q.n = 0 then ⟨0, 0, []⟩ else ⟨q.n, q.v, builtB q.t⟩) else if q.n = 0 then ⟨p.n, p.v, builtB p.t⟩ else ⟨IntKind.u64.wrap (p.n + q.n), mergeV c p.v q.v, builtB (p.t ++ q.t)⟩
structure Fit (c : Int) (b : Int) (p : Pt) : Prop where
  lo : 0 ≤ p.n
  hi : p.n ≤ b
  zv : p.n = 0 → p.v = 0
  zt : p.n = 0 → p.t = []
  bt : builtB p.t = p.t
  len : (p.t.length : Int) ≤ p.n
  tx : c ≠ 5 → p.t = []
  vz : c = 1 ∨ c = 5 → p.v = 0
  sz : ∀ s ∈ p.t, s.size ≤ 64
  tn : c = 5 → p.n ≠ 0 → p.t ≠ []
theorem u64_small {n : Int} (h0 : 0 ≤ n) (h : n < 18446744073709551616) : IntKind.u64.wrap n = n := by
  show n % 18446744073709551616 = n
  omega
theorem fit_z (c b : Int) (hb : 0 ≤ b) : Fit c b Pt.z := ⟨Int.le_refl _, hb, fun _ => rfl, fun _ => rfl, builtB_nil, Int.le_refl _, fun _ => rfl, fun _ => rfl, fun s h => (by cases h), fun _ h => absurd rfl h⟩
theorem mg_fit {c b b' : Int} {p q : Pt} (hp : Fit c b p) (hq : Fit c b' q) (hb : b + b' < 4611686018427387904) (hb0 : 0 ≤ b) (hb1 : 0 ≤ b') : Fit c (b + b') (mg c p q) := by
  have h1 := hp.lo; have h2 := hp.hi; have h3 := hq.lo; have h4 := hq.hi
  unfold mg
  by_cases hpz : p.n = 0
  · rw [if_pos hpz]
    by_cases hqz : q.n = 0
    · rw [if_pos hqz]
      exact fit_z c _ (by omega)
    · rw [if_neg hqz, hq.bt]
      exact ⟨h3, by show q.n ≤ _; omega, hq.zv, hq.zt, hq.bt, hq.len, hq.tx, hq.vz, hq.sz, hq.tn⟩
  · rw [if_neg hpz]
    by_cases hqz : q.n = 0
    · rw [if_pos hqz, hp.bt]
      exact ⟨h1, by show p.n ≤ _; omega, hp.zv, hp.zt, hp.bt, hp.len, hp.tx, hp.vz, hp.sz, hp.tn⟩
    · rw [if_neg hqz, u64_small (by omega) (by omega)]
      refine ⟨by show (0 : Int) ≤ p.n + q.n; omega, by show p.n + q.n ≤ _; omega, fun h => ?_, fun h => ?_, built_twice _, ?_, fun h => ?_, fun h => ?_, fun s hs => ?_, fun h5 _ he => ?_⟩
      · have : p.n + q.n = 0 := h
        omega
      · have : p.n + q.n = 0 := h
        omega
      · have := built_length (p.t ++ q.t)
        rw [List.length_append] at this
        have h5 := hp.len
        have h6 := hq.len
        show ((builtB (p.t ++ q.t)).length : Int) ≤ p.n + q.n
        omega
      · show builtB (p.t ++ q.t) = []
        rw [hp.tx h, hq.tx h]
        exact builtB_nil
      · show mergeV c p.v q.v = 0
        rw [hp.vz h, hq.vz h]
        unfold mergeV
        rcases h with rfl | rfl <;> simp
      · have := (mem_built _ _).1 hs
        rcases List.mem_append.1 this with h | h
        · exact hp.sz s h
        · exact hq.sz s h
      · have he' : builtB (p.t ++ q.t) = [] := he
        refine hp.tn h5 hpz (List.eq_nil_iff_forall_not_mem.2 (fun y hy => ?_))
        have := (mem_built (p.t ++ q.t) y).2 (List.mem_append_left _ hy)
        rw [he'] at this
        cases this
theorem mg_zero {c b : Int} {p : Pt} (hp : Fit c b p) : mg c p Pt.z = p := by
  unfold mg Pt.z
  by_cases hpz : p.n = 0
  · rw [if_pos hpz, if_pos rfl]
    have h1 := hp.zv hpz
    have h2 := hp.zt hpz
    cases p
    simp_all
  · rw [if_neg hpz, if_pos rfl, hp.bt]
theorem zero_mg {c b : Int} {p : Pt} (hp : Fit c b p) : mg c Pt.z p = p := by
  unfold mg Pt.z
  rw [if_pos rfl]
  by_cases hpz : p.n = 0
  · rw [if_pos hpz]
    have h1 := hp.zv hpz
    have h2 := hp.zt hpz
    cases p
    simp_all
  · rw [if_neg hpz, hp.bt]
theorem mergeV_assoc (c a b d : Int) : mergeV c (mergeV c a b) d = mergeV c a (mergeV c b d) := by
  unfold mergeV
  by_cases h2 : c = 2
  · simp only [if_pos h2]
    unfold wrap64; omega
  by_cases h3 : c = 3
  · simp only [if_neg h2, if_pos h3]; omega
  by_cases h4 : c = 4
  · simp only [if_neg h2, if_neg h3, if_pos h4]; omega
  · simp only [if_neg h2, if_neg h3, if_neg h4]
theorem mg_n {c b b' : Int} {p q : Pt} (hp : Fit c b p) (hq : Fit c b' q) (hb : b + b' < 4611686018427387904) : (mg c p q).n = p.n + q.n := by
  have h1 := hp.lo; have h2 := hp.hi; have h3 := hq.lo; have h4 := hq.hi
  unfold mg
  by_cases hpz : p.n = 0
  · by_cases hqz : q.n = 0
    · rw [if_pos hpz, if_pos hqz]; show (0 : Int) = _; omega
    · rw [if_pos hpz, if_neg hqz]; show q.n = _; omega
  · by_cases hqz : q.n = 0
    · rw [if_neg hpz, if_pos hqz]; show p.n = _; omega
    · rw [if_neg hpz, if_neg hqz]
      exact u64_small (by omega) (by omega)
theorem mg_assoc {c b b' b'' : Int} {p q r : Pt} (hp : Fit c b p) (hq : Fit c b' q) (hr : Fit c b'' r) (hb : b + b' + b'' < 4611686018427387904) (hb0 : 0 ≤ b) (hb1 : 0 ≤ b') (hb2 : 0 ≤ b'') :
    mg c (mg c p q) r = mg c p (mg c q r) := by
  by_cases hpz : p.n = 0
  · have e : p = Pt.z := by have h1 := hp.zv hpz; have h2 := hp.zt hpz; cases p; simp_all [Pt.z]
    subst e
    rw [zero_mg hq, zero_mg (mg_fit hq hr (by omega) hb1 hb2)]
  by_cases hqz : q.n = 0
  · have e : q = Pt.z := by have h1 := hq.zv hqz; have h2 := hq.zt hqz; cases q; simp_all [Pt.z]
    subst e
    rw [zero_mg hr, mg_zero hp]
  by_cases hrz : r.n = 0
  · have e : r = Pt.z := by have h1 := hr.zv hrz; have h2 := hr.zt hrz; cases r; simp_all [Pt.z]
    subst e
    rw [mg_zero hq, mg_zero (mg_fit hp hq (by omega) hb0 hb1)]
  have h1 := hp.lo; have h2 := hp.hi; have h3 := hq.lo; have h4 := hq.hi; have h5 := hr.lo; have h6 := hr.hi
  have e1 : mg c p q = ⟨p.n + q.n, mergeV c p.v q.v, builtB (p.t ++ q.t)⟩ := by
    unfold mg; rw [if_neg hpz, if_neg hqz, u64_small (by omega) (by omega)]
  have e2 : mg c q r = ⟨q.n + r.n, mergeV c q.v r.v, builtB (q.t ++ r.t)⟩ := by
    unfold mg; rw [if_neg hqz, if_neg hrz, u64_small (by omega) (by omega)]
  rw [e1, e2]
  unfold mg
  rw [if_neg (show ¬ p.n + q.n = 0 by omega), if_neg hrz, if_neg hpz, if_neg (show ¬ q.n + r.n = 0 by omega)]
  simp only
  rw [mergeV_assoc, built_left, built_right, List.append_assoc, Int.add_assoc]
theorem merge_is {c c1 b b' : Int} {p q : Pt} (hc : 1 ≤ c ∧ c ≤ 5) (hp : Fit c b p) (hq : Fit c b' q) (hl : p.t.length + q.t.length < 8796093022208) : agg_Merge.f c c1 p.n p.v p.t q.n q.v q.t = some ((mg c p q).n, (mg c p q).v, (mg c p q).t) := by
  unfold agg_Merge.f mg mfin
  rw [if_neg (by omega)]
  by_cases hpz : p.n = 0
  · by_cases hqz : q.n = 0
    · simp only [if_pos hpz, if_pos hqz]
    · simp only [if_pos hpz, if_neg hqz]
      rw [if_pos (by omega)]
  · by_cases hqz : q.n = 0
    · simp only [if_neg hpz, if_pos hqz]
      rw [if_pos (by omega)]
    · simp only [if_neg hpz, if_neg hqz]
      rw [if_pos (by rw [List.length_append]; omega)]
structure FitM (m : S44) : Prop where
  n0 : 0 ≤ m.f1
  n1 : m.f1 < 1125899906842624
  d : m.f0.f1.length = 2
  e : m.f0.f2.length = 2
  s : ∀ x ∈ m.f0.f1, x.size ≤ 64
def unit (c c1 : Int) (m : S44) : Pt :=
  if m.f1 = 0 then Pt.z else if c = 1 then ⟨m.f1, 0, []⟩ else if c = 5 then ⟨m.f1, 0, [m.f0.f1.getD c1.toNat ⟨#[]⟩]⟩ else ⟨m.f1, manyV c (rd m.f0.f2 c1) m.f1, []⟩
theorem unit_fit {c c1 : Int} {m : S44} (hc : 1 ≤ c ∧ c ≤ 5) (h1 : 0 ≤ c1 ∧ c1 < 2) (hm : FitM m) : Fit c 1125899906842624 (unit c c1 m) := by
  have h2 := hm.n0; have h3 := hm.n1
  unfold unit
  by_cases hz : m.f1 = 0
  · rw [if_pos hz]; exact fit_z _ _ (by omega)
  rw [if_neg hz]
  by_cases hc1 : c = 1
  · rw [if_pos hc1]
    exact ⟨h2, by show m.f1 ≤ _; omega, fun _ => rfl, fun _ => rfl, builtB_nil, h2, fun _ => rfl, fun _ => rfl, fun s h => (by cases h), fun h _ => by omega⟩
  rw [if_neg hc1]
  by_cases hc5 : c = 5
  · rw [if_pos hc5]
    refine ⟨h2, by show m.f1 ≤ _; omega, fun _ => rfl, fun h => absurd h hz, builtB_one _, by show (1 : Int) ≤ m.f1; omega, fun h => absurd hc5 h, fun _ => rfl, fun s hs => ?_, fun _ _ h => by cases h⟩
    have e := List.mem_singleton.1 hs
    subst e
    have hlt : c1.toNat < m.f0.f1.length := by have := hm.d; omega
    rw [List.getD_eq_getElem?_getD, List.getElem?_eq_getElem hlt]
    exact hm.s _ (List.getElem_mem hlt)
  · rw [if_neg hc5]
    exact ⟨h2, by show m.f1 ≤ _; omega, fun h => absurd h hz, fun _ => rfl, builtB_nil, h2, fun _ => rfl, fun h => (by omega), fun s h => (by cases h), fun h => absurd h hc5⟩
theorem add_is {c c1 b : Int} {p : Pt} {m : S44} (hc : 1 ≤ c ∧ c ≤ 5) (h1 : 0 ≤ c1 ∧ c1 < 2) (hp : Fit c b p) (hm : FitM m) (hl : p.t.length + 1 < 8796093022208) :
    agg_Add.f c c1 p.n p.v p.t m.f0.f0 m.f0.f1 m.f0.f2 m.f1 = some ((mg c p (unit c c1 m)).n, (mg c p (unit c c1 m)).v, (mg c p (unit c c1 m)).t) := by
  have hu := unit_fit hc h1 hm
  have key : agg_Add.f c c1 p.n p.v p.t m.f0.f0 m.f0.f1 m.f0.f2 m.f1 = agg_Merge.f c c1 p.n p.v p.t (unit c c1 m).n (unit c c1 m).v (unit c c1 m).t := by
    have hd := hm.d; have he := hm.e
    unfold agg_Add.f unit
    rw [if_neg (by omega)]
    by_cases hz : m.f1 = 0
    · rw [if_pos hz, if_pos hz]; rfl
    rw [if_neg hz, if_neg hz]
    by_cases hc1 : c = 1
    · rw [if_pos hc1, if_pos hc1]
    rw [if_neg hc1, if_neg hc1]
    by_cases hc5 : c = 5
    · rw [if_pos hc5, if_pos hc5, if_pos (by omega)]
    · rw [if_neg hc5, if_neg hc5, if_pos (by omega)]
  rw [key]
  refine merge_is hc hp hu ?_
  have : (unit c c1 m).t.length ≤ 1 := by
    unfold unit
    split
    · exact Nat.zero_le _
    · split
      · exact Nat.zero_le _
      · split
        · exact Nat.le_refl _
        · exact Nat.zero_le _
  omega
def sp (c c1 : Int) (l : List S44) : Pt := l.foldl (fun p m => mg c p (unit c c1 m)) Pt.z
theorem sp_nil (c c1 : Int) : sp c c1 [] = Pt.z := rfl
theorem sp_snoc (c c1 : Int) (l : List S44) (m : S44) : sp c c1 (l ++ [m]) = mg c (sp c c1 l) (unit c c1 m) := by
  unfold sp; rw [List.foldl_append]; rfl
def FitL (l : List S44) : Prop := ∀ m ∈ l, FitM m
theorem snoc_ind {P : List S44 → Prop} (h0 : P []) (h : ∀ l m, P l → P (l ++ [m])) (l : List S44) : P l := by
  rw [← List.reverse_reverse l]
  induction l.reverse with
  | nil => exact h0
  | cons m r ih => rw [List.reverse_cons]; exact h _ _ ih
theorem sp_fit {c c1 : Int} (hc : 1 ≤ c ∧ c ≤ 5) (h1 : 0 ≤ c1 ∧ c1 < 2) (l : List S44) : FitL l → l.length ≤ 1000 → Fit c (1125899906842624 * (l.length : Int)) (sp c c1 l) := by
  refine snoc_ind (P := fun l => FitL l → l.length ≤ 1000 → Fit c (1125899906842624 * (l.length : Int)) (sp c c1 l)) (fun _ _ => fit_z _ _ (by simp)) (fun l m ih hf hl => ?_) l
  rw [List.length_append, List.length_singleton] at hl ⊢
  rw [sp_snoc]
  have := mg_fit (ih (fun x hx => hf x (by simp [hx])) (by omega)) (unit_fit hc h1 (hf m (by simp))) (by omega) (by omega) (by omega)
  refine ⟨this.lo, Int.le_trans this.hi (by omega), this.zv, this.zt, this.bt, this.len, this.tx, this.vz, this.sz, this.tn⟩
theorem sp_append {c c1 : Int} (hc : 1 ≤ c ∧ c ≤ 5) (h1 : 0 ≤ c1 ∧ c1 < 2) (x y : List S44) : FitL x → FitL y → x.length + y.length ≤ 1000 → sp c c1 (x ++ y) = mg c (sp c c1 x) (sp c c1 y) := by
  refine snoc_ind (P := fun y => FitL x → FitL y → x.length + y.length ≤ 1000 → sp c c1 (x ++ y) = mg c (sp c c1 x) (sp c c1 y)) (fun hx _ hl => ?_) (fun y m ih hx hy hl => ?_) y
  · rw [List.append_nil, sp_nil, mg_zero (sp_fit hc h1 x hx (by simpa using hl))]
  · rw [List.length_append, List.length_singleton] at hl
    have hy' : FitL y := fun z hz => hy z (by simp [hz])
    rw [← List.append_assoc, sp_snoc, sp_snoc, ih hx hy' (by omega), mg_assoc (sp_fit hc h1 x hx (by omega)) (sp_fit hc h1 y hy' (by omega)) (unit_fit hc h1 (hy m (by simp))) (by omega) (by omega) (by omega) (by omega)]
end Go.Proofs.Ytmjhgeinhhhodaa.Ext
end

section
namespace Go.Proofs.Ytmjhgeinhhhodaa.Ext
set_option linter.unusedVariables false
set_option linter.unusedSimpArgs false
open Go.RowKit Go.Proofs.YtmjhgeinhhhodaaW.PrintWords Go.Proofs.Ytmjhgeinhhhodaa.P Go.Proofs.Ytmjhgeinhhhodaa.Txt
theorem rd44 (l : List S44) (j : Nat) (hj : j < l.length) : rd_T44 l (j : Int) = l[j] := by unfold rd_T44; simp [hj]
theorem sp_t_len {c c1 : Int} (hc : 1 ≤ c ∧ c ≤ 5) (h1 : 0 ≤ c1 ∧ c1 < 2) (l : List S44) : FitL l → l.length ≤ 1000 → (sp c c1 l).t.length ≤ l.length := by
  refine snoc_ind (P := fun l => FitL l → l.length ≤ 1000 → (sp c c1 l).t.length ≤ l.length) (fun _ _ => Nat.le_refl _) (fun l m ih hf hl => ?_) l
  rw [List.length_append, List.length_singleton] at hl ⊢
  have hf' : FitL l := fun z hz => hf z (by simp [hz])
  have hm := hf m (by simp)
  have h := ih hf' (by omega)
  have hs := sp_fit hc h1 l hf' (by omega)
  have hu := unit_fit hc h1 hm
  have hul : (unit c c1 m).t.length ≤ 1 := by
    unfold unit
    split
    · exact Nat.zero_le _
    · split
      · exact Nat.zero_le _
      · split
        · exact Nat.le_refl _
        · exact Nat.zero_le _
  rw [sp_snoc]
  unfold mg
  by_cases hpz : (sp c c1 l).n = 0
  · by_cases hqz : (unit c c1 m).n = 0
    · rw [if_pos hpz, if_pos hqz]; exact Nat.zero_le _
    · rw [if_pos hpz, if_neg hqz]
      show (builtB (unit c c1 m).t).length ≤ _
      rw [hu.bt]; omega
  · by_cases hqz : (unit c c1 m).n = 0
    · rw [if_neg hpz, if_pos hqz]
      show (builtB (sp c c1 l).t).length ≤ _
      rw [hs.bt]; omega
    · rw [if_neg hpz, if_neg hqz]
      have := built_length ((sp c c1 l).t ++ (unit c c1 m).t)
      rw [List.length_append] at this
      show (builtB ((sp c c1 l).t ++ (unit c c1 m).t)).length ≤ _
      omega
theorem take_snoc (l : List S44) (j : Nat) (hj : j < l.length) : l.take (j + 1) = l.take j ++ [l[j]] := List.take_succ_eq_append_getElem hj
theorem FitL.take {l : List S44} (h : FitL l) (j : Nat) : FitL (l.take j) := fun m hm => h m (List.mem_of_mem_take hm)
theorem of_step {c c1 b : Int} (hc : 1 ≤ c ∧ c ≤ 5) (h1 : 0 ≤ c1 ∧ c1 < 2) (l : List S44) (hf : FitL l) (hl : l.length ≤ 1000) (j k : Nat) (hj : j < l.length) (p : Pt) (hp : Fit c b p) (ht : p.t.length ≤ 1000) :
    gristmilllaw06_of.l0 (k + 1) l (j : Int) c c1 p.n p.v p.t = gristmilllaw06_of.l0 k l ((j + 1 : Nat) : Int) c c1 (mg c p (unit c c1 l[j])).n (mg c p (unit c c1 l[j])).v (mg c p (unit c c1 l[j])).t := by
  have e : wrap64 ((j : Int) + 1) = ((j + 1 : Nat) : Int) := by unfold wrap64; omega
  have ha := add_is hc h1 hp (hf _ (List.getElem_mem hj)) (Nat.lt_of_le_of_lt (Nat.succ_le_succ ht) (by decide))
  have hi : (j : Int) < (l.length : Int) := Int.ofNat_lt.2 hj
  rw [gristmilllaw06_of.l0, if_pos hi, if_pos (Int.natCast_nonneg j), rd44 l j hj, ha, e]
  rfl
theorem of_end {c c1 : Int} (l : List S44) (k : Nat) (p : Pt) : gristmilllaw06_of.l0 (k + 1) l ((l.length : Nat) : Int) c c1 p.n p.v p.t = some (p.n, p.v, p.t) := by
  rw [gristmilllaw06_of.l0, if_neg (Int.lt_irrefl _)]
theorem of_loop {c c1 : Int} (hc : 1 ≤ c ∧ c ≤ 5) (h1 : 0 ≤ c1 ∧ c1 < 2) (l : List S44) (hf : FitL l) (hl : l.length ≤ 1000) : ∀ (n j : Nat), j + n = l.length → ∀ (k : Nat) (p : Pt), p = sp c c1 (l.take j) →
    gristmilllaw06_of.l0 (k + n + 1) l (j : Int) c c1 p.n p.v p.t = some ((sp c c1 l).n, (sp c c1 l).v, (sp c c1 l).t) := by
  intro n
  induction n with
  | zero =>
    intro j hj k p hp
    have e : l.take j = l := List.take_of_length_le (by omega)
    rw [e] at hp
    have hj' : j = l.length := by omega
    subst hj'
    rw [← hp]
    exact of_end l k p
  | succ n ih =>
    intro j hj k p hp
    have hjl : j < l.length := by omega
    have hlt : (l.take j).length ≤ 1000 := by rw [List.length_take]; omega
    have ht : p.t.length ≤ 1000 := by rw [hp]; exact Nat.le_trans (sp_t_len hc h1 (l.take j) (hf.take j) hlt) hlt
    have hfp := sp_fit hc h1 (l.take j) (hf.take j) hlt
    rw [← hp] at hfp
    have hs := of_step hc h1 l hf hl j (k + n + 1) hjl p hfp ht
    rw [show k + (n + 1) + 1 = (k + n + 1) + 1 by omega, hs]
    exact ih (j + 1) (by omega) k _ (by rw [take_snoc l j hjl, sp_snoc, hp])
theorem of_is {c c1 : Int} (hc : 1 ≤ c ∧ c ≤ 5) (h1 : 0 ≤ c1 ∧ c1 < 2) (l : List S44) (hf : FitL l) (hl : l.length ≤ 1000) (k : Nat) (hk : 1001 ≤ k) : gristmilllaw06_of.f k c c1 l = some ((sp c c1 l).n, (sp c c1 l).v, (sp c c1 l).t) := by
  have := of_loop hc h1 l hf hl l.length 0 (by omega) (k - l.length - 1) Pt.z rfl
  rw [show k - l.length - 1 + l.length + 1 = k by omega] at this
  unfold gristmilllaw06_of.f agg_Start.f
  exact this
theorem same_loop (n v : Int) (t : List ByteArray) (ht : t.length ≤ 100000) : ∀ (m j : Nat), j + m = t.length → ∀ k, gristmillref06_Same.l0 (k + m + 1) (j : Int) n v t n v t = some true
  | 0, j, hj, k => by rw [gristmillref06_Same.l0, if_neg (by omega)]
  | m + 1, j, hj, k => by
    have e : wrap64 ((j : Int) + 1) = ((j + 1 : Nat) : Int) := by unfold wrap64; omega
    rw [show k + (m + 1) + 1 = (k + m + 1) + 1 by omega, gristmillref06_Same.l0, if_pos (by omega), if_pos (by omega), if_pos (by omega), if_pos rfl, e]
    exact same_loop n v t ht m (j + 1) (by omega) k
theorem same_is (n v : Int) (t : List ByteArray) (ht : t.length ≤ 1000) (k : Nat) (hk : 1002 ≤ k) : gristmillref06_Same.f k n v t n v t = some true := by
  have := same_loop n v t (by omega) t.length 0 (by omega) (k - t.length - 2)
  unfold gristmillref06_Same.f
  rw [if_pos rfl, if_pos rfl, show k = (k - t.length - 2 + t.length + 1) + 1 by omega, gristmillref06_Same.j0]
  rw [if_neg (by simp)]
  exact this
theorem abs_is (n : Int) (h : (Lit.int .i64 n).wf = true) : ∃ m : Int, gristmilllaw06_abs.f n = some m ∧ 0 ≤ m := by
  simp only [Lit.wf, Bool.and_eq_true, decide_eq_true_eq] at h
  have h1 : -9223372036854775808 ≤ n := h.1
  have h2 : n ≤ 9223372036854775807 := by have := h.2; exact this
  unfold gristmilllaw06_abs.f
  by_cases hn : n < 0
  · rw [if_pos hn]
    refine ⟨_, rfl, ?_⟩
    unfold wrap64; omega
  · rw [if_neg hn]
    exact ⟨n, rfl, by omega⟩
theorem up_ {α : Type} (g : Nat → Option α) (h : ∀ k, LeO (g k) (g (k + 1))) {k0 k : Nat} {r : α} (h0 : g k0 = some r) (hk : k0 ≤ k) : g k = some r := by
  obtain ⟨d, rfl⟩ : ∃ d, k = k0 + d := ⟨k - k0, by omega⟩
  clear hk
  induction d with
  | zero => exact h0
  | succ d ih => exact h _ r ih
def DimsFit (D : List ByteArray) : Prop := D.length = 2 ∧ ∀ s ∈ D, s.size ≤ 64
theorem dims_set {D : List ByteArray} (h : DimsFit D) (i : Nat) (x : ByteArray) (hx : x.size ≤ 64) : DimsFit (D.set i x) := by
  refine ⟨by rw [List.length_set]; exact h.1, fun s hs => ?_⟩
  rcases List.mem_or_eq_of_mem_set hs with h1 | h1
  · exact h.2 s h1
  · rw [h1]; exact hx
theorem right_inner (l acc : List S44) (i : Nat) (hi : i < l.length) (c0 c1 : Int) (t : Int) (D : List ByteArray) (M : List Int) (hD : DimsFit D) (hM : M.length = 2) (x : Nat) (hx : x < 2) (k : Nat) :
    ∃ D' M', DimsFit D' ∧ M'.length = 2 ∧ gristmilllaw06_right.l1 (k + 2) l acc (i : Int) (x : Int) c0 c1 2 2 t D M = gristmilllaw06_right.l1 k l acc (i : Int) ((x + 1 : Nat) : Int) c0 c1 2 2 t D' M' := by
  have e : wrap64 ((x : Int) + 1) = ((x + 1 : Nat) : Int) := by unfold wrap64; omega
  have hi' : (i : Int) < (l.length : Int) := Int.ofNat_lt.2 hi
  have hi0 : 0 ≤ (i : Int) := Int.natCast_nonneg i
  have hx0 : 0 ≤ (x : Int) := Int.natCast_nonneg x
  have hx2 : (x : Int) < 2 := by omega
  have hD1 := hD.1
  obtain ⟨m, hm⟩ : ∃ m, rd_T44 l (i : Int) = m := ⟨_, rfl⟩
  rw [show k + 2 = (k + 1) + 1 from rfl, gristmilllaw06_right.l1, if_pos hx2, if_pos hi0, if_pos hi', hm]
  -- what is done for the numbers
  have meas : ∀ (D2 : List ByteArray), DimsFit D2 → ∃ D' M', DimsFit D' ∧ M'.length = 2 ∧
      (if (x : Int) < ((m.f0.f2).length : Int) then (if (x : Int) < (M.length : Int) then (gristmilllaw06_right.l1 k l acc (i : Int) (wrap64 ((x : Int) + 1)) c0 c1 2 2 t D2 (M.set (x : Int).toNat (rd (m.f0.f2) (x : Int)))) else none) else (gristmilllaw06_right.l1 k l acc (i : Int) (wrap64 ((x : Int) + 1)) c0 c1 2 2 t D2 M)) =
      gristmilllaw06_right.l1 k l acc (i : Int) ((x + 1 : Nat) : Int) c0 c1 2 2 t D' M' := by
    intro D2 hD2
    rw [e]
    by_cases h : (x : Int) < ((m.f0.f2).length : Int)
    · rw [if_pos h, if_pos (by omega)]
      exact ⟨D2, _, hD2, by rw [List.length_set]; exact hM, rfl⟩
    · rw [if_neg h]
      exact ⟨D2, M, hD2, hM, rfl⟩
  have noth : ∃ D' M', DimsFit D' ∧ M'.length = 2 ∧ gristmilllaw06_right.j3 (k + 1) l acc (i : Int) (x : Int) false c0 c1 2 2 t D M = gristmilllaw06_right.l1 k l acc (i : Int) ((x + 1 : Nat) : Int) c0 c1 2 2 t D' M' := by
    rw [gristmilllaw06_right.j3, if_neg (by simp), if_pos hi0, if_pos hi', hm]
    obtain ⟨D', M', h1, h2, h3⟩ := meas D hD
    refine ⟨D', M', h1, h2, ?_⟩
    rw [← h3]
    split
    · first | rfl | rw [if_pos hx0]
    · rfl
  by_cases hd : (x : Int) < ((m.f0.f1).length : Int)
  · rw [if_pos hd, if_pos hx0]
    by_cases h64 : ((rdOf ByteArray.empty (m.f0.f1) (x : Int)).size : Int) ≤ 64
    · rw [decide_eq_true h64]
      obtain ⟨D', M', h1, h2, h3⟩ := meas (D.set (x : Int).toNat (rdOf ByteArray.empty (m.f0.f1) (x : Int))) (dims_set hD _ _ (by omega))
      refine ⟨D', M', h1, h2, ?_⟩
      rw [gristmilllaw06_right.j3, if_pos rfl, if_pos hi0, if_pos hi', if_pos hx0, hm, if_pos hd, if_pos (show (x : Int) < (D.length : Int) by omega), Option.bind_some]
      exact h3
    · rw [decide_eq_false h64]
      exact noth
  · rw [if_neg hd]
    exact noth
theorem right_one (l acc : List S44) (i : Nat) (hi : i < l.length) (hi40 : i < 40) (hn : 0 ≤ l[i].f1) (ha : acc.length ≤ 40) (c0 c1 : Int) (k : Nat) :
    ∃ m, FitM m ∧ gristmilllaw06_right.l0 (k + 7) l acc (i : Int) c0 c1 2 2 = gristmilllaw06_right.l0 k l (acc ++ [m]) ((i + 1 : Nat) : Int) c0 c1 2 2 := by
  have e : wrap64 ((i : Int) + 1) = ((i + 1 : Nat) : Int) := by unfold wrap64; omega
  have hi' : (i : Int) < (l.length : Int) := Int.ofNat_lt.2 hi
  have hi0 : 0 ≤ (i : Int) := Int.natCast_nonneg i
  have hr := rd44 l i hi
  have h0 : DimsFit [(⟨#[]⟩ : ByteArray), (⟨#[]⟩ : ByteArray)] := ⟨rfl, fun s hs => by
    simp only [List.mem_cons, List.not_mem_nil, or_false, or_self] at hs
    subst hs; decide⟩
  obtain ⟨D1, M1, hD1, hM1, e1⟩ := right_inner l acc i hi c0 c1 (l[i].f0.f0) _ [0, 0] h0 rfl 0 (by omega) (k + 3)
  obtain ⟨D2, M2, hD2, hM2, e2⟩ := right_inner l acc i hi c0 c1 (l[i].f0.f0) D1 M1 hD1 hM1 1 (by omega) (k + 1)
  refine ⟨⟨⟨l[i].f0.f0, D2, M2⟩, Int.tmod l[i].f1 1125899906842624⟩, ⟨Int.tmod_nonneg _ hn, Int.tmod_lt_of_pos _ (by omega), hD2.1, hM2, hD2.2⟩, ?_⟩
  rw [show k + 7 = (k + 6) + 1 from rfl, gristmilllaw06_right.l0, if_pos hi', decide_eq_true (show (i : Int) < 40 by omega), show k + 6 = (k + 5) + 1 from rfl, gristmilllaw06_right.j1, if_pos rfl, if_pos hi0, if_pos hi', hr]
  have e1' : gristmilllaw06_right.l1 (k + 5) l acc (i : Int) 0 c0 c1 2 2 (l[i].f0.f0) [(⟨#[]⟩ : ByteArray), (⟨#[]⟩ : ByteArray)] [0, 0] = gristmilllaw06_right.l1 (k + 3) l acc (i : Int) ((1 : Nat) : Int) c0 c1 2 2 (l[i].f0.f0) D1 M1 := e1
  have e2' : gristmilllaw06_right.l1 (k + 3) l acc (i : Int) ((1 : Nat) : Int) c0 c1 2 2 (l[i].f0.f0) D1 M1 = gristmilllaw06_right.l1 (k + 1) l acc (i : Int) ((2 : Nat) : Int) c0 c1 2 2 (l[i].f0.f0) D2 M2 := e2
  rw [e1', e2', gristmilllaw06_right.l1, if_neg (by omega), if_pos hi0, if_pos hi', if_pos (by omega), hr, e]
theorem right_loop (l : List S44) (hn : ∀ m ∈ l, 0 ≤ m.f1) (c0 c1 : Int) : ∀ (n i : Nat), i + n = min l.length 40 → ∀ (acc : List S44) (k : Nat), acc.length = i → FitL acc →
    ∃ r, FitL r ∧ r.length ≤ 40 ∧ gristmilllaw06_right.l0 (k + 7 * n + 2) l acc (i : Int) c0 c1 2 2 = some (2, 2, c0, c1, r) := by
  intro n
  induction n with
  | zero =>
    intro i hi acc k ha hf
    refine ⟨acc, hf, by omega, ?_⟩
    rw [show k + 7 * 0 + 2 = (k + 1) + 1 from rfl, gristmilllaw06_right.l0]
    by_cases h : (i : Int) < (l.length : Int)
    · rw [if_pos h, decide_eq_false (show ¬ (i : Int) < 40 by omega), gristmilllaw06_right.j1, if_neg (by simp)]
    · rw [if_neg h, gristmilllaw06_right.j1, if_neg (by simp)]
  | succ n ih =>
    intro i hi acc k ha hf
    have hil : i < l.length := by omega
    obtain ⟨m, hm, e⟩ := right_one l acc i hil (by omega) (hn _ (List.getElem_mem hil)) (by omega) c0 c1 (k + 7 * n + 2)
    rw [show k + 7 * (n + 1) + 2 = k + 7 * n + 2 + 7 by omega, e]
    exact ih (i + 1) (by omega) (acc ++ [m]) k (by simp [ha]) (fun x hx => by
      rcases List.mem_append.1 hx with h | h
      · exact hf x h
      · rw [List.mem_singleton.1 h]; exact hm)
theorem right_is (a0 a1 : Int) (h0 : (Lit.int .i64 a0).wf = true) (h1 : (Lit.int .i64 a1).wf = true) : ∃ c0 c1 : Int, (1 ≤ c0 ∧ c0 ≤ 5) ∧ (0 ≤ c1 ∧ c1 < 2) ∧
    ∀ (l : List S44), (∀ m ∈ l, 0 ≤ m.f1) → ∃ r, FitL r ∧ r.length ≤ 40 ∧ ∀ k, 300 ≤ k → gristmilllaw06_right.f k a0 a1 l = some (2, 2, c0, c1, r) := by
  obtain ⟨m0, e0, hm0⟩ := abs_is a0 h0
  obtain ⟨m1, e1, hm1⟩ := abs_is a1 h1
  have h5 : 0 ≤ Int.tmod m0 5 ∧ Int.tmod m0 5 < 5 := ⟨Int.tmod_nonneg _ hm0, Int.tmod_lt_of_pos _ (by omega)⟩
  have h2 : 0 ≤ Int.tmod m1 2 ∧ Int.tmod m1 2 < 2 := ⟨Int.tmod_nonneg _ hm1, Int.tmod_lt_of_pos _ (by omega)⟩
  refine ⟨wrap64 (1 + Int.tmod m0 5), Int.tmod m1 2, by unfold wrap64; omega, h2, fun l hl => ?_⟩
  obtain ⟨r, h3, h4, _⟩ := right_loop l hl (wrap64 (1 + Int.tmod m0 5)) (Int.tmod m1 2) (min l.length 40) 0 (by omega) [] 0 rfl (fun x hx => by cases hx)
  refine ⟨r, h3, h4, fun k hk => ?_⟩
  have hb : gristmilllaw06_right.f (0 + 7 * (min l.length 40) + 2) a0 a1 l = some (2, 2, wrap64 (1 + Int.tmod m0 5), Int.tmod m1 2, r) := by
    unfold gristmilllaw06_right.f
    rw [e0, e1]
    assumption
  exact up_ (fun k => gristmilllaw06_right.f k a0 a1 l) (fun k => gristmilllaw06_right.mono a0 a1 l k) hb (by omega)
end Go.Proofs.Ytmjhgeinhhhodaa.Ext
end

section
namespace Go.Proofs.Ytmjhgeinhhhodaa.Ext
set_option linter.unusedVariables false
set_option linter.unusedSimpArgs false
open Go.RowKit Go.Proofs.YtmjhgeinhhhodaaW.PrintWords Go.Proofs.Ytmjhgeinhhhodaa.P Go.Proofs.Ytmjhgeinhhhodaa.Txt
def putL : List ByteArray → ByteArray → List ByteArray
  | [], x => [x]
  | t :: r, x => if t.data.toList = x.data.toList then t :: r else if x.data.toList < t.data.toList then x :: t :: r else t :: putL r x
theorem putL_mem : ∀ (l : List ByteArray) (x y : ByteArray), y ∈ putL l x ↔ y ∈ l ∨ y = x
  | [], x, y => by simp [putL]
  | t :: r, x, y => by
    unfold putL
    by_cases h : t.data.toList = x.data.toList
    · have e := (bs_eq t x).2 h
      subst e
      rw [if_pos rfl]
      constructor
      · exact .inl
      · rintro (h | rfl)
        · exact h
        · simp
    · rw [if_neg h]
      by_cases h2 : x.data.toList < t.data.toList
      · rw [if_pos h2]; simp only [List.mem_cons]
        constructor
        · rintro (h | h | h)
          · exact .inr h
          · exact .inl (.inl h)
          · exact .inl (.inr h)
        · rintro ((h | h) | h)
          · exact .inr (.inl h)
          · exact .inr (.inr h)
          · exact .inl h
      · rw [if_neg h2, List.mem_cons, putL_mem r x y, List.mem_cons]
        constructor
        · rintro (h | h | h)
          · exact .inl (.inl h)
          · exact .inl (.inr h)
          · exact .inr h
        · rintro ((h | h) | h)
          · exact .inl h
          · exact .inr (.inl h)
          · exact .inr (.inr h)
theorem putL_rises : ∀ (l : List ByteArray) (x : ByteArray), l.Pairwise (fun a b => a.data.toList < b.data.toList) → (putL l x).Pairwise (fun a b => a.data.toList < b.data.toList)
  | [], x, _ => by simp [putL]
  | t :: r, x, h => by
    unfold putL
    rw [List.pairwise_cons] at h
    by_cases h1 : t.data.toList = x.data.toList
    · rw [if_pos h1, List.pairwise_cons]; exact h
    · rw [if_neg h1]
      by_cases h2 : x.data.toList < t.data.toList
      · rw [if_pos h2, List.pairwise_cons, List.pairwise_cons]
        refine ⟨fun y hy => ?_, h⟩
        rcases List.mem_cons.1 hy with rfl | hy
        · exact h2
        · exact lt_trans h2 (h.1 y hy)
      · rw [if_neg h2, List.pairwise_cons]
        refine ⟨fun y hy => ?_, putL_rises r x h.2⟩
        rcases (putL_mem r x y).1 hy with hy | rfl
        · exact h.1 y hy
        · rcases lt_or t.data.toList y.data.toList with h3 | h3 | h3
          · exact h3
          · exact absurd h3 h1
          · exact absurd h3 h2
theorem built_of_rises {l : List ByteArray} (h : l.Pairwise (fun a b => a.data.toList < b.data.toList)) : builtB l = l := by
  have h2 : (txts l).Pairwise (· < ·) := by unfold txts; rw [List.pairwise_map]; exact h
  have e : Txt.built (txts l) = txts l := rises_same (built_rises _) h2 (fun y => built_mem _ _)
  unfold builtB
  rw [e]
  unfold strs txts
  rw [List.map_map]
  conv => rhs; rw [← List.map_id l]
  exact List.map_congr_left (fun x _ => bs_of x)
theorem rises_of_built {l : List ByteArray} (h : builtB l = l) : l.Pairwise (fun a b => a.data.toList < b.data.toList) := by
  have h2 := built_rises (txts l)
  have e : txts l = Txt.built (txts l) := by
    conv => lhs; rw [← h]
    unfold builtB
    rw [txts_strs]
  rw [← e] at h2
  unfold txts at h2
  rwa [List.pairwise_map] at h2
theorem putL_built {l : List ByteArray} (h : builtB l = l) (x : ByteArray) : putL l x = builtB (l ++ [x]) := by
  rw [← built_of_rises (putL_rises l x (rises_of_built h))]
  exact built_ext (fun y => by rw [putL_mem]; simp)
theorem putL_cons (t : ByteArray) (r : List ByteArray) (x : ByteArray) : putL (t :: r) x = if t.data.toList = x.data.toList then t :: r else if x.data.toList < t.data.toList then x :: t :: r else t :: putL r x := rfl
theorem put_true (l : List ByteArray) (x : ByteArray) (hl : l.length ≤ 1000) : ∀ (n i : Nat), i + n = l.length → ∀ (out : List ByteArray) (k : Nat), out.length ≤ i + 1 → gristmillref06_put.l0 (k + n + 1) l x out true (i : Int) = some (out ++ l.drop i) := by
  intro n
  induction n with
  | zero =>
    intro i hi out k ho
    rw [gristmillref06_put.l0, if_neg (by omega), if_pos rfl, List.drop_of_length_le (by omega), List.append_nil]
  | succ n ih =>
    intro i hi out k ho
    have hil : i < l.length := by omega
    have e : wrap64 ((i : Int) + 1) = ((i + 1 : Nat) : Int) := by unfold wrap64; omega
    have hr : rdOf ByteArray.empty l (i : Int) = l[i] := by unfold rdOf; simp [hil]
    have hnext := ih (i + 1) (by omega) (out ++ [l[i]]) k (by simp; omega)
    have hd : out ++ [l[i]] ++ l.drop (i + 1) = out ++ l.drop i := by rw [List.append_assoc, List.drop_eq_getElem_cons hil]; rfl
    rw [hd] at hnext
    rw [show k + (n + 1) + 1 = (k + n + 1) + 1 by omega, gristmillref06_put.l0, if_pos (by omega), if_pos (by omega), hr, e, hnext]
    have ho2 : out.length < 8796093022208 := by omega
    simp only [if_pos ho2, if_true, ite_self]
theorem put_loop (l : List ByteArray) (x : ByteArray) (hl : l.length ≤ 1000) : ∀ (n i : Nat), i + n = l.length → ∀ (out : List ByteArray) (k : Nat), out.length ≤ i → gristmillref06_put.l0 (k + n + 1) l x out false (i : Int) = some (out ++ putL (l.drop i) x) := by
  intro n
  induction n with
  | zero =>
    intro i hi out k ho
    rw [gristmillref06_put.l0, if_neg (by omega), if_neg (by simp), if_pos (by omega), List.drop_of_length_le (by omega)]
    rfl
  | succ n ih =>
    intro i hi out k ho
    have hil : i < l.length := by omega
    have e : wrap64 ((i : Int) + 1) = ((i + 1 : Nat) : Int) := by unfold wrap64; omega
    have hr : rdOf ByteArray.empty l (i : Int) = l[i] := by unfold rdOf; simp [hil]
    have ho2 : out.length < 8796093022208 := by omega
    have hy : (out ++ [x]).length < 8796093022208 := by simp; omega
    have n1 := put_true l x hl n (i + 1) (by omega) (out ++ [l[i]]) k (by simp; omega)
    have n2 := put_true l x hl n (i + 1) (by omega) (out ++ [x] ++ [l[i]]) k (by simp; omega)
    have n3 := ih (i + 1) (by omega) (out ++ [l[i]]) k (by simp; omega)
    rw [show k + (n + 1) + 1 = (k + n + 1) + 1 by omega, gristmillref06_put.l0, if_pos (by omega), if_pos (by omega), hr, e, List.drop_eq_getElem_cons hil]
    rw [putL_cons]
    simp only [if_pos ho2, Option.bind_some, if_pos hy, n1, n2, n3, less_is]
    by_cases h1 : l[i].data.toList = x.data.toList
    · have h1' : l[i].toList = x.toList := by rw [ByteArray.toList_eq, ByteArray.toList_eq]; exact h1
      rw [if_pos h1, if_pos h1', ite_self]; simp
    · have h1' : ¬ l[i].toList = x.toList := by rw [ByteArray.toList_eq, ByteArray.toList_eq]; exact h1
      rw [if_neg h1, if_neg h1']
      by_cases h2 : x.data.toList < l[i].data.toList
      · rw [if_pos (decide_eq_true h2), if_neg (by simp), if_pos h2]; simp
      · rw [if_neg (by simpa using h2), if_neg h2]; simp
theorem put_is (l : List ByteArray) (x : ByteArray) (hl : l.length ≤ 1000) (hb : builtB l = l) (k : Nat) (hk : 1001 ≤ k) : gristmillref06_put.f k l x = some (builtB (l ++ [x])) := by
  have := put_loop l x hl l.length 0 (by omega) [] (k - l.length - 1) (Nat.le_refl _)
  rw [show k - l.length - 1 + l.length + 1 = k by omega] at this
  unfold gristmillref06_put.f
  rw [← putL_built hb]
  exact this
end Go.Proofs.Ytmjhgeinhhhodaa.Ext
end

section
namespace Go.Proofs.Ytmjhgeinhhhodaa.Ext
set_option linter.unusedVariables false
set_option linter.unusedSimpArgs false
open Go.RowKit Go.Proofs.YtmjhgeinhhhodaaW.PrintWords Go.Proofs.Ytmjhgeinhhhodaa.P Go.Proofs.Ytmjhgeinhhhodaa.Txt
theorem wrap64_congr {a b : Int} (h : a % 18446744073709551616 = b % 18446744073709551616) : wrap64 a = wrap64 b := by unfold wrap64; omega
theorem many_sum (x n : Int) (h0 : 0 ≤ n) (h1 : n < 1125899906842624) : wrap64 (x * wrap64 n) = manyV 2 x n := by
  have e : wrap64 n = n := by unfold wrap64; omega
  rw [e]
  unfold manyV
  rw [if_pos rfl]
  refine wrap64_congr ?_
  show x * n % 18446744073709551616 = (x % 18446744073709551616 * n % 18446744073709551616) % 18446744073709551616
  rw [Int.emod_emod_of_dvd _ (Int.dvd_refl _), Int.mul_emod, Int.mul_emod (x % 18446744073709551616) n, Int.emod_emod_of_dvd _ (Int.dvd_refl _)]
theorem many_wrap (x n : Int) : wrap64 (0 + manyV 2 x n) = manyV 2 x n := by
  unfold manyV
  rw [if_pos rfl]
  unfold wrap64; omega
theorem text_at (l : List ByteArray) (c1 : Int) (h0 : 0 ≤ c1) (h : c1 < (l.length : Int)) : rdOf ByteArray.empty l c1 = l.getD c1.toNat ⟨#[]⟩ := by
  have : c1.toNat < l.length := by omega
  unfold rdOf
  simp [this]
theorem ref_step {c c1 b : Int} (hc : 1 ≤ c ∧ c ≤ 5) (h1 : 0 ≤ c1 ∧ c1 < 2) (l : List S44) (hf : FitL l) (hl : l.length ≤ 1000) (j k : Nat) (hk : 1001 ≤ k) (hj : j < l.length) (p q : Pt) (hp : Fit c b p) (hb : b + 1125899906842624 < 4611686018427387904) (ht : p.t.length ≤ 1000) (hq : q = mg c p (unit c c1 l[j])) :
    gristmillref06_Of.l0 (k + 1) l (decide (p.n = 0)) (j : Int) c c1 p.n p.v p.t = gristmillref06_Of.l0 k l (decide (q.n = 0)) ((j + 1 : Nat) : Int) c c1 q.n q.v q.t := by
  have e : wrap64 ((j : Int) + 1) = ((j + 1 : Nat) : Int) := by unfold wrap64; omega
  have hi : (j : Int) < (l.length : Int) := Int.ofNat_lt.2 hj
  have hm : FitM l[j] := hf _ (List.getElem_mem hj)
  have hu := unit_fit hc h1 hm
  rw [gristmillref06_Of.l0, if_pos hi, if_pos (Int.natCast_nonneg j), rd44 l j hj, e]
  generalize l[j] = m at hm hu hq ⊢
  have hn := mg_n hp hu hb
  by_cases hz : m.f1 = 0
  · have hu0 : unit c c1 m = Pt.z := by unfold unit; rw [if_pos hz]
    rw [hu0, mg_zero hp] at hq
    rw [if_pos hz, hq]
  have hun : (unit c c1 m).n = m.f1 := by unfold unit; rw [if_neg hz]; split <;> (try rfl); split <;> rfl
  have h2 := hm.n0; have h3 := hm.n1; have h4 := hp.lo; have h5 := hp.hi
  have hd : c1 < (m.f0.f1.length : Int) := by have := hm.d; omega
  have he : c1 < (m.f0.f2.length : Int) := by have := hm.e; omega
  rw [hun, ← hq] at hn
  have hfl : decide (q.n = 0) = false := decide_eq_false (by omega)
  have hqn : IntKind.u64.wrap (p.n + m.f1) = q.n := by rw [hn]; exact u64_small (by omega) (by omega)
  rw [hfl, if_neg hz, hqn]
  have hut : c ≠ 5 → (unit c c1 m).t = [] := hu.tx
  have hqt : c ≠ 5 → q.t = p.t := by
    intro h
    rw [hp.tx h]
    have := mg_fit hp hu hb (by omega) (by omega)
    rw [hq]
    exact this.tx h
  by_cases hpz : p.n = 0
  · rw [decide_eq_true hpz]
    have hv0 := hp.zv hpz
    have ht0 := hp.zt hpz
    have hqv : q.v = (unit c c1 m).v := by rw [hq]; unfold mg; rw [if_pos hpz, if_neg (by rw [hun]; exact hz)]
    have hqt5 : q.t = builtB (unit c c1 m).t := by rw [hq]; unfold mg; rw [if_pos hpz, if_neg (by rw [hun]; exact hz)]
    by_cases c2 : c = 2
    · have hw : (unit c c1 m).v = manyV 2 (rd m.f0.f2 c1) m.f1 := by unfold unit; rw [if_neg hz, if_neg (by omega), if_neg (by omega), c2]
      rw [if_pos c2, if_pos h1.1, if_pos he, hqt (by omega), hqv, hw, hv0, many_sum _ _ h2 h3, many_wrap]
    rw [if_neg c2]
    by_cases c3 : c = 3
    · have hw : (unit c c1 m).v = rd m.f0.f2 c1 := by unfold unit; rw [if_neg hz, if_neg (by omega), if_neg (by omega), c3]; rfl
      rw [if_pos c3, if_pos rfl, if_pos h1.1, if_pos he, hqt (by omega), hqv, hw]
    rw [if_neg c3]
    by_cases c4 : c = 4
    · have hw : (unit c c1 m).v = rd m.f0.f2 c1 := by unfold unit; rw [if_neg hz, if_neg (by omega), if_neg (by omega), c4]; rfl
      rw [if_pos c4, if_pos rfl, if_pos h1.1, if_pos he, hqt (by omega), hqv, hw]
    rw [if_neg c4]
    by_cases c5 : c = 5
    · have hw : unit c c1 m = ⟨m.f1, 0, [m.f0.f1.getD c1.toNat ⟨#[]⟩]⟩ := by unfold unit; rw [if_neg hz, if_neg (by omega), if_pos c5]
      rw [if_pos c5, if_pos h1.1, if_pos hd, ht0, put_is [] _ (by simp) builtB_nil k hk, text_at _ _ h1.1 hd, hqv, hqt5, hw, hv0]
      rfl
    · have hw : (unit c c1 m).v = 0 := by unfold unit; rw [if_neg hz, if_pos (by omega)]
      rw [if_neg c5, hqt c5, hqv, hw, hv0]
  · rw [decide_eq_false hpz]
    have hqv : q.v = mergeV c p.v (unit c c1 m).v := by rw [hq]; unfold mg; rw [if_neg hpz, if_neg (by rw [hun]; exact hz)]
    have hqt5 : q.t = builtB (p.t ++ (unit c c1 m).t) := by rw [hq]; unfold mg; rw [if_neg hpz, if_neg (by rw [hun]; exact hz)]
    by_cases c2 : c = 2
    · have hw : (unit c c1 m).v = manyV 2 (rd m.f0.f2 c1) m.f1 := by unfold unit; rw [if_neg hz, if_neg (by omega), if_neg (by omega), c2]
      have hmv : mergeV c p.v (unit c c1 m).v = wrap64 (p.v + (unit c c1 m).v) := by unfold mergeV; rw [if_pos c2]
      rw [if_pos c2, if_pos h1.1, if_pos he, hqt (by omega), hqv, hmv, hw, many_sum _ _ h2 h3]
    rw [if_neg c2]
    by_cases c3 : c = 3
    · have hw : (unit c c1 m).v = rd m.f0.f2 c1 := by unfold unit; rw [if_neg hz, if_neg (by omega), if_neg (by omega), c3]; rfl
      have hmv : mergeV c p.v (unit c c1 m).v = min p.v (unit c c1 m).v := by unfold mergeV; rw [if_neg c2, if_pos c3]
      rw [if_pos c3, if_neg (by simp), if_pos h1.1, if_pos he, hqt (by omega), hqv, hmv, hw]
      by_cases hlt : rd m.f0.f2 c1 < p.v
      · rw [if_pos hlt, show min p.v (rd m.f0.f2 c1) = rd m.f0.f2 c1 by omega]
      · rw [if_neg hlt, show min p.v (rd m.f0.f2 c1) = p.v by omega]
    rw [if_neg c3]
    by_cases c4 : c = 4
    · have hw : (unit c c1 m).v = rd m.f0.f2 c1 := by unfold unit; rw [if_neg hz, if_neg (by omega), if_neg (by omega), c4]; rfl
      have hmv : mergeV c p.v (unit c c1 m).v = max p.v (unit c c1 m).v := by unfold mergeV; rw [if_neg c2, if_neg c3, if_pos c4]
      rw [if_pos c4, if_neg (by simp), if_pos h1.1, if_pos he, hqt (by omega), hqv, hmv, hw]
      by_cases hlt : rd m.f0.f2 c1 > p.v
      · rw [if_pos hlt, show max p.v (rd m.f0.f2 c1) = rd m.f0.f2 c1 by omega]
      · rw [if_neg hlt, show max p.v (rd m.f0.f2 c1) = p.v by omega]
    rw [if_neg c4]
    have hmv : mergeV c p.v (unit c c1 m).v = p.v := by unfold mergeV; rw [if_neg c2, if_neg c3, if_neg c4]
    by_cases c5 : c = 5
    · have hw : (unit c c1 m).t = [m.f0.f1.getD c1.toNat ⟨#[]⟩] := by unfold unit; rw [if_neg hz, if_neg (by omega), if_pos c5]
      rw [if_pos c5, if_pos h1.1, if_pos hd, put_is p.t _ ht hp.bt k hk, text_at _ _ h1.1 hd, hqv, hmv, hqt5, hw]
      rfl
    · rw [if_neg c5, hqt c5, hqv, hmv]
theorem ref_end {c c1 : Int} (l : List S44) (k : Nat) (f : Bool) (p : Pt) : gristmillref06_Of.l0 (k + 1) l f ((l.length : Nat) : Int) c c1 p.n p.v p.t = some (p.n, p.v, p.t) := by
  rw [gristmillref06_Of.l0, if_neg (Int.lt_irrefl _)]
theorem ref_loop {c c1 : Int} (hc : 1 ≤ c ∧ c ≤ 5) (h1 : 0 ≤ c1 ∧ c1 < 2) (l : List S44) (hf : FitL l) (hl : l.length ≤ 1000) : ∀ (n j : Nat), j + n = l.length → ∀ (k : Nat) (p : Pt), p = sp c c1 (l.take j) →
    gristmillref06_Of.l0 (k + 1001 + n + 1) l (decide (p.n = 0)) (j : Int) c c1 p.n p.v p.t = some ((sp c c1 l).n, (sp c c1 l).v, (sp c c1 l).t) := by
  intro n
  induction n with
  | zero =>
    intro j hj k p hp
    have e : l.take j = l := List.take_of_length_le (by omega)
    rw [e] at hp
    have hj' : j = l.length := by omega
    subst hj'
    rw [← hp]
    exact ref_end l (k + 1001) _ p
  | succ n ih =>
    intro j hj k p hp
    have hjl : j < l.length := by omega
    have hlt : (l.take j).length ≤ 999 := by rw [List.length_take]; omega
    have ht : p.t.length ≤ 1000 := by rw [hp]; exact Nat.le_trans (sp_t_len hc h1 (l.take j) (hf.take j) (by omega)) (by omega)
    have hfp := sp_fit hc h1 (l.take j) (hf.take j) (by omega)
    rw [← hp] at hfp
    have hs := ref_step hc h1 l hf hl j (k + 1001 + n + 1) (by omega) hjl p _ hfp (by omega) ht rfl
    rw [show k + 1001 + (n + 1) + 1 = (k + 1001 + n + 1) + 1 by omega, hs]
    exact ih (j + 1) (by omega) k _ (by rw [take_snoc l j hjl, sp_snoc, hp])
theorem ref_is {c c1 : Int} (hc : 1 ≤ c ∧ c ≤ 5) (h1 : 0 ≤ c1 ∧ c1 < 2) (l : List S44) (hf : FitL l) (hl : l.length ≤ 1000) (k : Nat) (hk : 2002 ≤ k) : gristmillref06_Of.f k c c1 l = some ((sp c c1 l).n, (sp c c1 l).v, (sp c c1 l).t) := by
  have := ref_loop hc h1 l hf hl l.length 0 (by omega) (k - l.length - 1002) Pt.z rfl
  rw [show k - l.length - 1002 + 1001 + l.length + 1 = k by omega] at this
  unfold gristmillref06_Of.f
  exact this
end Go.Proofs.Ytmjhgeinhhhodaa.Ext
end

section
namespace Go.Proofs.Ytmjhgeinhhhodaa.Ext
set_option linter.unusedVariables false
set_option linter.unusedSimpArgs false
open Go.RowKit Go.Proofs.YtmjhgeinhhhodaaW.PrintWords
open Go.ChangeShapes Go.WideShapes Go.ChangeAt Go.Deep
def Opens (P : Program) {α : Type} (d : Kd α) (t : TypeId) (Q : α → Prop) : Prop :=
  ∀ (H : Type) (enc : TypeId × Value → H) (W : World) (base : Nat) (held : Bool) (fuel : Nat) (cs : List Value) (x : DataW H × List MemPlace),
    DataW.trod enc P W base (fun _ => true) held fuel t cs = some x → (∀ n ∈ x.1.weights P t, n ≤ reachBytes) → ∃ v, d.K W v cs ∧ Q v
def OpensF (P : Program) {α : Type} (d : Kd α) (o : Nat) (fs : List Field) (Q : α → Prop) : Prop :=
  ∀ (H : Type) (enc : TypeId × Value → H) (W : World) (base : Nat) (held : Bool) (n : Nat) (cs : List Value) (xs : List (DataW H × List MemPlace)),
    cs.length = o + d.sz → xs.length = fs.length →
    (∀ (i : Nat) (f : Field), fs[i]? = some f → DataW.trod enc P W base (fun _ => true) held n f.type ((cs.drop f.offset).take (P.cellsOf f.type)) = xs[i]?) →
    (∀ n ∈ DataW.weightsEach P (fs.map (·.type)) (xs.map (·.1)), n ≤ reachBytes) → ∃ v, d.K W v (cs.drop o) ∧ Q v
theorem opens_int {P : Program} {t : TypeId} {k : IntKind} (ht : P.underlying t = some (.int k)) : Opens P (Kd.int k) t (fun n => (Lit.int k n).wf = true) := by
  intro H enc W base held fuel cs x h _
  obtain ⟨n, rfl, _, hw⟩ := DataW.trod_int ht h
  exact ⟨n, rfl, hw⟩
theorem opens_string {P : Program} {t : TypeId} (ht : P.underlying t = some .string) : Opens P Kd.string t (fun s => s.size ≤ reachBytes) := by
  intro H enc W base held fuel cs x h hw
  obtain ⟨s, rfl, rfl, _⟩ := DataW.trod_string ht h
  refine ⟨s, rfl, ?_⟩
  have := hw s.data.toList.length (by simp [DataW.weights])
  simpa using this
theorem weights_all {H : Type} {P : Program} {e : TypeId} {d : DataW H} : ∀ {ds : List (DataW H)}, d ∈ ds → ∀ n ∈ d.weights P e, n ∈ DataW.weightsAll P e ds
  | [], h, _, _ => by cases h
  | d0 :: ds, h, n, hn => by
    simp only [DataW.weightsAll, List.mem_append]
    rcases List.mem_cons.1 h with rfl | h
    · exact .inl hn
    · exact .inr (weights_all h n hn)
theorem opens_slice {P : Program} {α : Type} {d : Kd α} {t e : TypeId} {ek : Nat} {Q : α → Prop} (ht : P.underlying t = some (.slice e)) (hd : Opens P d e Q) (hc : P.cellsOf e = d.sz) :
    Opens P (Kd.slice ek d) t (fun l => (∀ x ∈ l, Q x) ∧ l.length * P.bytesOf e ≤ reachBytes) := by
  intro H enc W base held fuel cs x h hw
  rcases open_slice ht h with ⟨rfl, _⟩ | ⟨a, len, cap, m, n, D, Pl, rfl, hb, hl, hm, hmm, rfl, hx⟩
  · exact ⟨[], ⟨none, 0, rfl, Nat.le_refl _, Kd.C_nil _ _⟩, by simp, by simp⟩
  have hml : len ≤ m := by rw [hmm]; simpa using hl
  have hat : ∀ i, i < len → ∃ v cs', d.K W v cs' ∧ Q v ∧ W.cells? base (a.add (i * P.cellsOf e)) (P.cellsOf e) = some cs' := by
    intro i hi
    obtain ⟨cs', h1, h2⟩ := hx i (Nat.lt_of_lt_of_le hi hml)
    obtain ⟨v, hv, hq⟩ := hd H enc W base held n cs' _ h2 (fun n hn => hw n (by
      simp only [DataW.weights, ht, List.mem_cons, List.mem_append]
      exact .inr (.inl (weights_all (List.mem_map.2 ⟨i, by simpa using hi, rfl⟩) n hn))))
    exact ⟨v, cs', hv, hq, h1⟩
  have hl2 : ∃ l : List α, l.length = len ∧ ∀ i v, l[i]? = some v → ∃ cs', d.K W v cs' ∧ Q v ∧ W.cells? base (a.add (i * P.cellsOf e)) (P.cellsOf e) = some cs' := by
    clear hw hx hmm hml hm hl h
    induction len with
    | zero => exact ⟨[], rfl, fun i v h => by simp at h⟩
    | succ k ih =>
      obtain ⟨l, hl, hr⟩ := ih (fun i hi => hat i (by omega))
      obtain ⟨v, cs', h1, h2, h3⟩ := hat k (by omega)
      refine ⟨l ++ [v], by simp [hl], fun i u hu => ?_⟩
      by_cases hi : i < l.length
      · rw [List.getElem?_append_left hi] at hu
        exact hr i u hu
      · rw [List.getElem?_append_right (by omega)] at hu
        have hi0 : i - l.length = 0 := by
          rcases hz : i - l.length with _ | q
          · rfl
          · rw [hz] at hu; simp at hu
        rw [hi0] at hu
        simp only [List.getElem?_cons_zero, Option.some.injEq] at hu
        subst hu
        have : i = k := by omega
        subst this
        exact ⟨cs', h1, h2, h3⟩
  obtain ⟨l, rfl, hr⟩ := hl2
  refine ⟨l, ⟨some a, cap, rfl, hl, rfl, Nat.le_trans hl (by simpa [maxLen] using hm), fun _ => ⟨a, rfl, fun j p hj => ?_⟩⟩, ?_, ?_⟩
  · obtain ⟨cs', h1, _, h3⟩ := hr j p hj
    obtain ⟨_, hlen, hcell⟩ := World.cells?_some h3
    refine ⟨cs', d.K_len h1, h1, fun i u hu => ?_⟩
    have hi : i < P.cellsOf e := by have := (List.getElem?_eq_some_iff.1 hu).1; omega
    have := hcell i hi
    rw [Go.Deep.add_add, hu, hc] at this
    exact this
  · intro y hy
    obtain ⟨i, hi⟩ := List.mem_iff_getElem?.1 hy
    obtain ⟨_, _, h2, _⟩ := hr i y hi
    exact h2
  · have := hw (((List.range l.length).map D).length + ((List.range (m - l.length)).map fun j => D (l.length + j)).length |> (· * P.bytesOf e)) (by
      simp [DataW.weights, ht])
    simp only [List.length_map, List.length_range] at this
    exact Nat.le_trans (Nat.mul_le_mul_right _ (Nat.le_add_right _ _)) this
theorem opensF_one {P : Program} {α : Type} {d : Kd α} {o : Nat} {f : Field} {Q : α → Prop} (hd : Opens P d f.type Q) (ho : f.offset = o) (hc : P.cellsOf f.type = d.sz) : OpensF P d o [f] Q := by
  intro H enc W base held n cs xs hl hx ht hw
  match xs, hx with
  | [x0], _ =>
    have h0 := ht 0 f rfl
    rw [ho, hc, List.take_of_length_le (by rw [List.length_drop]; omega)] at h0
    exact hd H enc W base held n _ x0 h0 (fun n hn => hw n (by simpa [DataW.weightsEach] using hn))
theorem opensF_cons {P : Program} {α β : Type} {d : Kd α} {d1 : Kd β} {o : Nat} {f : Field} {fs : List Field} {Q : α → Prop} {Q1 : β → Prop} (hd : Opens P d f.type Q) (ho : f.offset = o) (hc : P.cellsOf f.type = d.sz)
    (hr : OpensF P d1 (o + d.sz) fs Q1) : OpensF P (Kd.pair d d1) o (f :: fs) (fun x => Q x.1 ∧ Q1 x.2) := by
  intro H enc W base held n cs xs hl hx ht hw
  match xs, hx with
  | x0 :: xs, hx =>
    have h0 := ht 0 f rfl
    rw [ho, hc] at h0
    have hlp : cs.length = o + (d.sz + d1.sz) := hl
    obtain ⟨v, hv, hq⟩ := hd H enc W base held n _ x0 h0 (fun n hn => hw n (by
      simp only [List.map_cons, DataW.weightsEach, List.mem_append]; exact .inl hn))
    obtain ⟨v1, hv1, hq1⟩ := hr H enc W base held n cs xs (by omega) (by simpa using hx) (fun i g hg => by simpa using ht (i + 1) g (by simpa using hg)) (fun n hn => hw n (by
      simp only [List.map_cons, DataW.weightsEach, List.mem_append]; exact .inr hn))
    refine ⟨(v, v1), ⟨_, _, ?_, hv, hv1⟩, hq, hq1⟩
    rw [← List.drop_drop, List.take_append_drop]
theorem opens_struct {P : Program} {α : Type} {d : Kd α} {t : TypeId} {fs : Array Field} {Q : α → Prop} (ht : P.underlying t = some (.struct fs)) (hc : P.cellsOf t = d.sz) (hd : OpensF P d 0 fs.toList Q) : Opens P d t Q := by
  intro H enc W base held fuel cs x h hw
  obtain ⟨xs, n, _, rfl, hl, hlen, hf⟩ := DataW.trod_struct ht h
  have := hd H enc W base held n cs xs (by omega) (by simpa using hlen) (fun i f hi => hf i f (by simpa using hi)) (fun n hn => hw n (by simpa [DataW.weights, ht] using hn))
  simpa using this
theorem opens_iso {P : Program} {α β : Type} {d : Kd α} {t : TypeId} {Q : α → Prop} (f : β → α) (g : α → β) (hfg : ∀ a, f (g a) = a) (h : Opens P d t Q) : Opens P (Kd.iso d f) t (fun x => Q (f x)) := by
  intro H enc W base held fuel cs x hx hw
  obtain ⟨v, hv, hq⟩ := h H enc W base held fuel cs x hx hw
  refine ⟨g v, ?_, ?_⟩
  · show d.K W (f (g v)) cs
    rw [hfg]; exact hv
  · show Q (f (g v))
    rw [hfg]; exact hq
theorem opens_mono {P : Program} {α : Type} {d : Kd α} {t : TypeId} {Q Q' : α → Prop} (h : Opens P d t Q) (hq : ∀ a, Q a → Q' a) : Opens P d t Q' := by
  intro H enc W base held fuel cs x hx hw
  obtain ⟨v, hv, h1⟩ := h H enc W base held fuel cs x hx hw
  exact ⟨v, hv, hq v h1⟩
theorem opened {P : Program} {α : Type} {d : Kd α} {t : TypeId} {Q : α → Prop} (h : Opens P d t Q) {H : Type} {enc : TypeId × Value → H} {W : World} {base : Nat} {held : Bool} {v : Value} {x : DataW H} {p : List MemPlace}
    (ht : DataW.Trod enc P W base (fun _ => true) held t v x p) {ts : List TypeId} {ds : List (DataW H)} (hsz : (DataW.weightsEach P ts ds).all (· ≤ reachBytes) = true) (j : Nat) (hj : ts[j]? = some t) (hd : ds[j]? = some x) :
    ∃ a, d.K W a v.cells.toList ∧ Q a := by
  obtain ⟨fuel, hf⟩ := ht
  refine h H enc W base held fuel _ _ hf (fun n hn => ?_)
  have := List.all_eq_true.1 hsz n (DataW.weights_mem_each hj hd n hn)
  simpa using this
theorem open_struct {P : Program} {α : Type} {d : Kd α} {t : TypeId} {Q : α → Prop} (O : Opens P d t Q) {fs : Array Field} (hs : P.underlying t = some (.struct fs)) {H : Type} {enc : TypeId × Value → H} {W : World} {base b0 : Nat} {held : Bool} {r : Reach} {v : Value}
    {x : DataW H} {p : List MemPlace} (hv : Value.okWide P W r b0 t v) (ht : DataW.Trod enc P W base (fun _ => true) held t v x p) {ts : List TypeId} {ds : List (DataW H)} (hsz : (DataW.weightsEach P ts ds).all (· ≤ reachBytes) = true)
    (j : Nat) (hj : ts[j]? = some t) (hd : ds[j]? = some x) : ∃ a cs, v = .agg (List.toArray cs) ∧ d.K W a cs ∧ Q a := by
  obtain ⟨a, hK, hQ⟩ := opened O ht hsz j hj hd
  obtain ⟨cs, rfl, _⟩ := okWide_struct hs hv
  exact ⟨a, cs.toList, by rw [Array.toArray_toList], hK, hQ⟩
theorem open_row {P : Program} {α : Type} {d : Kd α} {t e : TypeId} {Q : α → Prop} (O : Opens P d e Q) (hs : P.underlying t = some (.slice e)) (hc : P.cellsOf e = d.sz) {H : Type} {enc : TypeId × Value → H} {W : World} {base b0 : Nat} {held : Bool} {r : Reach} {v : Value}
    {x : DataW H} {p : List MemPlace} (hv : Value.okWide P W r b0 t v) (ht : DataW.Trod enc P W base (fun _ => true) held t v x p) {ts : List TypeId} {ds : List (DataW H)} (hsz : (DataW.weightsEach P ts ds).all (· ≤ reachBytes) = true)
    (j : Nat) (hj : ts[j]? = some t) (hd : ds[j]? = some x) : ∃ A l c, v = .slice A l.length c ∧ l.length ≤ c ∧ d.C W A l.length l ∧ (∀ y ∈ l, Q y) ∧ l.length * P.bytesOf e ≤ reachBytes := by
  obtain ⟨l, hK, hQ, hb⟩ := opened (opens_slice (ek := 0) hs O hc) ht hsz j hj hd
  obtain ⟨A, len, cap, rfl⟩ := okWide_slice hs hv
  obtain ⟨A', c, hcs, hl, hC⟩ := hK
  have hcs' : [Value.slice A len cap] = [Value.slice A' l.length c] := hcs
  injection hcs' with h1 _
  injection h1 with h2 h3 h4
  subst h2; subst h3; subst h4
  exact ⟨A, l, cap, rfl, hl, hC, hQ, hb⟩
end Go.Proofs.Ytmjhgeinhhhodaa.Ext
end

section
namespace Go.Proofs.Ytmjhgeinhhhodaa.Ext
set_option linter.unusedVariables false
open Go.RowKit Go.Proofs.YtmjhgeinhhhodaaW.PrintWords Go.Proofs.Ytmjhgeinhhhodaa.P
def kTwo : Kd (Int × Int) := Kd.pair (Kd.int .i64) (Kd.int .i64)
theorem opens_agg : Opens Try.prog kTwo 23 (fun x => (Lit.int .i64 x.1).wf = true ∧ (Lit.int .i64 x.2).wf = true) := by
  refine opens_struct Try.underlying23 (by kernel_rfl) ?_
  show OpensF _ (Kd.pair _ _) 0 [_, _] _
  exact (opensF_cons (opens_int (k := .i64) (by kernel_rfl)) (by rfl) (by kernel_rfl) (opensF_one (opens_int (k := .i64) (by kernel_rfl)) (by rfl) (by kernel_rfl)))
theorem two_open {W : World} {x : Int × Int} {cs : List Value} (h : kTwo.K W x cs) : cs = [.int .i64 x.1, .int .i64 x.2] := by
  obtain ⟨_, _, rfl, rfl, rfl⟩ := h; rfl
end Go.Proofs.Ytmjhgeinhhhodaa.Ext
end

section
namespace Go.Proofs.Ytmjhgeinhhhodaa.Ext
set_option linter.unusedVariables false
open Go.RowKit Go.Proofs.YtmjhgeinhhhodaaW.PrintWords Go.Proofs.Ytmjhgeinhhhodaa.P
theorem u64_pos {n : Int} (h : (Lit.int .u64 n).wf = true) : 0 ≤ n := by
  simp only [Lit.wf, Bool.and_eq_true, decide_eq_true_eq] at h
  exact h.1
theorem opens_fact : Opens Try.prog k42 42 (fun _ => True) := by
  refine opens_mono (opens_iso (fun x : S42 => (x.f0, x.f1, x.f2)) (fun p => ⟨p.1, p.2.1, p.2.2⟩) (fun _ => rfl) (Q := fun x => (Lit.int .i64 x.1).wf = true ∧ ((∀ s ∈ x.2.1, s.size ≤ reachBytes) ∧ x.2.1.length * Try.prog.bytesOf 9 ≤ reachBytes) ∧ ((∀ s ∈ x.2.2, (Lit.int .i64 s).wf = true) ∧ x.2.2.length * Try.prog.bytesOf 2 ≤ reachBytes)) ?_) (fun _ _ => trivial)
  refine Ext.opens_struct Try.underlying42 (by kernel_rfl) ?_
  show OpensF _ (Kd.pair _ (Kd.pair _ _)) 0 [_, _, _] _
  exact (opensF_cons (opens_int (k := .i64) (by kernel_rfl)) (by rfl) (by kernel_rfl)
    (opensF_cons (opens_slice (by kernel_rfl) (opens_string (t := 9) (by kernel_rfl)) (by kernel_rfl)) (by rfl) (by kernel_rfl)
      (opensF_one (opens_slice (by kernel_rfl) (opens_int (t := 2) (k := .i64) (by kernel_rfl)) (by kernel_rfl)) (by rfl) (by kernel_rfl))))
theorem opens_many : Opens Try.prog k44 44 (fun x => 0 ≤ x.f1) := by
  refine opens_mono (opens_iso (fun x : S44 => (x.f0, x.f1)) (fun p => ⟨p.1, p.2⟩) (fun _ => rfl) (Q := fun x => True ∧ (Lit.int .u64 x.2).wf = true) ?_) (fun x h => u64_pos h.2)
  refine Ext.opens_struct Try.underlying44 (by kernel_rfl) ?_
  show OpensF _ (Kd.pair _ _) 0 [_, _] _
  refine opensF_cons (Q := fun _ => True) (Q1 := fun n => (Lit.int .u64 n).wf = true) ?_ ?_ ?_ ?_
  · exact opens_fact
  · rfl
  · kernel_rfl
  · refine opensF_one ?_ ?_ ?_
    · exact opens_int (k := .u64) (by kernel_rfl)
    · rfl
    · kernel_rfl
end Go.Proofs.Ytmjhgeinhhhodaa.Ext
end

section
namespace Go.Proofs.Ytmjhgeinhhhodaa.aggMerges
set_option linter.unusedVariables false
set_option linter.unusedSimpArgs false
open Go.RowKit Go.Proofs.YtmjhgeinhhhodaaW.PrintWords Go.Proofs.Ytmjhgeinhhhodaa.Lib
open Go.ChangeShapes Go.WideShapes Go.ChangeAt
open Go.ChangeMaps (open_string shut_string)
theorem own : ownKnob Try.prog.godebug = none := by kernel_rfl
theorem laidOut : laidOutB Try.prog = true := by kernel_rfl
open Go.Proofs.Ytmjhgeinhhhodaa.P Go.Proofs.Ytmjhgeinhhhodaa.Ext Go.Proofs.Ytmjhgeinhhhodaa.Txt
theorem law_true (a0 a1 : Int) (l l2 : List S44) (h0 : (Lit.int .i64 a0).wf = true) (h1 : (Lit.int .i64 a1).wf = true) (hl : ∀ m ∈ l, 0 ≤ m.f1) (hl2 : ∀ m ∈ l2, 0 ≤ m.f1) : gristmilllaw06_AggMerges.f 3000 a0 a1 l l2 = some true := by
  obtain ⟨c0, c1, hc0, hc1, hr⟩ := right_is a0 a1 h0 h1
  obtain ⟨r, hf, hlen, e⟩ := hr l hl
  obtain ⟨r2, hf2, hlen2, e2⟩ := hr l2 hl2
  have hst := sp_t_len hc0 hc1 r hf (by omega)
  have hst2 := sp_t_len hc0 hc1 r2 hf2 (by omega)
  have hsp := sp_fit hc0 hc1 r hf (by omega)
  have hsp2 := sp_fit hc0 hc1 r2 hf2 (by omega)
  have hfa : FitL (r ++ r2) := fun m hm => by
    rcases List.mem_append.1 hm with h | h
    · exact hf m h
    · exact hf2 m h
  have hla : (r ++ r2).length ≤ 1000 := by rw [List.length_append]; omega
  have hsta := sp_t_len hc0 hc1 (r ++ r2) hfa hla
  unfold gristmilllaw06_AggMerges.f
  rw [show gristmilllaw06_awake.f = some true from rfl, e 3000 (by omega)]
  simp only [Option.bind_some, if_true]
  rw [e2 3000 (by omega)]
  simp only [Option.bind_some]
  rw [of_is hc0 hc1 r hf (by omega) 3000 (by omega), of_is hc0 hc1 r2 hf2 (by omega) 3000 (by omega)]
  simp only [Option.bind_some]
  rw [merge_is hc0 hsp hsp2 (by omega)]
  simp only [Option.bind_some]
  rw [if_pos (by simp only [List.length_nil]; omega), if_pos (by rw [List.nil_append]; omega), List.nil_append, ref_is hc0 hc1 (r ++ r2) hfa hla 3000 (by omega), ← sp_append hc0 hc1 r r2 hf hf2 (by omega)]
  simp only [Option.bind_some]
  rw [same_is _ _ _ (by omega) 3000 (by omega)]
  rfl
set_option maxRecDepth 100000 in
theorem lifted (os : Os) (started : os.Started) (H : Type) (enc : TypeId × Value → H) :
    ReturnsInHanded {} Try.checked os 4 .any (Rows.aggMergesSpec.pre6 enc Try.prog Try.f4 Rows.aggMergesRow.domain false) (Rows.aggMergesSpec.post enc Try.prog Try.f4 false true false false) := by
  refine returnsInHanded_of_change_sized (C := Try.checked) own started (by kernel_rfl) Try.func4
    (ChangeSpec.witness6 (enc := enc) (C := Try.checked) false ⟨#[], #[.agg #[.int .i64 0, .int .i64 0], .slice none 0 0, .slice none 0 0], []⟩ 8 (by kernel_rfl) (by kernel_rfl) (by kernel_rfl) (by kernel_rfl)) ?_
  intro W base args ds gs before hval0 hW hcnd hsz _
  have hval : ∀ (j : Nat) t v, Try.f4.params[j]? = some t → args[j]? = some v → Value.okWide Try.prog W .any base t v := hval0
  have hW' := hW
  obtain ⟨p, q, hA0, hV, rfl, hfz, hnd⟩ := hW
  have hA : DataW.TrodAll enc Try.prog W 0 (fun _ => true) true Try.f4.params.toList args.toList ds p := hA0
  rw [Try.params4] at hA hval
  obtain ⟨v0, vs0, d0, ds0, p0, q0, hargs, rfl, rfl, h0, r0⟩ := trodAll_cons hA
  obtain ⟨v1, vs1, d1, ds1, p1, q1, rfl, rfl, rfl, h1, r1⟩ := trodAll_cons r0
  obtain ⟨v2, vs2, d2, ds2, p2, q2, rfl, rfl, rfl, h2, r2⟩ := trodAll_cons r1
  obtain ⟨rfl, rfl, rfl⟩ := trodAll_nil r2
  obtain rfl : args = #[v0, v1, v2] := by cases args; simp_all
  obtain ⟨rfl, rfl⟩ := trodVars_none hV
  have k0 := h0
  have lt0 : ∀ x ∈ p0, x.block < W.heap.size := by obtain ⟨m, hm⟩ := k0; exact DataW.trod_lt m _ _ _ hm
  obtain ⟨a0, cs0, rfl, hK0, hQ0⟩ := open_struct opens_agg Try.underlying23 (hval 0 _ v0 rfl rfl) h0 hsz 0 rfl rfl
  obtain rfl := two_open hK0
  have k1 := h1
  have lt1 : ∀ x ∈ p1, x.block < W.heap.size := by obtain ⟨m, hm⟩ := k1; exact DataW.trod_lt m _ _ _ hm
  obtain ⟨A1, l1, c1, rfl, hl1, hC1, hQ1, hb1⟩ := open_row opens_many Try.underlying24 (by kernel_rfl) (hval 1 _ v1 rfl rfl) h1 hsz 1 rfl rfl
  have k2 := h2
  have lt2 : ∀ x ∈ p2, x.block < W.heap.size := by obtain ⟨m, hm⟩ := k2; exact DataW.trod_lt m _ _ _ hm
  obtain ⟨A2, l2, c2, rfl, hl2, hC2, hQ2, hb2⟩ := open_row opens_many Try.underlying24 (by kernel_rfl) (hval 2 _ v2 rfl rfl) h2 hsz 2 rfl rfl
  clear hA0 hval0
  refine (gristmilllaw06_AggMerges.calls 3000 a0.1 a0.2 A1 c1 l1 A2 c2 l2 true W hC1 hl1 hC2 hl2 (law_true _ _ _ _ hQ0.1 hQ0.2 (fun m hm => (hQ1 m hm)) (fun m hm => (hQ2 m hm)))).mono fun e W' ⟨he, bel⟩ => ?_
  subst he
  exact ⟨_, rfl, _, _, _, [], _, [], hW', trodAll_mk1 (shut_bool Try.underlying4 _), (trodAll_cons_mk (Below.trod laidOut (by kernel_rfl) (of_decide_eq_true (by kernel_rfl)) k0 bel lt0) (trodAll_cons_mk (Below.trod laidOut (by kernel_rfl) (of_decide_eq_true (by kernel_rfl)) k1 bel lt1) (trodAll_cons_mk (Below.trod laidOut (by kernel_rfl) (of_decide_eq_true (by kernel_rfl)) k2 bel lt2) trodAll_mk0))), rfl, bel.frame _, fun h => by cases h⟩
theorem proved : Rows.AggMergesSaid :=
  OpenClaim.holds_of_wide 4 Try.f4 rfl rfl rfl rfl rfl rfl rfl ⟨rfl, rfl, rfl, rfl, rfl⟩ rfl rfl rfl rfl rfl (by kernel_rfl) Try.func4 (by kernel_rfl)
    (of_decide_eq_true (by kernel_rfl)) (by unfold Func.isWrapper; first | (rw [if_pos (by decide +kernel)]; kernel_rfl) | (rw [if_neg (by decide +kernel)]; exact ⟨rfl, rfl⟩))
    (fun os started H enc _ => lifted os started H enc)
end Go.Proofs.Ytmjhgeinhhhodaa.aggMerges
end
