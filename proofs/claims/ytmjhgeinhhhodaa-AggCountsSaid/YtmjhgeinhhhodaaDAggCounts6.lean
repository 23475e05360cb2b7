/- Texts of this repo, joined, without what this claim does not use: P12, Sp, Of, Put6, Of6, OpenK, OpenAgg, OpenMany, LawAggCounts. -/
import Derived.Test.YtmjhgeinhhhodaaDAggCounts1
import Derived.Test.YtmjhgeinhhhodaaDAggCounts2
import Derived.Test.YtmjhgeinhhhodaaDAggCounts3
import Derived.Test.YtmjhgeinhhhodaaDAggCounts4
import Derived.Test.YtmjhgeinhhhodaaDAggCounts5
import Derived.SizedLaws
import Derived.Deep.Slices
import Derived.Test.YtmjhgeinhhhodaaRows
import Derived.ProofKit
import Derived.OpenShut
section
namespace Go.Proofs.Ytmjhgeinhhhodaa.P
open Go.RowKit Go.Proofs.YtmjhgeinhhhodaaW.PrintWords Go.Proofs.YtmjhgeinhhhodaaW.PrintLast Go.Proofs.YtmjhgeinhhhodaaW.PrintMore
attribute [local go_sem] max2_int min2_int max_two min_two max_three min_three max_four min_four   -- for this text's walks alone
set_option linter.unusedVariables false
set_option linter.unusedSimpArgs false
open Go.Proofs.Ytmjhgeinhhhodaa.Ext (q1_ q2_ q3_ bk_ bw_ sz_ ne_ bx_)
attribute [local go_sem high] Go.Proofs.Ytmjhgeinhhhodaa.Ext.gtr_str Go.Proofs.Ytmjhgeinhhhodaa.Ext.leq_str Go.Proofs.Ytmjhgeinhhhodaa.Ext.geq_str
def gristmilllaw06_AggCounts.f (k : Nat) (a0_0 : Int) (a0_1 : Int) (l1 : List (S44)) : Option (Bool) := (gristmilllaw06_awake.f).bind fun t219 => (if t219 = true then ((gristmilllaw06_right.f k a0_0 a0_1 l1).bind fun bt220 => ((gristmilllaw06_of.f k bt220.2.2.1 bt220.2.2.2.1 bt220.2.2.2.2).bind fun bt228 => ((gristmillref06_Of.f k bt220.2.2.1 bt220.2.2.2.1 bt220.2.2.2.2).bind fun bt234 => ((gristmillref06_Same.f k bt228.1 bt228.2.1 bt228.2.2 bt234.1 bt234.2.1 bt234.2.2).bind fun t240 => (if t240 = true then ((agg_Value.f bt220.2.2.1 bt220.2.2.2.1 bt228.1 bt228.2.1 bt228.2.2).bind fun t241 => ((gristmillref06_Value.f bt220.2.2.1 bt220.2.2.2.1 bt234.1 bt234.2.1 bt234.2.2).bind fun t242 => (some (t241 == t242)))) else (some false)))))) else (some false))
def gristmilllaw06_AggCounts.T7 : Bool × List (List Nat × List Nat) := (true, [([], []), ([], []), ([0, 1], [0, 1]), ([2, 2], [2]), ([3], [3]), ([3], [3]), ([4, 5, 3, 3], [3, 4, 5]), ([3], [3]), ([3], [3]), ([7, 8, 6, 3], [3, 7, 8]), ([6, 9, 3], [3, 6, 9]), ([3, 10], [3, 10]), ([11, 9, 0, 1, 2, 3, 4, 5, 6, 7, 8, 9, 10, 11], [11])])
def gristmilllaw06_AggCounts.B7 : List Nat := [0, 0, 3, 7, 15, 15, 63, 15, 15, 511, 1023, 2047, 4095]
theorem gristmilllaw06_AggCounts.tab7 : rtab .any (opsOf Try.f3 7) = gristmilllaw06_AggCounts.T7 := by kernel_rfl
theorem gristmilllaw06_AggCounts.bits7 : waitsOk gristmilllaw06_AggCounts.T7.2 gristmilllaw06_AggCounts.B7 = true := by kernel_rfl
set_option maxHeartbeats 8000000 in
set_option maxRecDepth 100000 in
theorem gristmilllaw06_AggCounts.calls (k : Nat) (a0_0 : Int) (a0_1 : Int) (A1 : Option Addr) (c1 : Nat) (l1 : List (S44)) (r : Bool) (w : World) (hr1 : Kd.C k44 w A1 l1.length l1) (hc1 : l1.length ≤ c1) (h : gristmilllaw06_AggCounts.f k a0_0 a0_1 l1 = some r) :
  Calls Try.prog 3 #[.agg #[.int .i64 a0_0, .int .i64 a0_1], .slice A1 l1.length c1] w fun e w' => e = .returned (.bool r) ∧ Below w.heap.size w w' := by
 have hu23 := Try.underlying23
 have hu27 := Try.underlying27
 have hu33 := Try.underlying33
 have HR1 := Aside0.mk hr1
 have HC1 := Aside0.mk hc1
 clear hr1 hc1
 have HB := Aside0.mk (Below.refl w.heap.size w)
 have H : ((gristmilllaw06_awake.f).bind fun t219 => (if t219 = true then ((gristmilllaw06_right.f k a0_0 a0_1 l1).bind fun bt220 => ((gristmilllaw06_of.f k bt220.2.2.1 bt220.2.2.2.1 bt220.2.2.2.2).bind fun bt228 => ((gristmillref06_Of.f k bt220.2.2.1 bt220.2.2.2.1 bt220.2.2.2.2).bind fun bt234 => ((gristmillref06_Same.f k bt228.1 bt228.2.1 bt228.2.2 bt234.1 bt234.2.1 bt234.2.2).bind fun t240 => (if t240 = true then ((agg_Value.f bt220.2.2.1 bt220.2.2.2.1 bt228.1 bt228.2.1 bt228.2.2).bind fun t241 => ((gristmillref06_Value.f bt220.2.2.1 bt220.2.2.2.1 bt234.1 bt234.2.1 bt234.2.2).bind fun t242 => (some (t241 == t242)))) else (some false)))))) else (some false))) = some r := h
 clear h
 replace H := Option.bind_eq_some_iff.mp H
 obtain ⟨t219, A30, H⟩ := H
 replace H : (if t219 = true then ((gristmilllaw06_right.f k a0_0 a0_1 l1).bind fun bt220 => ((gristmilllaw06_of.f k bt220.2.2.1 bt220.2.2.2.1 bt220.2.2.2.2).bind fun bt228 => ((gristmillref06_Of.f k bt220.2.2.1 bt220.2.2.2.1 bt220.2.2.2.2).bind fun bt234 => ((gristmillref06_Same.f k bt228.1 bt228.2.1 bt228.2.2 bt234.1 bt234.2.1 bt234.2.2).bind fun t240 => (if t240 = true then ((agg_Value.f bt220.2.2.1 bt220.2.2.2.1 bt228.1 bt228.2.1 bt228.2.2).bind fun t241 => ((gristmillref06_Value.f bt220.2.2.1 bt220.2.2.2.1 bt234.1 bt234.2.1 bt234.2.2).bind fun t242 => (some (t241 == t242)))) else (some false)))))) else (some false)) = some r := H
 have A3 := Aside0.mk A30
 clear A30
 by_cases c4 : t219 = true
 ·subst c4
  have H1 : ((gristmilllaw06_right.f k a0_0 a0_1 l1).bind fun bt220 => ((gristmilllaw06_of.f k bt220.2.2.1 bt220.2.2.2.1 bt220.2.2.2.2).bind fun bt228 => ((gristmillref06_Of.f k bt220.2.2.1 bt220.2.2.2.1 bt220.2.2.2.2).bind fun bt234 => ((gristmillref06_Same.f k bt228.1 bt228.2.1 bt228.2.2 bt234.1 bt234.2.1 bt234.2.2).bind fun t240 => (if t240 = true then ((agg_Value.f bt220.2.2.1 bt220.2.2.2.1 bt228.1 bt228.2.1 bt228.2.2).bind fun t241 => ((gristmillref06_Value.f bt220.2.2.1 bt220.2.2.2.1 bt234.1 bt234.2.1 bt234.2.2).bind fun t242 => (some (t241 == t242)))) else (some false)))))) = some r := by rw [if_pos rfl] at H; exact H
  clear H
  have H := H1
  clear H1
  replace H := Option.bind_eq_some_iff.mp H
  obtain ⟨⟨t220, t221, t222, t223, t224⟩, A50, H⟩ := H
  replace H : ((gristmilllaw06_of.f k t222 t223 t224).bind fun bt228 => ((gristmillref06_Of.f k t222 t223 t224).bind fun bt234 => ((gristmillref06_Same.f k bt228.1 bt228.2.1 bt228.2.2 bt234.1 bt234.2.1 bt234.2.2).bind fun t240 => (if t240 = true then ((agg_Value.f t222 t223 bt228.1 bt228.2.1 bt228.2.2).bind fun t241 => ((gristmillref06_Value.f t222 t223 bt234.1 bt234.2.1 bt234.2.2).bind fun t242 => (some (t241 == t242)))) else (some false))))) = some r := H
  have A5 := Aside0.mk A50
  clear A50
  replace H := Option.bind_eq_some_iff.mp H
  obtain ⟨⟨t228, t229, t230⟩, A60, H⟩ := H
  replace H : ((gristmillref06_Of.f k t222 t223 t224).bind fun bt234 => ((gristmillref06_Same.f k t228 t229 t230 bt234.1 bt234.2.1 bt234.2.2).bind fun t240 => (if t240 = true then ((agg_Value.f t222 t223 t228 t229 t230).bind fun t241 => ((gristmillref06_Value.f t222 t223 bt234.1 bt234.2.1 bt234.2.2).bind fun t242 => (some (t241 == t242)))) else (some false)))) = some r := H
  have A6 := Aside0.mk A60
  clear A60
  replace H := Option.bind_eq_some_iff.mp H
  obtain ⟨⟨t234, t235, t236⟩, A70, H⟩ := H
  replace H : ((gristmillref06_Same.f k t228 t229 t230 t234 t235 t236).bind fun t240 => (if t240 = true then ((agg_Value.f t222 t223 t228 t229 t230).bind fun t241 => ((gristmillref06_Value.f t222 t223 t234 t235 t236).bind fun t242 => (some (t241 == t242)))) else (some false))) = some r := H
  have A7 := Aside0.mk A70
  clear A70
  replace H := Option.bind_eq_some_iff.mp H
  obtain ⟨t240, A80, H⟩ := H
  replace H : (if t240 = true then ((agg_Value.f t222 t223 t228 t229 t230).bind fun t241 => ((gristmillref06_Value.f t222 t223 t234 t235 t236).bind fun t242 => (some (t241 == t242)))) else (some false)) = some r := H
  have A8 := Aside0.mk A80
  clear A80
  by_cases c9 : t240 = true
  ·subst c9
   have H1 : ((agg_Value.f t222 t223 t228 t229 t230).bind fun t241 => ((gristmillref06_Value.f t222 t223 t234 t235 t236).bind fun t242 => (some (t241 == t242)))) = some r := by rw [if_pos rfl] at H; exact H
   clear H
   have H := H1
   clear H1
   replace H := Option.bind_eq_some_iff.mp H
   obtain ⟨t241, A100, H⟩ := H
   replace H : ((gristmillref06_Value.f t222 t223 t234 t235 t236).bind fun t242 => (some (t241 == t242))) = some r := H
   have A10 := Aside0.mk A100
   clear A100
   replace H := Option.bind_eq_some_iff.mp H
   obtain ⟨t242, A110, H⟩ := H
   replace H : (some (t241 == t242)) = some r := H
   have A11 := Aside0.mk A110
   clear A110
   obtain rfl := Option.some.inj H
   go_enter Try.func3, Try.ntmps3
   try go_wp2_with (first | ((with_reducible refine gate_dst (N := 2) rfl ?_); refine bx_ (N := 2) (cs := #[.int .i64 a0_0, .int .i64 a0_1]) (t := 23) ?_; intro gb218 hg w12 hbox hb; have n0_ := Aside0.mk (below_step (bw_ HB.out) hb); have n1_ := Aside0.mk (hbox); have n2_ := Aside0.mk (sz_ hg (bw_ HB.out)); have n3_ := n2_; clear HB; have HB := n0_; have BK218 := n1_; have GW218 := n2_; have GE218 := n3_; clear n0_ n1_ n2_ n3_; clear hb hbox hg) | ((with_reducible refine gate_callee (f := 10) rfl ?_); refine goesL_ (some 10) rfl rfl Try.func10 (by kernel_rfl) rfl #[] rfl (by (try simp only [List.map_toArray, List.map_cons, List.map_nil]); first | done | rfl | (simp only [List.length_drop, List.length_take]; rfl)) ?_; (with_reducible refine (gristmilllaw06_awake.calls  true _ A3.out).mono ?_); rintro e w13 ⟨rfl, hb⟩; refine ⟨_, rfl, ?_⟩; have n0_ := Aside0.mk (blk_below (bk_ BK218.out) hb); have n1_ := Aside0.mk (below_step (bw_ HB.out) hb); clear BK218 HB; have BK218 := n0_; have HB := n1_; clear n0_ n1_; (try clear hb); (try clear hb2); (try clear hk); (try clear hi); have hcz14_0 : w13.cell? ⟨gb218, 0, none⟩ = some (.int .i64 a0_0) := (blk_cell BK218.out 0).trans rfl; have hcz14_1 : w13.cell? ⟨gb218, 1, none⟩ = some (.int .i64 a0_1) := (blk_cell BK218.out 1).trans rfl; have hfz14_0 := blk_frozen BK218.out 0; have hfz14_1 := blk_frozen BK218.out 1) | ((with_reducible refine gate_callee (f := 11) rfl ?_); refine goesL_ (some 16) rfl rfl Try.func11 (by kernel_rfl) rfl #[.agg #[.int .i64 a0_0, .int .i64 a0_1], .slice A1 l1.length c1] rfl (by (try simp only [List.map_toArray, List.map_cons, List.map_nil]); first | done | rfl | (simp only [List.length_drop, List.length_take]; rfl)) ?_; (with_reducible refine (gristmilllaw06_right.calls k a0_0 a0_1 _ _ l1 t220 t221 t222 t223 t224 _ ?side1 ?side2 A5.out).mono ?_); (case side1 => repeat (first | exact (Kd.C_below HR1.out HB.out) | (with_reducible refine Kd.C_alloc ?_ _) | (with_reducible refine Kd.C_drewN ?_ _) | (with_reducible refine Kd.C_drew ?_))); (case side2 => exact HC1.out); rintro e w15 ⟨v225, rfl, ho0, hb⟩; refine ⟨_, rfl, ?_⟩; have n0_ := Aside0.mk (Kd.S_lower ho0 (below_size (bw_ HB.out))); have n1_ := Aside0.mk (blk_below (bk_ BK218.out) hb); have n2_ := Aside0.mk (below_step (bw_ HB.out) hb); clear BK218 HB; have HO226 := n0_; have BK218 := n1_; have HB := n2_; clear n0_ n1_ n2_; (try clear hb); (try clear hb2); (try clear hk); (try clear hi); (try clear ho0)) | ((with_reducible refine gate_dst (N := 6) rfl ?_); refine bx_ (N := 6) (cs := #[.int .i64 0, .int .i64 0]) (t := 27) ?_; intro gb227 hg w16 hbox hb; have n0_ := Aside0.mk (Kd.S_below (by (with_reducible repeat (first | apply Kd.S_alloc | apply Kd.S_drewN | apply Kd.S_drew)); exact HO226.out) hb); have n1_ := Aside0.mk (blk_below (bk_ BK218.out) hb); have n2_ := Aside0.mk (below_step (bw_ HB.out) hb); have n3_ := Aside0.mk (hbox); have n4_ := Aside0.mk (sz_ hg (bw_ HB.out)); have n5_ := n4_; have n6_ := Aside0.mk (ne_ hg (blk_lt (bk_ BK218.out))); have n7_ := Aside0.mk n6_.out.symm; clear HO226 BK218 HB; have HO226 := n0_; have BK218 := n1_; have HB := n2_; have BK227 := n3_; have GW227 := n4_; have GE227 := n5_; have NB218_227 := n6_; have NB227_218 := n7_; clear n0_ n1_ n2_ n3_ n4_ n5_ n6_ n7_; clear hb hbox hg; have hnb17 := NB227_218.out; have hnc17 := NB218_227.out; have hcz18_0 : w16.cell? ⟨gb227, 0, none⟩ = some (.int .i64 0) := (blk_cell BK227.out 0).trans rfl; have hcz18_1 : w16.cell? ⟨gb227, 1, none⟩ = some (.int .i64 0) := (blk_cell BK227.out 1).trans rfl; have hfz18_0 := blk_frozen BK227.out 0; have hfz18_1 := blk_frozen BK227.out 1; have hcz19_0 : w16.cell? ⟨gb218, 0, none⟩ = some (.int .i64 a0_0) := (blk_cell BK218.out 0).trans rfl; have hcz19_1 : w16.cell? ⟨gb218, 1, none⟩ = some (.int .i64 a0_1) := (blk_cell BK218.out 1).trans rfl; have hfz19_0 := blk_frozen BK218.out 0; have hfz19_1 := blk_frozen BK218.out 1; obtain ⟨Ao20, co20, eo20⟩ := Kd.S_slice HO226.out; subst eo20) | ((with_reducible refine gate_callee (f := 12) rfl ?_); refine goesL_ (some 22) rfl rfl Try.func12 (by kernel_rfl) rfl #[.agg #[.int .i64 t222, .int .i64 t223], .slice Ao20 t224.length co20] rfl (by (try simp only [List.map_toArray, List.map_cons, List.map_nil]); first | done | rfl | (simp only [List.length_drop, List.length_take]; rfl)) ?_; (with_reducible refine (gristmilllaw06_of.calls k t222 t223 _ _ t224 t228 t229 t230 _ ?side1 ?side2 A6.out).mono ?_); (case side1 => refine (Kd.S_reads' (e := 44) (base := w.heap.size) (ok := fun k_ => True) (n := t224.length) (c := co20) ?_).2.2; exact (by (with_reducible repeat (first | apply Kd.S_alloc | apply Kd.S_drewN | apply Kd.S_drew)); exact (Kd.S_mono (Kd.S_mono (Kd.S_far (p := ⟨gb218, 1, none⟩) (Kd.S_far (p := ⟨gb218, 0, none⟩) (Kd.S_far (p := ⟨gb227, 1, none⟩) (Kd.S_far (p := ⟨gb227, 0, none⟩) (Kd.S_types (Kd.S_types HO226.out BK227.out (by decide)) BK218.out (by decide)) (fun _ hk => hk.1.2) (.int .i64 t220)) (fun _ hk => hk.1.2) (.int .i64 t221)) (fun _ hk => hk.2) (.int .i64 t222)) (fun _ hk => hk.2) (.int .i64 t223)) (fun _ h_ => h_.1)) (fun _ h_ => h_.1)))); (case side2 => exact (Kd.S_reads' HO226.out).2.1); rintro e w21 ⟨v231, rfl, ho0, hb⟩; refine ⟨_, rfl, ?_⟩; have n0_ := Aside0.mk (Kd.S_elder' (by (with_reducible repeat (first | apply Kd.S_alloc | apply Kd.S_drewN | apply Kd.S_drew)); exact (Kd.S_mono (Kd.S_mono (Kd.S_far (p := ⟨gb218, 1, none⟩) (Kd.S_far (p := ⟨gb218, 0, none⟩) (Kd.S_far (p := ⟨gb227, 1, none⟩) (Kd.S_far (p := ⟨gb227, 0, none⟩) (Kd.S_types (Kd.S_types HO226.out BK227.out (by decide)) BK218.out (by decide)) (fun _ hk => hk.1.2) (.int .i64 t220)) (fun _ hk => hk.1.2) (.int .i64 t221)) (fun _ hk => hk.2) (.int .i64 t222)) (fun _ hk => hk.2) (.int .i64 t223)) (fun _ h_ => h_.1)) (fun _ h_ => h_.1))) (Kd.R_base ho0) hb); have n1_ := Aside0.mk (Kd.R_lower ho0 (below_size (bw_ HB.out))); have n2_ := Aside0.mk (blk_below (g := gb218) (o := .cells #[.int .i64 t222, .int .i64 t223] 23 (0, 0)) (by (with_reducible repeat (first | refine blk_drewN ?_ _ | refine blk_drew ?_ | refine blk_alloc ?_ _)); refine blk_put (cs := #[.int .i64 t222, .int .i64 a0_1]) ?_ 1 _ rfl; (with_reducible repeat (first | refine blk_drewN ?_ _ | refine blk_drew ?_ | refine blk_alloc ?_ _)); refine blk_put (cs := #[.int .i64 a0_0, .int .i64 a0_1]) ?_ 0 _ rfl; (with_reducible repeat (first | refine blk_drewN ?_ _ | refine blk_drew ?_ | refine blk_alloc ?_ _)); refine blk_far ?_ NB218_227.out _; (with_reducible repeat (first | refine blk_drewN ?_ _ | refine blk_drew ?_ | refine blk_alloc ?_ _)); refine blk_far ?_ NB218_227.out _; (with_reducible repeat (first | refine blk_drewN ?_ _ | refine blk_drew ?_ | refine blk_alloc ?_ _)); exact BK218.out) hb); have n3_ := Aside0.mk (blk_below (g := gb227) (o := .cells #[.int .i64 t220, .int .i64 t221] 27 (0, 0)) (by (with_reducible repeat (first | refine blk_drewN ?_ _ | refine blk_drew ?_ | refine blk_alloc ?_ _)); refine blk_far ?_ NB227_218.out _; (with_reducible repeat (first | refine blk_drewN ?_ _ | refine blk_drew ?_ | refine blk_alloc ?_ _)); refine blk_far ?_ NB227_218.out _; (with_reducible repeat (first | refine blk_drewN ?_ _ | refine blk_drew ?_ | refine blk_alloc ?_ _)); refine blk_put (cs := #[.int .i64 t220, .int .i64 0]) ?_ 1 _ rfl; (with_reducible repeat (first | refine blk_drewN ?_ _ | refine blk_drew ?_ | refine blk_alloc ?_ _)); refine blk_put (cs := #[.int .i64 0, .int .i64 0]) ?_ 0 _ rfl; (with_reducible repeat (first | refine blk_drewN ?_ _ | refine blk_drew ?_ | refine blk_alloc ?_ _)); exact BK227.out) hb); have n4_ := Aside0.mk (below_step (bw_ HB.out) hb); clear HO226 BK218 BK227 HB; have HO226 := n0_; have HO232 := n1_; have BK218 := n2_; have BK227 := n3_; have HB := n4_; clear n0_ n1_ n2_ n3_ n4_; (try clear hb); (try clear hb2); (try clear hk); (try clear hi); (try clear ho0)) | ((with_reducible refine gate_dst (N := 8) rfl ?_); refine bx_ (N := 8) (cs := #[.int .u64 0, .int .i64 0, .slice none 0 0]) (t := 33) ?_; intro gb233 hg w22 hbox hb; have n0_ := Aside0.mk (Kd.S_below (by (with_reducible repeat (first | apply Kd.S_alloc | apply Kd.S_drewN | apply Kd.S_drew)); exact HO226.out) hb); have n1_ := Aside0.mk (Kd.R_below (by (with_reducible repeat (first | apply Kd.R_alloc | apply Kd.R_drewN | apply Kd.R_drew)); exact HO232.out) hb); have n2_ := Aside0.mk (blk_below (bk_ BK218.out) hb); have n3_ := Aside0.mk (blk_below (bk_ BK227.out) hb); have n4_ := Aside0.mk (below_step (bw_ HB.out) hb); have n5_ := Aside0.mk (hbox); have n6_ := Aside0.mk (sz_ hg (bw_ HB.out)); have n7_ := n6_; have n8_ := Aside0.mk (ne_ hg (blk_lt (bk_ BK218.out))); have n9_ := Aside0.mk n8_.out.symm; have n10_ := Aside0.mk (ne_ hg (blk_lt (bk_ BK227.out))); have n11_ := Aside0.mk n10_.out.symm; clear HO226 HO232 BK218 BK227 HB; have HO226 := n0_; have HO232 := n1_; have BK218 := n2_; have BK227 := n3_; have HB := n4_; have BK233 := n5_; have GW233 := n6_; have GE233 := n7_; have NB218_233 := n8_; have NB233_218 := n9_; have NB227_233 := n10_; have NB233_227 := n11_; clear n0_ n1_ n2_ n3_ n4_ n5_ n6_ n7_ n8_ n9_ n10_ n11_; clear hb hbox hg; have hnb23 := NB233_218.out; have hnc23 := NB218_233.out; have hnb24 := NB233_227.out; have hnc24 := NB227_233.out; have hcz25_0 : w22.cell? ⟨gb233, 0, none⟩ = some (.int .u64 0) := (blk_cell BK233.out 0).trans rfl; have hcz25_1 : w22.cell? ⟨gb233, 1, none⟩ = some (.int .i64 0) := (blk_cell BK233.out 1).trans rfl; have hcz25_2 : w22.cell? ⟨gb233, 2, none⟩ = some (.slice none 0 0) := (blk_cell BK233.out 2).trans rfl; have hfz25_0 := blk_frozen BK233.out 0; have hfz25_1 := blk_frozen BK233.out 1; have hfz25_2 := blk_frozen BK233.out 2; obtain ⟨Ao26, co26, eo26⟩ := Kd.R_slice HO232.out; subst eo26; have hcz27_0 : w22.cell? ⟨gb218, 0, none⟩ = some (.int .i64 t222) := (blk_cell BK218.out 0).trans rfl; have hcz27_1 : w22.cell? ⟨gb218, 1, none⟩ = some (.int .i64 t223) := (blk_cell BK218.out 1).trans rfl; have hfz27_0 := blk_frozen BK218.out 0; have hfz27_1 := blk_frozen BK218.out 1) | ((with_reducible refine gate_callee (f := 13) rfl ?_); refine goesL_ (some 25) rfl rfl Try.func13 (by kernel_rfl) rfl #[.agg #[.int .i64 t222, .int .i64 t223], .slice Ao20 t224.length co20] rfl (by (try simp only [List.map_toArray, List.map_cons, List.map_nil]); first | done | rfl | (simp only [List.length_drop, List.length_take]; rfl)) ?_; (with_reducible refine (gristmillref06_Of.calls k t222 t223 _ _ t224 t234 t235 t236 _ ?side1 ?side2 A7.out).mono ?_); (case side1 => refine (Kd.S_reads' (e := 44) (base := w.heap.size) (ok := fun k_ => (True ∧ some k_ ≠ (.slice Ao26 t230.length co26 : Value).ownBlock)) (n := t224.length) (c := co20) ?_).2.2; exact (by (with_reducible repeat (first | apply Kd.S_alloc | apply Kd.S_drewN | apply Kd.S_drew)); exact (Kd.S_mono (Kd.S_far (p := ⟨gb233, 2, none⟩) (Kd.S_far (p := ⟨gb233, 1, none⟩) (Kd.S_far (p := ⟨gb233, 0, none⟩) (Kd.S_types HO226.out BK233.out (by decide)) (fun _ hk => hk.2) (.int .u64 t228)) (fun _ hk => hk.2) (.int .i64 t229)) (fun _ hk => hk.2) (.slice Ao26 t230.length co26)) (fun _ h_ => h_.1)))); (case side2 => exact (Kd.S_reads' HO226.out).2.1); rintro e w28 ⟨v237, rfl, ho0, hb⟩; refine ⟨_, rfl, ?_⟩; have n0_ := Aside0.mk (Kd.S_elder' (by (with_reducible repeat (first | apply Kd.S_alloc | apply Kd.S_drewN | apply Kd.S_drew)); exact (Kd.S_mono (Kd.S_far (p := ⟨gb233, 2, none⟩) (Kd.S_far (p := ⟨gb233, 1, none⟩) (Kd.S_far (p := ⟨gb233, 0, none⟩) (Kd.S_types HO226.out BK233.out (by decide)) (fun _ hk => hk.2) (.int .u64 t228)) (fun _ hk => hk.2) (.int .i64 t229)) (fun _ hk => hk.2) (.slice Ao26 t230.length co26)) (fun _ h_ => h_.1))) (Kd.R_base ho0) hb); have n1_ := Aside0.mk (Kd.R_elder' (by (with_reducible repeat (first | apply Kd.R_alloc | apply Kd.R_drewN | apply Kd.R_drew)); exact (Kd.R_mono (Kd.R_far (p := ⟨gb233, 2, none⟩) (Kd.R_far (p := ⟨gb233, 1, none⟩) (Kd.R_far (p := ⟨gb233, 0, none⟩) (Kd.R_types HO232.out BK233.out (by decide)) (fun _ hk => hk.2) (.int .u64 t228)) (fun _ hk => hk.2) (.int .i64 t229)) (fun _ hk => hk.2) (.slice Ao26 t230.length co26)) (fun _ h_ => h_.1))) (Kd.R_base ho0) hb); have n2_ := Aside0.mk (Kd.R_lower (Kd.R_new' ho0 (Kd.R_lt (by (with_reducible repeat (first | apply Kd.R_alloc | apply Kd.R_drewN | apply Kd.R_drew)); exact (Kd.R_mono (Kd.R_far (p := ⟨gb233, 2, none⟩) (Kd.R_far (p := ⟨gb233, 1, none⟩) (Kd.R_far (p := ⟨gb233, 0, none⟩) (Kd.R_types HO232.out BK233.out (by decide)) (fun _ hk => hk.2) (.int .u64 t228)) (fun _ hk => hk.2) (.int .i64 t229)) (fun _ hk => hk.2) (.slice Ao26 t230.length co26)) (fun _ h_ => h_.1))))) (below_size (bw_ HB.out))); have n3_ := Aside0.mk (blk_below (g := gb218) (o := .cells #[.int .i64 t222, .int .i64 t223] 23 (0, 0)) (by (with_reducible repeat (first | refine blk_drewN ?_ _ | refine blk_drew ?_ | refine blk_alloc ?_ _)); refine blk_far ?_ NB218_233.out _; (with_reducible repeat (first | refine blk_drewN ?_ _ | refine blk_drew ?_ | refine blk_alloc ?_ _)); refine blk_far ?_ NB218_233.out _; (with_reducible repeat (first | refine blk_drewN ?_ _ | refine blk_drew ?_ | refine blk_alloc ?_ _)); refine blk_far ?_ NB218_233.out _; (with_reducible repeat (first | refine blk_drewN ?_ _ | refine blk_drew ?_ | refine blk_alloc ?_ _)); exact BK218.out) hb); have n4_ := Aside0.mk (blk_below (g := gb227) (o := .cells #[.int .i64 t220, .int .i64 t221] 27 (0, 0)) (by (with_reducible repeat (first | refine blk_drewN ?_ _ | refine blk_drew ?_ | refine blk_alloc ?_ _)); refine blk_far ?_ NB227_233.out _; (with_reducible repeat (first | refine blk_drewN ?_ _ | refine blk_drew ?_ | refine blk_alloc ?_ _)); refine blk_far ?_ NB227_233.out _; (with_reducible repeat (first | refine blk_drewN ?_ _ | refine blk_drew ?_ | refine blk_alloc ?_ _)); refine blk_far ?_ NB227_233.out _; (with_reducible repeat (first | refine blk_drewN ?_ _ | refine blk_drew ?_ | refine blk_alloc ?_ _)); exact BK227.out) hb); have n5_ := Aside0.mk (blk_below (g := gb233) (o := .cells #[.int .u64 t228, .int .i64 t229, .slice Ao26 t230.length co26] 33 (0, 0)) (by (with_reducible repeat (first | refine blk_drewN ?_ _ | refine blk_drew ?_ | refine blk_alloc ?_ _)); refine blk_put (cs := #[.int .u64 t228, .int .i64 t229, .slice none 0 0]) ?_ 2 _ rfl; (with_reducible repeat (first | refine blk_drewN ?_ _ | refine blk_drew ?_ | refine blk_alloc ?_ _)); refine blk_put (cs := #[.int .u64 t228, .int .i64 0, .slice none 0 0]) ?_ 1 _ rfl; (with_reducible repeat (first | refine blk_drewN ?_ _ | refine blk_drew ?_ | refine blk_alloc ?_ _)); refine blk_put (cs := #[.int .u64 0, .int .i64 0, .slice none 0 0]) ?_ 0 _ rfl; (with_reducible repeat (first | refine blk_drewN ?_ _ | refine blk_drew ?_ | refine blk_alloc ?_ _)); exact BK233.out) hb); have n6_ := Aside0.mk (below_step (bw_ HB.out) hb); clear HO226 HO232 BK218 BK227 BK233 HB; have HO226 := n0_; have HO232 := n1_; have HO238 := n2_; have BK218 := n3_; have BK227 := n4_; have BK233 := n5_; have HB := n6_; clear n0_ n1_ n2_ n3_ n4_ n5_ n6_; (try clear hb); (try clear hb2); (try clear hk); (try clear hi); (try clear ho0)) | ((with_reducible refine gate_dst (N := 9) rfl ?_); refine bx_ (N := 9) (cs := #[.int .u64 0, .int .i64 0, .slice none 0 0]) (t := 33) ?_; intro gb239 hg w29 hbox hb; have n0_ := Aside0.mk (Kd.S_below (by (with_reducible repeat (first | apply Kd.S_alloc | apply Kd.S_drewN | apply Kd.S_drew)); exact HO226.out) hb); have n1_ := Aside0.mk (Kd.R_below (by (with_reducible repeat (first | apply Kd.R_alloc | apply Kd.R_drewN | apply Kd.R_drew)); exact HO232.out) hb); have n2_ := Aside0.mk (Kd.R_below (by (with_reducible repeat (first | apply Kd.R_alloc | apply Kd.R_drewN | apply Kd.R_drew)); exact HO238.out) hb); have n3_ := Aside0.mk (blk_below (bk_ BK218.out) hb); have n4_ := Aside0.mk (blk_below (bk_ BK227.out) hb); have n5_ := Aside0.mk (blk_below (bk_ BK233.out) hb); have n6_ := Aside0.mk (below_step (bw_ HB.out) hb); have n7_ := Aside0.mk (hbox); have n8_ := Aside0.mk (sz_ hg (bw_ HB.out)); have n9_ := n8_; have n10_ := Aside0.mk (ne_ hg (blk_lt (bk_ BK218.out))); have n11_ := Aside0.mk n10_.out.symm; have n12_ := Aside0.mk (ne_ hg (blk_lt (bk_ BK227.out))); have n13_ := Aside0.mk n12_.out.symm; have n14_ := Aside0.mk (ne_ hg (blk_lt (bk_ BK233.out))); have n15_ := Aside0.mk n14_.out.symm; clear HO226 HO232 HO238 BK218 BK227 BK233 HB; have HO226 := n0_; have HO232 := n1_; have HO238 := n2_; have BK218 := n3_; have BK227 := n4_; have BK233 := n5_; have HB := n6_; have BK239 := n7_; have GW239 := n8_; have GE239 := n9_; have NB218_239 := n10_; have NB239_218 := n11_; have NB227_239 := n12_; have NB239_227 := n13_; have NB233_239 := n14_; have NB239_233 := n15_; clear n0_ n1_ n2_ n3_ n4_ n5_ n6_ n7_ n8_ n9_ n10_ n11_ n12_ n13_ n14_ n15_; clear hb hbox hg; have hnb30 := NB239_218.out; have hnc30 := NB218_239.out; have hnb31 := NB239_227.out; have hnc31 := NB227_239.out; have hnb32 := NB239_233.out; have hnc32 := NB233_239.out; have hcz33_0 : w29.cell? ⟨gb239, 0, none⟩ = some (.int .u64 0) := (blk_cell BK239.out 0).trans rfl; have hcz33_1 : w29.cell? ⟨gb239, 1, none⟩ = some (.int .i64 0) := (blk_cell BK239.out 1).trans rfl; have hcz33_2 : w29.cell? ⟨gb239, 2, none⟩ = some (.slice none 0 0) := (blk_cell BK239.out 2).trans rfl; have hfz33_0 := blk_frozen BK239.out 0; have hfz33_1 := blk_frozen BK239.out 1; have hfz33_2 := blk_frozen BK239.out 2; obtain ⟨Ao34, co34, eo34⟩ := Kd.R_slice HO238.out; subst eo34))
   have n0_ : Aside0 (Kd.S k44 44 (((w29.setCell ⟨gb239, 0, none⟩ (.int .u64 t234)).setCell ⟨gb239, 1, none⟩ (.int .i64 t235)).setCell ⟨gb239, 2, none⟩ (.slice Ao34 t236.length co34)) w.heap.size (fun k_ => some k_ ≠ (.slice Ao26 t230.length co26 : Value).ownBlock ∧ some k_ ≠ (.slice Ao34 t236.length co34 : Value).ownBlock) (.slice Ao20 t224.length co20) t224) := ⟨by (with_reducible repeat (first | apply Kd.S_alloc | apply Kd.S_drewN | apply Kd.S_drew)); exact Kd.S_mono (Kd.S_far (p := ⟨gb239, 2, none⟩) (Kd.S_far (p := ⟨gb239, 1, none⟩) (Kd.S_far (p := ⟨gb239, 0, none⟩) (Kd.S_types HO226.out BK239.out (by decide)) (fun _ hk => hk.2) (.int .u64 t234)) (fun _ hk => hk.2) (.int .i64 t235)) (fun _ hk => hk.2) (.slice Ao34 t236.length co34)) (fun _ hk => ⟨hk.1.1.2, hk.1.2⟩)⟩
   have n1_ : Aside0 (Kd.R Kd.string 9 (((w29.setCell ⟨gb239, 0, none⟩ (.int .u64 t234)).setCell ⟨gb239, 1, none⟩ (.int .i64 t235)).setCell ⟨gb239, 2, none⟩ (.slice Ao34 t236.length co34)) w.heap.size (fun k_ => some k_ ≠ (.slice Ao34 t236.length co34 : Value).ownBlock) (.slice Ao26 t230.length co26) t230) := ⟨by (with_reducible repeat (first | apply Kd.R_alloc | apply Kd.R_drewN | apply Kd.R_drew)); exact Kd.R_mono (Kd.R_far (p := ⟨gb239, 2, none⟩) (Kd.R_far (p := ⟨gb239, 1, none⟩) (Kd.R_far (p := ⟨gb239, 0, none⟩) (Kd.R_types HO232.out BK239.out (by decide)) (fun _ hk => hk.2) (.int .u64 t234)) (fun _ hk => hk.2) (.int .i64 t235)) (fun _ hk => hk.2) (.slice Ao34 t236.length co34)) (fun _ hk => hk.1.2)⟩
   have n2_ : Aside0 (Kd.R Kd.string 9 (((w29.setCell ⟨gb239, 0, none⟩ (.int .u64 t234)).setCell ⟨gb239, 1, none⟩ (.int .i64 t235)).setCell ⟨gb239, 2, none⟩ (.slice Ao34 t236.length co34)) w.heap.size (fun k_ => some k_ ≠ (.slice Ao26 t230.length co26 : Value).ownBlock) (.slice Ao34 t236.length co34) t236) := ⟨by (with_reducible repeat (first | apply Kd.R_alloc | apply Kd.R_drewN | apply Kd.R_drew)); exact Kd.R_mono (Kd.R_far (p := ⟨gb239, 2, none⟩) (Kd.R_far (p := ⟨gb239, 1, none⟩) (Kd.R_far (p := ⟨gb239, 0, none⟩) (Kd.R_types HO238.out BK239.out (by decide)) (fun _ hk => hk.2) (.int .u64 t234)) (fun _ hk => hk.2) (.int .i64 t235)) (fun _ hk => hk.2) (.slice Ao34 t236.length co34)) (fun _ hk => hk.1.2)⟩
   have n3_ : Aside0 ((((w29.setCell ⟨gb239, 0, none⟩ (.int .u64 t234)).setCell ⟨gb239, 1, none⟩ (.int .i64 t235)).setCell ⟨gb239, 2, none⟩ (.slice Ao34 t236.length co34)).heap[gb218]? = some (.cells #[.int .i64 t222, .int .i64 t223] 23 (0, 0))) := ⟨by (with_reducible repeat (first | refine blk_drewN ?_ _ | refine blk_drew ?_ | refine blk_alloc ?_ _)); refine blk_far ?_ NB218_239.out _; (with_reducible repeat (first | refine blk_drewN ?_ _ | refine blk_drew ?_ | refine blk_alloc ?_ _)); refine blk_far ?_ NB218_239.out _; (with_reducible repeat (first | refine blk_drewN ?_ _ | refine blk_drew ?_ | refine blk_alloc ?_ _)); refine blk_far ?_ NB218_239.out _; (with_reducible repeat (first | refine blk_drewN ?_ _ | refine blk_drew ?_ | refine blk_alloc ?_ _)); exact BK218.out⟩
   have n4_ : Aside0 ((((w29.setCell ⟨gb239, 0, none⟩ (.int .u64 t234)).setCell ⟨gb239, 1, none⟩ (.int .i64 t235)).setCell ⟨gb239, 2, none⟩ (.slice Ao34 t236.length co34)).heap[gb227]? = some (.cells #[.int .i64 t220, .int .i64 t221] 27 (0, 0))) := ⟨by (with_reducible repeat (first | refine blk_drewN ?_ _ | refine blk_drew ?_ | refine blk_alloc ?_ _)); refine blk_far ?_ NB227_239.out _; (with_reducible repeat (first | refine blk_drewN ?_ _ | refine blk_drew ?_ | refine blk_alloc ?_ _)); refine blk_far ?_ NB227_239.out _; (with_reducible repeat (first | refine blk_drewN ?_ _ | refine blk_drew ?_ | refine blk_alloc ?_ _)); refine blk_far ?_ NB227_239.out _; (with_reducible repeat (first | refine blk_drewN ?_ _ | refine blk_drew ?_ | refine blk_alloc ?_ _)); exact BK227.out⟩
   have n5_ : Aside0 ((((w29.setCell ⟨gb239, 0, none⟩ (.int .u64 t234)).setCell ⟨gb239, 1, none⟩ (.int .i64 t235)).setCell ⟨gb239, 2, none⟩ (.slice Ao34 t236.length co34)).heap[gb233]? = some (.cells #[.int .u64 t228, .int .i64 t229, .slice Ao26 t230.length co26] 33 (0, 0))) := ⟨by (with_reducible repeat (first | refine blk_drewN ?_ _ | refine blk_drew ?_ | refine blk_alloc ?_ _)); refine blk_far ?_ NB233_239.out _; (with_reducible repeat (first | refine blk_drewN ?_ _ | refine blk_drew ?_ | refine blk_alloc ?_ _)); refine blk_far ?_ NB233_239.out _; (with_reducible repeat (first | refine blk_drewN ?_ _ | refine blk_drew ?_ | refine blk_alloc ?_ _)); refine blk_far ?_ NB233_239.out _; (with_reducible repeat (first | refine blk_drewN ?_ _ | refine blk_drew ?_ | refine blk_alloc ?_ _)); exact BK233.out⟩
   have n6_ : Aside0 ((((w29.setCell ⟨gb239, 0, none⟩ (.int .u64 t234)).setCell ⟨gb239, 1, none⟩ (.int .i64 t235)).setCell ⟨gb239, 2, none⟩ (.slice Ao34 t236.length co34)).heap[gb239]? = some (.cells #[.int .u64 t234, .int .i64 t235, .slice Ao34 t236.length co34] 33 (0, 0))) := ⟨by (with_reducible repeat (first | refine blk_drewN ?_ _ | refine blk_drew ?_ | refine blk_alloc ?_ _)); refine blk_put (cs := #[.int .u64 t234, .int .i64 t235, .slice none 0 0]) ?_ 2 _ rfl; (with_reducible repeat (first | refine blk_drewN ?_ _ | refine blk_drew ?_ | refine blk_alloc ?_ _)); refine blk_put (cs := #[.int .u64 t234, .int .i64 0, .slice none 0 0]) ?_ 1 _ rfl; (with_reducible repeat (first | refine blk_drewN ?_ _ | refine blk_drew ?_ | refine blk_alloc ?_ _)); refine blk_put (cs := #[.int .u64 0, .int .i64 0, .slice none 0 0]) ?_ 0 _ rfl; (with_reducible repeat (first | refine blk_drewN ?_ _ | refine blk_drew ?_ | refine blk_alloc ?_ _)); exact BK239.out⟩
   have n7_ : Aside0 (Below w.heap.size w (((w29.setCell ⟨gb239, 0, none⟩ (.int .u64 t234)).setCell ⟨gb239, 1, none⟩ (.int .i64 t235)).setCell ⟨gb239, 2, none⟩ (.slice Ao34 t236.length co34))) := ⟨by repeat (first | (with_reducible first | exact HB.out | apply below_alloc | apply pw_below_drewN | apply below_drew1 | refine below_set ?_ GE218.out | refine below_set ?_ GE227.out | refine below_set ?_ GE233.out | refine below_set ?_ GE239.out) | exact HB.out)⟩
   (try clear HO226)
   (try clear HO232)
   (try clear HO238)
   (try clear BK218)
   (try clear BK227)
   (try clear BK233)
   (try clear BK239)
   (try clear HB)
   generalize (((w29.setCell ⟨gb239, 0, none⟩ (.int .u64 t234)).setCell ⟨gb239, 1, none⟩ (.int .i64 t235)).setCell ⟨gb239, 2, none⟩ (.slice Ao34 t236.length co34)) = w35 at n0_ n1_ n2_ n3_ n4_ n5_ n6_ n7_ ⊢
   have HO226 := n0_
   have HO232 := n1_
   have HO238 := n2_
   have BK218 := n3_
   have BK227 := n4_
   have BK233 := n5_
   have BK239 := n6_
   have HB := n7_
   clear n0_ n1_ n2_ n3_ n4_ n5_ n6_ n7_
   have n0_ := Aside0.mk (Kd.S_drew HO226.out)
   have n1_ := Aside0.mk (Kd.R_drew HO232.out)
   have n2_ := Aside0.mk (Kd.R_drew HO238.out)
   have n3_ := Aside0.mk (blk_drew BK218.out)
   have n4_ := Aside0.mk (blk_drew BK227.out)
   have n5_ := Aside0.mk (blk_drew BK233.out)
   have n6_ := Aside0.mk (blk_drew BK239.out)
   have n7_ := Aside0.mk (below_drew1 HB.out)
   clear HO226
   clear HO232
   clear HO238
   clear BK218
   clear BK227
   clear BK233
   clear BK239
   clear HB
   have HO226 := n0_
   have HO232 := n1_
   have HO238 := n2_
   have BK218 := n3_
   have BK227 := n4_
   have BK233 := n5_
   have BK239 := n6_
   have HB := n7_
   clear n0_ n1_ n2_ n3_ n4_ n5_ n6_ n7_
   refine start_ (n := 13) (S := fun w' => w'.cell? ⟨gb233, 0, none⟩ = some (.int .u64 t228) ∧ w'.cell? ⟨gb233, 1, none⟩ = some (.int .i64 t229) ∧ w'.cell? ⟨gb233, 2, none⟩ = some (.slice Ao26 t230.length co26) ∧ w'.cell? ⟨gb239, 0, none⟩ = some (.int .u64 t234) ∧ w'.cell? ⟨gb239, 1, none⟩ = some (.int .i64 t235) ∧ w'.cell? ⟨gb239, 2, none⟩ = some (.slice Ao34 t236.length co34) ∧ w'.cell? ⟨gb218, 0, none⟩ = some (.int .i64 t222) ∧ w'.cell? ⟨gb218, 1, none⟩ = some (.int .i64 t223)) (ds := []) #[false, false, false, false, false, false, false, false, false, false, false, false, false] (by kernel_rfl) rfl rfl ⟨(blk_cell BK233.out 0).trans rfl, (blk_cell BK233.out 1).trans rfl, (blk_cell BK233.out 2).trans rfl, (blk_cell BK239.out 0).trans rfl, (blk_cell BK239.out 1).trans rfl, (blk_cell BK239.out 2).trans rfl, (blk_cell BK218.out 0).trans rfl, (blk_cell BK218.out 1).trans rfl⟩ (fun hHeld => ?_); refine with_tabW gristmilllaw06_AggCounts.tab7 gristmilllaw06_AggCounts.bits7 (fun HT_ HW_ => ?_)
   generalize w35.drew = w36 at HO226 HO232 HO238 BK218 BK227 BK233 BK239 HB hHeld ⊢
   refine take_ (i := 0) (N := some 26) (v := ?_) (a' := ?_) #[true, false, false, false, false, false, false, false, false, false, false, false, false] rfl rfl (take_ofW HT_.out HW_.out (by kernel_rfl)) (fun _ _ _ h => h) (Or.inl ⟨by rfl, ?_⟩) hHeld ?_ ?_
   rotate_left
   ·rintro w' ⟨s0, s1, s2, s3, s4, s5, s6, s7⟩
    go_simp
    with_reducible rfl
   rotate_left
   ·simp only [Act.put, q1_, q2_, q3_, i64_w, i32_w]
    rfl
   refine take_ (i := 1) (N := some 27) (v := ?_) (a' := ?_) #[true, true, false, false, false, false, false, false, false, false, false, false, false] rfl rfl (take_ofW HT_.out HW_.out (by kernel_rfl)) (fun _ _ _ h => h) (Or.inl ⟨by rfl, ?_⟩) hHeld ?_ ?_
   rotate_left
   ·rintro w' ⟨s0, s1, s2, s3, s4, s5, s6, s7⟩
    go_simp
    with_reducible rfl
   rotate_left
   ·simp only [Act.put, q1_, q2_, q3_, i64_w, i32_w]
    rfl
   refine one_ (i := 2) (N := some 28) #[true, true, true, false, false, false, false, false, false, false, false, false, false] rfl rfl (one_of HT_.out (by kernel_rfl)) (by decide) (fun K hK => ?_)
   refine goes_ Try.func14 (by kernel_rfl) rfl #[.agg #[.int .u64 t228, .int .i64 t229, .slice Ao26 t230.length co26], .agg #[.int .u64 t234, .int .i64 t235, .slice Ao34 t236.length co34]] (by rfl) rfl rfl (by (try simp only [List.map_toArray, List.map_cons, List.map_nil]); first | done | rfl | (simp only [List.length_drop, List.length_take]; rfl)) ?_
   with_reducible refine (gristmillref06_Same.calls k t228 t229 _ _ t230 t234 t235 _ _ t236 true _ ?side1 ?side2 ?side3 ?side4 A8.out).mono ?_
   (case side1 => repeat (first | exact (Kd.R_reads' HO232.out).2.2 | (with_reducible refine Kd.C_alloc ?_ _) | (with_reducible refine Kd.C_drewN ?_ _) | (with_reducible refine Kd.C_drew ?_)))
   (case side2 => exact (Kd.R_reads' HO232.out).2.1)
   (case side3 => repeat (first | exact (Kd.R_reads' HO238.out).2.2 | (with_reducible refine Kd.C_alloc ?_ _) | (with_reducible refine Kd.C_drewN ?_ _) | (with_reducible refine Kd.C_drew ?_)))
   (case side4 => exact (Kd.R_reads' HO238.out).2.1)
   rintro e w37 ⟨rfl, hb⟩
   refine ⟨_, rfl, ?_⟩
   have n0_ := Aside0.mk (Kd.S_below (by (with_reducible repeat (first | apply Kd.S_alloc | apply Kd.S_drewN | apply Kd.S_drew)); exact HO226.out) hb)
   have n1_ := Aside0.mk (Kd.R_below (by (with_reducible repeat (first | apply Kd.R_alloc | apply Kd.R_drewN | apply Kd.R_drew)); exact HO232.out) hb)
   have n2_ := Aside0.mk (Kd.R_below (by (with_reducible repeat (first | apply Kd.R_alloc | apply Kd.R_drewN | apply Kd.R_drew)); exact HO238.out) hb)
   have n3_ := Aside0.mk (blk_below (bk_ BK218.out) hb)
   have n4_ := Aside0.mk (blk_below (bk_ BK227.out) hb)
   have n5_ := Aside0.mk (blk_below (bk_ BK233.out) hb)
   have n6_ := Aside0.mk (blk_below (bk_ BK239.out) hb)
   have n7_ := Aside0.mk (below_step (bw_ HB.out) hb)
   clear HO226
   clear HO232
   clear HO238
   clear BK218
   clear BK227
   clear BK233
   clear BK239
   clear HB
   have HO226 := n0_
   have HO232 := n1_
   have HO238 := n2_
   have BK218 := n3_
   have BK227 := n4_
   have BK233 := n5_
   have BK239 := n6_
   have HB := n7_
   clear n0_ n1_ n2_ n3_ n4_ n5_ n6_ n7_
   (try clear hb)
   (try clear hb2)
   (try clear hk)
   (try clear hi)
   refine hK.out _ _ ⟨(blk_cell BK233.out 0).trans rfl, (blk_cell BK233.out 1).trans rfl, (blk_cell BK233.out 2).trans rfl, (blk_cell BK239.out 0).trans rfl, (blk_cell BK239.out 1).trans rfl, (blk_cell BK239.out 2).trans rfl, (blk_cell BK218.out 0).trans rfl, (blk_cell BK218.out 1).trans rfl⟩ (fun hHeld => ?_)
   clear hK K
   refine norm_ (a' := ?_) ?_ ?_
   rotate_left
   ·show Act.put _ (some 28) _ = _
    simp only [Act.put, q1_, q2_, q3_, i64_w, i32_w]
    rfl
   refine pure_ (i := 3) (N := some 29) (v := ?_) (a' := ?_) #[true, true, true, true, false, false, false, false, false, false, false, false, false] rfl rfl (any_of HT_.out (by kernel_rfl)) (fun _ _ _ h => h) (Or.inl ⟨by rfl, ?_⟩) ?_ ?_
   rotate_left
   ·intro w'
    go_simp
    with_reducible rfl
   rotate_left
   ·simp only [Act.put, q1_, q2_, q3_, i64_w, i32_w]
    rfl
   refine take_ (i := 4) (N := some 30) (v := ?_) (a' := ?_) #[true, true, true, true, true, false, false, false, false, false, false, false, false] rfl rfl (take_ofW HT_.out HW_.out (by kernel_rfl)) (fun _ _ _ h => h) (Or.inl ⟨by rfl, ?_⟩) hHeld ?_ ?_
   rotate_left
   ·rintro w' ⟨s0, s1, s2, s3, s4, s5, s6, s7⟩
    go_simp
    with_reducible rfl
   rotate_left
   ·simp only [Act.put, q1_, q2_, q3_, i64_w, i32_w]
    rfl
   refine take_ (i := 5) (N := some 31) (v := ?_) (a' := ?_) #[true, true, true, true, true, true, false, false, false, false, false, false, false] rfl rfl (take_ofW HT_.out HW_.out (by kernel_rfl)) (fun _ _ _ h => h) (Or.inl ⟨by rfl, ?_⟩) hHeld ?_ ?_
   rotate_left
   ·rintro w' ⟨s0, s1, s2, s3, s4, s5, s6, s7⟩
    go_simp
    with_reducible rfl
   rotate_left
   ·simp only [Act.put, q1_, q2_, q3_, i64_w, i32_w]
    rfl
   refine take_ (i := 7) (N := some 33) (v := ?_) (a' := ?_) #[true, true, true, true, true, true, false, true, false, false, false, false, false] rfl rfl (take_ofW HT_.out HW_.out (by kernel_rfl)) (fun _ _ _ h => h) (Or.inl ⟨by rfl, ?_⟩) hHeld ?_ ?_
   rotate_left
   ·rintro w' ⟨s0, s1, s2, s3, s4, s5, s6, s7⟩
    go_simp
    with_reducible rfl
   rotate_left
   ·simp only [Act.put, q1_, q2_, q3_, i64_w, i32_w]
    rfl
   refine take_ (i := 8) (N := some 34) (v := ?_) (a' := ?_) #[true, true, true, true, true, true, false, true, true, false, false, false, false] rfl rfl (take_ofW HT_.out HW_.out (by kernel_rfl)) (fun _ _ _ h => h) (Or.inl ⟨by rfl, ?_⟩) hHeld ?_ ?_
   rotate_left
   ·rintro w' ⟨s0, s1, s2, s3, s4, s5, s6, s7⟩
    go_simp
    with_reducible rfl
   rotate_left
   ·simp only [Act.put, q1_, q2_, q3_, i64_w, i32_w]
    rfl
   refine one_ (i := 6) (N := some 32) #[true, true, true, true, true, true, true, true, true, false, false, false, false] rfl rfl (one_of HT_.out (by kernel_rfl)) (by decide) (fun K hK => ?_)
   refine goes_ Try.func15 (by kernel_rfl) rfl #[.agg #[.int .i64 t222, .int .i64 t223], .agg #[.int .u64 t228, .int .i64 t229, .slice Ao26 t230.length co26]] (by rfl) rfl rfl (by (try simp only [List.map_toArray, List.map_cons, List.map_nil]); first | done | rfl | (simp only [List.length_drop, List.length_take]; rfl)) ?_
   with_reducible refine (agg_Value.calls t222 t223 t228 t229 _ _ t230 t241 _ ?side1 ?side2 A10.out).mono ?_
   (case side1 => repeat (first | exact (Kd.R_reads' HO232.out).2.2 | (with_reducible refine Kd.C_alloc ?_ _) | (with_reducible refine Kd.C_drewN ?_ _) | (with_reducible refine Kd.C_drew ?_)))
   (case side2 => exact (Kd.R_reads' HO232.out).2.1)
   rintro e w38 ⟨rfl, hb⟩
   refine ⟨_, rfl, ?_⟩
   have n0_ := Aside0.mk (Kd.S_below (by (with_reducible repeat (first | apply Kd.S_alloc | apply Kd.S_drewN | apply Kd.S_drew)); exact HO226.out) hb)
   have n1_ := Aside0.mk (Kd.R_below (by (with_reducible repeat (first | apply Kd.R_alloc | apply Kd.R_drewN | apply Kd.R_drew)); exact HO232.out) hb)
   have n2_ := Aside0.mk (Kd.R_below (by (with_reducible repeat (first | apply Kd.R_alloc | apply Kd.R_drewN | apply Kd.R_drew)); exact HO238.out) hb)
   have n3_ := Aside0.mk (blk_below (bk_ BK218.out) hb)
   have n4_ := Aside0.mk (blk_below (bk_ BK227.out) hb)
   have n5_ := Aside0.mk (blk_below (bk_ BK233.out) hb)
   have n6_ := Aside0.mk (blk_below (bk_ BK239.out) hb)
   have n7_ := Aside0.mk (below_step (bw_ HB.out) hb)
   clear HO226
   clear HO232
   clear HO238
   clear BK218
   clear BK227
   clear BK233
   clear BK239
   clear HB
   have HO226 := n0_
   have HO232 := n1_
   have HO238 := n2_
   have BK218 := n3_
   have BK227 := n4_
   have BK233 := n5_
   have BK239 := n6_
   have HB := n7_
   clear n0_ n1_ n2_ n3_ n4_ n5_ n6_ n7_
   (try clear hb)
   (try clear hb2)
   (try clear hk)
   (try clear hi)
   refine hK.out _ _ ⟨(blk_cell BK233.out 0).trans rfl, (blk_cell BK233.out 1).trans rfl, (blk_cell BK233.out 2).trans rfl, (blk_cell BK239.out 0).trans rfl, (blk_cell BK239.out 1).trans rfl, (blk_cell BK239.out 2).trans rfl, (blk_cell BK218.out 0).trans rfl, (blk_cell BK218.out 1).trans rfl⟩ (fun hHeld => ?_)
   clear hK K
   refine norm_ (a' := ?_) ?_ ?_
   rotate_left
   ·show Act.put _ (some 32) _ = _
    simp only [Act.put, q1_, q2_, q3_, i64_w, i32_w]
    rfl
   refine one_ (i := 9) (N := some 35) #[true, true, true, true, true, true, true, true, true, true, false, false, false] rfl rfl (one_of HT_.out (by kernel_rfl)) (by decide) (fun K hK => ?_)
   refine goes_ Try.func16 (by kernel_rfl) rfl #[.agg #[.int .i64 t222, .int .i64 t223], .agg #[.int .u64 t234, .int .i64 t235, .slice Ao34 t236.length co34]] (by rfl) rfl rfl (by (try simp only [List.map_toArray, List.map_cons, List.map_nil]); first | done | rfl | (simp only [List.length_drop, List.length_take]; rfl)) ?_
   with_reducible refine (gristmillref06_Value.calls t222 t223 t234 t235 _ _ t236 t242 _ ?side1 ?side2 A11.out).mono ?_
   (case side1 => repeat (first | exact (Kd.R_reads' HO238.out).2.2 | (with_reducible refine Kd.C_alloc ?_ _) | (with_reducible refine Kd.C_drewN ?_ _) | (with_reducible refine Kd.C_drew ?_)))
   (case side2 => exact (Kd.R_reads' HO238.out).2.1)
   rintro e w39 ⟨rfl, hb⟩
   refine ⟨_, rfl, ?_⟩
   have n0_ := Aside0.mk (Kd.S_below (by (with_reducible repeat (first | apply Kd.S_alloc | apply Kd.S_drewN | apply Kd.S_drew)); exact HO226.out) hb)
   have n1_ := Aside0.mk (Kd.R_below (by (with_reducible repeat (first | apply Kd.R_alloc | apply Kd.R_drewN | apply Kd.R_drew)); exact HO232.out) hb)
   have n2_ := Aside0.mk (Kd.R_below (by (with_reducible repeat (first | apply Kd.R_alloc | apply Kd.R_drewN | apply Kd.R_drew)); exact HO238.out) hb)
   have n3_ := Aside0.mk (blk_below (bk_ BK218.out) hb)
   have n4_ := Aside0.mk (blk_below (bk_ BK227.out) hb)
   have n5_ := Aside0.mk (blk_below (bk_ BK233.out) hb)
   have n6_ := Aside0.mk (blk_below (bk_ BK239.out) hb)
   have n7_ := Aside0.mk (below_step (bw_ HB.out) hb)
   clear HO226
   clear HO232
   clear HO238
   clear BK218
   clear BK227
   clear BK233
   clear BK239
   clear HB
   have HO226 := n0_
   have HO232 := n1_
   have HO238 := n2_
   have BK218 := n3_
   have BK227 := n4_
   have BK233 := n5_
   have BK239 := n6_
   have HB := n7_
   clear n0_ n1_ n2_ n3_ n4_ n5_ n6_ n7_
   (try clear hb)
   (try clear hb2)
   (try clear hk)
   (try clear hi)
   refine hK.out _ _ ⟨(blk_cell BK233.out 0).trans rfl, (blk_cell BK233.out 1).trans rfl, (blk_cell BK233.out 2).trans rfl, (blk_cell BK239.out 0).trans rfl, (blk_cell BK239.out 1).trans rfl, (blk_cell BK239.out 2).trans rfl, (blk_cell BK218.out 0).trans rfl, (blk_cell BK218.out 1).trans rfl⟩ (fun hHeld => ?_)
   clear hK K
   refine norm_ (a' := ?_) ?_ ?_
   rotate_left
   ·show Act.put _ (some 35) _ = _
    simp only [Act.put, q1_, q2_, q3_, i64_w, i32_w]
    rfl
   refine pure_ (i := 10) (N := some 36) (v := ?_) (a' := ?_) #[true, true, true, true, true, true, true, true, true, true, true, false, false] rfl rfl (any_of HT_.out (by kernel_rfl)) (fun _ _ _ h => h) (Or.inl ⟨by rfl, ?_⟩) ?_ ?_
   rotate_left
   ·intro w'
    go_simp
    with_reducible rfl
   rotate_left
   ·simp only [Act.put, q1_, q2_, q3_, i64_w, i32_w]
    rfl
   refine pure_ (i := 11) (N := some 37) (v := ?_) (a' := ?_) #[true, true, true, true, true, true, true, true, true, true, true, true, false] rfl rfl (any_of HT_.out (by kernel_rfl)) (fun _ _ _ h => h) (Or.inl ⟨by rfl, ?_⟩) ?_ ?_
   rotate_left
   ·intro w'
    go_simp
    with_reducible rfl
   rotate_left
   ·simp only [Act.put, q1_, q2_, q3_, i64_w, i32_w]
    rfl
   refine pure_ (i := 12) (N := some 4) (v := ?_) (a' := ?_) #[true, true, true, true, true, true, true, true, true, true, true, true, true] rfl rfl (any_of HT_.out (by kernel_rfl)) (fun _ _ _ h => h) (Or.inl ⟨by rfl, ?_⟩) ?_ ?_
   rotate_left
   ·intro w'
    go_simp
    with_reducible rfl
   rotate_left
   ·simp only [Act.put, q1_, q2_, q3_, i64_w, i32_w]
    rfl
   refine done_ (done_of HT_.out (by kernel_rfl)) ?_
   try go_wp2
   go_ret
   exact ⟨by first | rfl | (simp [errW_none, errW_some] <;> rfl) | (simp [*, errW_none, errW_some] <;> rfl), by repeat (first | (with_reducible first | exact HB.out | apply below_alloc | apply pw_below_drewN | apply below_drew1 | refine below_set ?_ GE218.out | refine below_set ?_ GE227.out | refine below_set ?_ GE233.out | refine below_set ?_ GE239.out) | exact HB.out)⟩
  ·replace c9 := Bool.eq_false_iff.mpr c9
   subst c9
   have H1 : (some false) = some r := by rw [if_neg (show ¬ (false = true) by decide)] at H; exact H
   clear H
   have H := H1
   clear H1
   obtain rfl := Option.some.inj H
   go_enter Try.func3, Try.ntmps3
   try go_wp2_with (first | ((with_reducible refine gate_dst (N := 2) rfl ?_); refine bx_ (N := 2) (cs := #[.int .i64 a0_0, .int .i64 a0_1]) (t := 23) ?_; intro gb218 hg w40 hbox hb; have n0_ := Aside0.mk (below_step (bw_ HB.out) hb); have n1_ := Aside0.mk (hbox); have n2_ := Aside0.mk (sz_ hg (bw_ HB.out)); have n3_ := n2_; clear HB; have HB := n0_; have BK218 := n1_; have GW218 := n2_; have GE218 := n3_; clear n0_ n1_ n2_ n3_; clear hb hbox hg) | ((with_reducible refine gate_callee (f := 10) rfl ?_); refine goesL_ (some 10) rfl rfl Try.func10 (by kernel_rfl) rfl #[] rfl (by (try simp only [List.map_toArray, List.map_cons, List.map_nil]); first | done | rfl | (simp only [List.length_drop, List.length_take]; rfl)) ?_; (with_reducible refine (gristmilllaw06_awake.calls  true _ A3.out).mono ?_); rintro e w41 ⟨rfl, hb⟩; refine ⟨_, rfl, ?_⟩; have n0_ := Aside0.mk (blk_below (bk_ BK218.out) hb); have n1_ := Aside0.mk (below_step (bw_ HB.out) hb); clear BK218 HB; have BK218 := n0_; have HB := n1_; clear n0_ n1_; (try clear hb); (try clear hb2); (try clear hk); (try clear hi); have hcz42_0 : w41.cell? ⟨gb218, 0, none⟩ = some (.int .i64 a0_0) := (blk_cell BK218.out 0).trans rfl; have hcz42_1 : w41.cell? ⟨gb218, 1, none⟩ = some (.int .i64 a0_1) := (blk_cell BK218.out 1).trans rfl; have hfz42_0 := blk_frozen BK218.out 0; have hfz42_1 := blk_frozen BK218.out 1) | ((with_reducible refine gate_callee (f := 11) rfl ?_); refine goesL_ (some 16) rfl rfl Try.func11 (by kernel_rfl) rfl #[.agg #[.int .i64 a0_0, .int .i64 a0_1], .slice A1 l1.length c1] rfl (by (try simp only [List.map_toArray, List.map_cons, List.map_nil]); first | done | rfl | (simp only [List.length_drop, List.length_take]; rfl)) ?_; (with_reducible refine (gristmilllaw06_right.calls k a0_0 a0_1 _ _ l1 t220 t221 t222 t223 t224 _ ?side1 ?side2 A5.out).mono ?_); (case side1 => repeat (first | exact (Kd.C_below HR1.out HB.out) | (with_reducible refine Kd.C_alloc ?_ _) | (with_reducible refine Kd.C_drewN ?_ _) | (with_reducible refine Kd.C_drew ?_))); (case side2 => exact HC1.out); rintro e w43 ⟨v225, rfl, ho0, hb⟩; refine ⟨_, rfl, ?_⟩; have n0_ := Aside0.mk (Kd.S_lower ho0 (below_size (bw_ HB.out))); have n1_ := Aside0.mk (blk_below (bk_ BK218.out) hb); have n2_ := Aside0.mk (below_step (bw_ HB.out) hb); clear BK218 HB; have HO226 := n0_; have BK218 := n1_; have HB := n2_; clear n0_ n1_ n2_; (try clear hb); (try clear hb2); (try clear hk); (try clear hi); (try clear ho0)) | ((with_reducible refine gate_dst (N := 6) rfl ?_); refine bx_ (N := 6) (cs := #[.int .i64 0, .int .i64 0]) (t := 27) ?_; intro gb227 hg w44 hbox hb; have n0_ := Aside0.mk (Kd.S_below (by (with_reducible repeat (first | apply Kd.S_alloc | apply Kd.S_drewN | apply Kd.S_drew)); exact HO226.out) hb); have n1_ := Aside0.mk (blk_below (bk_ BK218.out) hb); have n2_ := Aside0.mk (below_step (bw_ HB.out) hb); have n3_ := Aside0.mk (hbox); have n4_ := Aside0.mk (sz_ hg (bw_ HB.out)); have n5_ := n4_; have n6_ := Aside0.mk (ne_ hg (blk_lt (bk_ BK218.out))); have n7_ := Aside0.mk n6_.out.symm; clear HO226 BK218 HB; have HO226 := n0_; have BK218 := n1_; have HB := n2_; have BK227 := n3_; have GW227 := n4_; have GE227 := n5_; have NB218_227 := n6_; have NB227_218 := n7_; clear n0_ n1_ n2_ n3_ n4_ n5_ n6_ n7_; clear hb hbox hg; have hnb45 := NB227_218.out; have hnc45 := NB218_227.out; have hcz46_0 : w44.cell? ⟨gb227, 0, none⟩ = some (.int .i64 0) := (blk_cell BK227.out 0).trans rfl; have hcz46_1 : w44.cell? ⟨gb227, 1, none⟩ = some (.int .i64 0) := (blk_cell BK227.out 1).trans rfl; have hfz46_0 := blk_frozen BK227.out 0; have hfz46_1 := blk_frozen BK227.out 1; have hcz47_0 : w44.cell? ⟨gb218, 0, none⟩ = some (.int .i64 a0_0) := (blk_cell BK218.out 0).trans rfl; have hcz47_1 : w44.cell? ⟨gb218, 1, none⟩ = some (.int .i64 a0_1) := (blk_cell BK218.out 1).trans rfl; have hfz47_0 := blk_frozen BK218.out 0; have hfz47_1 := blk_frozen BK218.out 1; obtain ⟨Ao48, co48, eo48⟩ := Kd.S_slice HO226.out; subst eo48) | ((with_reducible refine gate_callee (f := 12) rfl ?_); refine goesL_ (some 22) rfl rfl Try.func12 (by kernel_rfl) rfl #[.agg #[.int .i64 t222, .int .i64 t223], .slice Ao48 t224.length co48] rfl (by (try simp only [List.map_toArray, List.map_cons, List.map_nil]); first | done | rfl | (simp only [List.length_drop, List.length_take]; rfl)) ?_; (with_reducible refine (gristmilllaw06_of.calls k t222 t223 _ _ t224 t228 t229 t230 _ ?side1 ?side2 A6.out).mono ?_); (case side1 => refine (Kd.S_reads' (e := 44) (base := w.heap.size) (ok := fun k_ => True) (n := t224.length) (c := co48) ?_).2.2; exact (by (with_reducible repeat (first | apply Kd.S_alloc | apply Kd.S_drewN | apply Kd.S_drew)); exact (Kd.S_mono (Kd.S_mono (Kd.S_far (p := ⟨gb218, 1, none⟩) (Kd.S_far (p := ⟨gb218, 0, none⟩) (Kd.S_far (p := ⟨gb227, 1, none⟩) (Kd.S_far (p := ⟨gb227, 0, none⟩) (Kd.S_types (Kd.S_types HO226.out BK227.out (by decide)) BK218.out (by decide)) (fun _ hk => hk.1.2) (.int .i64 t220)) (fun _ hk => hk.1.2) (.int .i64 t221)) (fun _ hk => hk.2) (.int .i64 t222)) (fun _ hk => hk.2) (.int .i64 t223)) (fun _ h_ => h_.1)) (fun _ h_ => h_.1)))); (case side2 => exact (Kd.S_reads' HO226.out).2.1); rintro e w49 ⟨v231, rfl, ho0, hb⟩; refine ⟨_, rfl, ?_⟩; have n0_ := Aside0.mk (Kd.S_elder' (by (with_reducible repeat (first | apply Kd.S_alloc | apply Kd.S_drewN | apply Kd.S_drew)); exact (Kd.S_mono (Kd.S_mono (Kd.S_far (p := ⟨gb218, 1, none⟩) (Kd.S_far (p := ⟨gb218, 0, none⟩) (Kd.S_far (p := ⟨gb227, 1, none⟩) (Kd.S_far (p := ⟨gb227, 0, none⟩) (Kd.S_types (Kd.S_types HO226.out BK227.out (by decide)) BK218.out (by decide)) (fun _ hk => hk.1.2) (.int .i64 t220)) (fun _ hk => hk.1.2) (.int .i64 t221)) (fun _ hk => hk.2) (.int .i64 t222)) (fun _ hk => hk.2) (.int .i64 t223)) (fun _ h_ => h_.1)) (fun _ h_ => h_.1))) (Kd.R_base ho0) hb); have n1_ := Aside0.mk (Kd.R_lower ho0 (below_size (bw_ HB.out))); have n2_ := Aside0.mk (blk_below (g := gb218) (o := .cells #[.int .i64 t222, .int .i64 t223] 23 (0, 0)) (by (with_reducible repeat (first | refine blk_drewN ?_ _ | refine blk_drew ?_ | refine blk_alloc ?_ _)); refine blk_put (cs := #[.int .i64 t222, .int .i64 a0_1]) ?_ 1 _ rfl; (with_reducible repeat (first | refine blk_drewN ?_ _ | refine blk_drew ?_ | refine blk_alloc ?_ _)); refine blk_put (cs := #[.int .i64 a0_0, .int .i64 a0_1]) ?_ 0 _ rfl; (with_reducible repeat (first | refine blk_drewN ?_ _ | refine blk_drew ?_ | refine blk_alloc ?_ _)); refine blk_far ?_ NB218_227.out _; (with_reducible repeat (first | refine blk_drewN ?_ _ | refine blk_drew ?_ | refine blk_alloc ?_ _)); refine blk_far ?_ NB218_227.out _; (with_reducible repeat (first | refine blk_drewN ?_ _ | refine blk_drew ?_ | refine blk_alloc ?_ _)); exact BK218.out) hb); have n3_ := Aside0.mk (blk_below (g := gb227) (o := .cells #[.int .i64 t220, .int .i64 t221] 27 (0, 0)) (by (with_reducible repeat (first | refine blk_drewN ?_ _ | refine blk_drew ?_ | refine blk_alloc ?_ _)); refine blk_far ?_ NB227_218.out _; (with_reducible repeat (first | refine blk_drewN ?_ _ | refine blk_drew ?_ | refine blk_alloc ?_ _)); refine blk_far ?_ NB227_218.out _; (with_reducible repeat (first | refine blk_drewN ?_ _ | refine blk_drew ?_ | refine blk_alloc ?_ _)); refine blk_put (cs := #[.int .i64 t220, .int .i64 0]) ?_ 1 _ rfl; (with_reducible repeat (first | refine blk_drewN ?_ _ | refine blk_drew ?_ | refine blk_alloc ?_ _)); refine blk_put (cs := #[.int .i64 0, .int .i64 0]) ?_ 0 _ rfl; (with_reducible repeat (first | refine blk_drewN ?_ _ | refine blk_drew ?_ | refine blk_alloc ?_ _)); exact BK227.out) hb); have n4_ := Aside0.mk (below_step (bw_ HB.out) hb); clear HO226 BK218 BK227 HB; have HO226 := n0_; have HO232 := n1_; have BK218 := n2_; have BK227 := n3_; have HB := n4_; clear n0_ n1_ n2_ n3_ n4_; (try clear hb); (try clear hb2); (try clear hk); (try clear hi); (try clear ho0)) | ((with_reducible refine gate_dst (N := 8) rfl ?_); refine bx_ (N := 8) (cs := #[.int .u64 0, .int .i64 0, .slice none 0 0]) (t := 33) ?_; intro gb233 hg w50 hbox hb; have n0_ := Aside0.mk (Kd.S_below (by (with_reducible repeat (first | apply Kd.S_alloc | apply Kd.S_drewN | apply Kd.S_drew)); exact HO226.out) hb); have n1_ := Aside0.mk (Kd.R_below (by (with_reducible repeat (first | apply Kd.R_alloc | apply Kd.R_drewN | apply Kd.R_drew)); exact HO232.out) hb); have n2_ := Aside0.mk (blk_below (bk_ BK218.out) hb); have n3_ := Aside0.mk (blk_below (bk_ BK227.out) hb); have n4_ := Aside0.mk (below_step (bw_ HB.out) hb); have n5_ := Aside0.mk (hbox); have n6_ := Aside0.mk (sz_ hg (bw_ HB.out)); have n7_ := n6_; have n8_ := Aside0.mk (ne_ hg (blk_lt (bk_ BK218.out))); have n9_ := Aside0.mk n8_.out.symm; have n10_ := Aside0.mk (ne_ hg (blk_lt (bk_ BK227.out))); have n11_ := Aside0.mk n10_.out.symm; clear HO226 HO232 BK218 BK227 HB; have HO226 := n0_; have HO232 := n1_; have BK218 := n2_; have BK227 := n3_; have HB := n4_; have BK233 := n5_; have GW233 := n6_; have GE233 := n7_; have NB218_233 := n8_; have NB233_218 := n9_; have NB227_233 := n10_; have NB233_227 := n11_; clear n0_ n1_ n2_ n3_ n4_ n5_ n6_ n7_ n8_ n9_ n10_ n11_; clear hb hbox hg; have hnb51 := NB233_218.out; have hnc51 := NB218_233.out; have hnb52 := NB233_227.out; have hnc52 := NB227_233.out; have hcz53_0 : w50.cell? ⟨gb233, 0, none⟩ = some (.int .u64 0) := (blk_cell BK233.out 0).trans rfl; have hcz53_1 : w50.cell? ⟨gb233, 1, none⟩ = some (.int .i64 0) := (blk_cell BK233.out 1).trans rfl; have hcz53_2 : w50.cell? ⟨gb233, 2, none⟩ = some (.slice none 0 0) := (blk_cell BK233.out 2).trans rfl; have hfz53_0 := blk_frozen BK233.out 0; have hfz53_1 := blk_frozen BK233.out 1; have hfz53_2 := blk_frozen BK233.out 2; obtain ⟨Ao54, co54, eo54⟩ := Kd.R_slice HO232.out; subst eo54; have hcz55_0 : w50.cell? ⟨gb218, 0, none⟩ = some (.int .i64 t222) := (blk_cell BK218.out 0).trans rfl; have hcz55_1 : w50.cell? ⟨gb218, 1, none⟩ = some (.int .i64 t223) := (blk_cell BK218.out 1).trans rfl; have hfz55_0 := blk_frozen BK218.out 0; have hfz55_1 := blk_frozen BK218.out 1) | ((with_reducible refine gate_callee (f := 13) rfl ?_); refine goesL_ (some 25) rfl rfl Try.func13 (by kernel_rfl) rfl #[.agg #[.int .i64 t222, .int .i64 t223], .slice Ao48 t224.length co48] rfl (by (try simp only [List.map_toArray, List.map_cons, List.map_nil]); first | done | rfl | (simp only [List.length_drop, List.length_take]; rfl)) ?_; (with_reducible refine (gristmillref06_Of.calls k t222 t223 _ _ t224 t234 t235 t236 _ ?side1 ?side2 A7.out).mono ?_); (case side1 => refine (Kd.S_reads' (e := 44) (base := w.heap.size) (ok := fun k_ => (True ∧ some k_ ≠ (.slice Ao54 t230.length co54 : Value).ownBlock)) (n := t224.length) (c := co48) ?_).2.2; exact (by (with_reducible repeat (first | apply Kd.S_alloc | apply Kd.S_drewN | apply Kd.S_drew)); exact (Kd.S_mono (Kd.S_far (p := ⟨gb233, 2, none⟩) (Kd.S_far (p := ⟨gb233, 1, none⟩) (Kd.S_far (p := ⟨gb233, 0, none⟩) (Kd.S_types HO226.out BK233.out (by decide)) (fun _ hk => hk.2) (.int .u64 t228)) (fun _ hk => hk.2) (.int .i64 t229)) (fun _ hk => hk.2) (.slice Ao54 t230.length co54)) (fun _ h_ => h_.1)))); (case side2 => exact (Kd.S_reads' HO226.out).2.1); rintro e w56 ⟨v237, rfl, ho0, hb⟩; refine ⟨_, rfl, ?_⟩; have n0_ := Aside0.mk (Kd.S_elder' (by (with_reducible repeat (first | apply Kd.S_alloc | apply Kd.S_drewN | apply Kd.S_drew)); exact (Kd.S_mono (Kd.S_far (p := ⟨gb233, 2, none⟩) (Kd.S_far (p := ⟨gb233, 1, none⟩) (Kd.S_far (p := ⟨gb233, 0, none⟩) (Kd.S_types HO226.out BK233.out (by decide)) (fun _ hk => hk.2) (.int .u64 t228)) (fun _ hk => hk.2) (.int .i64 t229)) (fun _ hk => hk.2) (.slice Ao54 t230.length co54)) (fun _ h_ => h_.1))) (Kd.R_base ho0) hb); have n1_ := Aside0.mk (Kd.R_elder' (by (with_reducible repeat (first | apply Kd.R_alloc | apply Kd.R_drewN | apply Kd.R_drew)); exact (Kd.R_mono (Kd.R_far (p := ⟨gb233, 2, none⟩) (Kd.R_far (p := ⟨gb233, 1, none⟩) (Kd.R_far (p := ⟨gb233, 0, none⟩) (Kd.R_types HO232.out BK233.out (by decide)) (fun _ hk => hk.2) (.int .u64 t228)) (fun _ hk => hk.2) (.int .i64 t229)) (fun _ hk => hk.2) (.slice Ao54 t230.length co54)) (fun _ h_ => h_.1))) (Kd.R_base ho0) hb); have n2_ := Aside0.mk (Kd.R_lower (Kd.R_new' ho0 (Kd.R_lt (by (with_reducible repeat (first | apply Kd.R_alloc | apply Kd.R_drewN | apply Kd.R_drew)); exact (Kd.R_mono (Kd.R_far (p := ⟨gb233, 2, none⟩) (Kd.R_far (p := ⟨gb233, 1, none⟩) (Kd.R_far (p := ⟨gb233, 0, none⟩) (Kd.R_types HO232.out BK233.out (by decide)) (fun _ hk => hk.2) (.int .u64 t228)) (fun _ hk => hk.2) (.int .i64 t229)) (fun _ hk => hk.2) (.slice Ao54 t230.length co54)) (fun _ h_ => h_.1))))) (below_size (bw_ HB.out))); have n3_ := Aside0.mk (blk_below (g := gb218) (o := .cells #[.int .i64 t222, .int .i64 t223] 23 (0, 0)) (by (with_reducible repeat (first | refine blk_drewN ?_ _ | refine blk_drew ?_ | refine blk_alloc ?_ _)); refine blk_far ?_ NB218_233.out _; (with_reducible repeat (first | refine blk_drewN ?_ _ | refine blk_drew ?_ | refine blk_alloc ?_ _)); refine blk_far ?_ NB218_233.out _; (with_reducible repeat (first | refine blk_drewN ?_ _ | refine blk_drew ?_ | refine blk_alloc ?_ _)); refine blk_far ?_ NB218_233.out _; (with_reducible repeat (first | refine blk_drewN ?_ _ | refine blk_drew ?_ | refine blk_alloc ?_ _)); exact BK218.out) hb); have n4_ := Aside0.mk (blk_below (g := gb227) (o := .cells #[.int .i64 t220, .int .i64 t221] 27 (0, 0)) (by (with_reducible repeat (first | refine blk_drewN ?_ _ | refine blk_drew ?_ | refine blk_alloc ?_ _)); refine blk_far ?_ NB227_233.out _; (with_reducible repeat (first | refine blk_drewN ?_ _ | refine blk_drew ?_ | refine blk_alloc ?_ _)); refine blk_far ?_ NB227_233.out _; (with_reducible repeat (first | refine blk_drewN ?_ _ | refine blk_drew ?_ | refine blk_alloc ?_ _)); refine blk_far ?_ NB227_233.out _; (with_reducible repeat (first | refine blk_drewN ?_ _ | refine blk_drew ?_ | refine blk_alloc ?_ _)); exact BK227.out) hb); have n5_ := Aside0.mk (blk_below (g := gb233) (o := .cells #[.int .u64 t228, .int .i64 t229, .slice Ao54 t230.length co54] 33 (0, 0)) (by (with_reducible repeat (first | refine blk_drewN ?_ _ | refine blk_drew ?_ | refine blk_alloc ?_ _)); refine blk_put (cs := #[.int .u64 t228, .int .i64 t229, .slice none 0 0]) ?_ 2 _ rfl; (with_reducible repeat (first | refine blk_drewN ?_ _ | refine blk_drew ?_ | refine blk_alloc ?_ _)); refine blk_put (cs := #[.int .u64 t228, .int .i64 0, .slice none 0 0]) ?_ 1 _ rfl; (with_reducible repeat (first | refine blk_drewN ?_ _ | refine blk_drew ?_ | refine blk_alloc ?_ _)); refine blk_put (cs := #[.int .u64 0, .int .i64 0, .slice none 0 0]) ?_ 0 _ rfl; (with_reducible repeat (first | refine blk_drewN ?_ _ | refine blk_drew ?_ | refine blk_alloc ?_ _)); exact BK233.out) hb); have n6_ := Aside0.mk (below_step (bw_ HB.out) hb); clear HO226 HO232 BK218 BK227 BK233 HB; have HO226 := n0_; have HO232 := n1_; have HO238 := n2_; have BK218 := n3_; have BK227 := n4_; have BK233 := n5_; have HB := n6_; clear n0_ n1_ n2_ n3_ n4_ n5_ n6_; (try clear hb); (try clear hb2); (try clear hk); (try clear hi); (try clear ho0)) | ((with_reducible refine gate_dst (N := 9) rfl ?_); refine bx_ (N := 9) (cs := #[.int .u64 0, .int .i64 0, .slice none 0 0]) (t := 33) ?_; intro gb239 hg w57 hbox hb; have n0_ := Aside0.mk (Kd.S_below (by (with_reducible repeat (first | apply Kd.S_alloc | apply Kd.S_drewN | apply Kd.S_drew)); exact HO226.out) hb); have n1_ := Aside0.mk (Kd.R_below (by (with_reducible repeat (first | apply Kd.R_alloc | apply Kd.R_drewN | apply Kd.R_drew)); exact HO232.out) hb); have n2_ := Aside0.mk (Kd.R_below (by (with_reducible repeat (first | apply Kd.R_alloc | apply Kd.R_drewN | apply Kd.R_drew)); exact HO238.out) hb); have n3_ := Aside0.mk (blk_below (bk_ BK218.out) hb); have n4_ := Aside0.mk (blk_below (bk_ BK227.out) hb); have n5_ := Aside0.mk (blk_below (bk_ BK233.out) hb); have n6_ := Aside0.mk (below_step (bw_ HB.out) hb); have n7_ := Aside0.mk (hbox); have n8_ := Aside0.mk (sz_ hg (bw_ HB.out)); have n9_ := n8_; have n10_ := Aside0.mk (ne_ hg (blk_lt (bk_ BK218.out))); have n11_ := Aside0.mk n10_.out.symm; have n12_ := Aside0.mk (ne_ hg (blk_lt (bk_ BK227.out))); have n13_ := Aside0.mk n12_.out.symm; have n14_ := Aside0.mk (ne_ hg (blk_lt (bk_ BK233.out))); have n15_ := Aside0.mk n14_.out.symm; clear HO226 HO232 HO238 BK218 BK227 BK233 HB; have HO226 := n0_; have HO232 := n1_; have HO238 := n2_; have BK218 := n3_; have BK227 := n4_; have BK233 := n5_; have HB := n6_; have BK239 := n7_; have GW239 := n8_; have GE239 := n9_; have NB218_239 := n10_; have NB239_218 := n11_; have NB227_239 := n12_; have NB239_227 := n13_; have NB233_239 := n14_; have NB239_233 := n15_; clear n0_ n1_ n2_ n3_ n4_ n5_ n6_ n7_ n8_ n9_ n10_ n11_ n12_ n13_ n14_ n15_; clear hb hbox hg; have hnb58 := NB239_218.out; have hnc58 := NB218_239.out; have hnb59 := NB239_227.out; have hnc59 := NB227_239.out; have hnb60 := NB239_233.out; have hnc60 := NB233_239.out; have hcz61_0 : w57.cell? ⟨gb239, 0, none⟩ = some (.int .u64 0) := (blk_cell BK239.out 0).trans rfl; have hcz61_1 : w57.cell? ⟨gb239, 1, none⟩ = some (.int .i64 0) := (blk_cell BK239.out 1).trans rfl; have hcz61_2 : w57.cell? ⟨gb239, 2, none⟩ = some (.slice none 0 0) := (blk_cell BK239.out 2).trans rfl; have hfz61_0 := blk_frozen BK239.out 0; have hfz61_1 := blk_frozen BK239.out 1; have hfz61_2 := blk_frozen BK239.out 2; obtain ⟨Ao62, co62, eo62⟩ := Kd.R_slice HO238.out; subst eo62))
   have n0_ : Aside0 (Kd.S k44 44 (((w57.setCell ⟨gb239, 0, none⟩ (.int .u64 t234)).setCell ⟨gb239, 1, none⟩ (.int .i64 t235)).setCell ⟨gb239, 2, none⟩ (.slice Ao62 t236.length co62)) w.heap.size (fun k_ => some k_ ≠ (.slice Ao54 t230.length co54 : Value).ownBlock ∧ some k_ ≠ (.slice Ao62 t236.length co62 : Value).ownBlock) (.slice Ao48 t224.length co48) t224) := ⟨by (with_reducible repeat (first | apply Kd.S_alloc | apply Kd.S_drewN | apply Kd.S_drew)); exact Kd.S_mono (Kd.S_far (p := ⟨gb239, 2, none⟩) (Kd.S_far (p := ⟨gb239, 1, none⟩) (Kd.S_far (p := ⟨gb239, 0, none⟩) (Kd.S_types HO226.out BK239.out (by decide)) (fun _ hk => hk.2) (.int .u64 t234)) (fun _ hk => hk.2) (.int .i64 t235)) (fun _ hk => hk.2) (.slice Ao62 t236.length co62)) (fun _ hk => ⟨hk.1.1.2, hk.1.2⟩)⟩
   have n1_ : Aside0 (Kd.R Kd.string 9 (((w57.setCell ⟨gb239, 0, none⟩ (.int .u64 t234)).setCell ⟨gb239, 1, none⟩ (.int .i64 t235)).setCell ⟨gb239, 2, none⟩ (.slice Ao62 t236.length co62)) w.heap.size (fun k_ => some k_ ≠ (.slice Ao62 t236.length co62 : Value).ownBlock) (.slice Ao54 t230.length co54) t230) := ⟨by (with_reducible repeat (first | apply Kd.R_alloc | apply Kd.R_drewN | apply Kd.R_drew)); exact Kd.R_mono (Kd.R_far (p := ⟨gb239, 2, none⟩) (Kd.R_far (p := ⟨gb239, 1, none⟩) (Kd.R_far (p := ⟨gb239, 0, none⟩) (Kd.R_types HO232.out BK239.out (by decide)) (fun _ hk => hk.2) (.int .u64 t234)) (fun _ hk => hk.2) (.int .i64 t235)) (fun _ hk => hk.2) (.slice Ao62 t236.length co62)) (fun _ hk => hk.1.2)⟩
   have n2_ : Aside0 (Kd.R Kd.string 9 (((w57.setCell ⟨gb239, 0, none⟩ (.int .u64 t234)).setCell ⟨gb239, 1, none⟩ (.int .i64 t235)).setCell ⟨gb239, 2, none⟩ (.slice Ao62 t236.length co62)) w.heap.size (fun k_ => some k_ ≠ (.slice Ao54 t230.length co54 : Value).ownBlock) (.slice Ao62 t236.length co62) t236) := ⟨by (with_reducible repeat (first | apply Kd.R_alloc | apply Kd.R_drewN | apply Kd.R_drew)); exact Kd.R_mono (Kd.R_far (p := ⟨gb239, 2, none⟩) (Kd.R_far (p := ⟨gb239, 1, none⟩) (Kd.R_far (p := ⟨gb239, 0, none⟩) (Kd.R_types HO238.out BK239.out (by decide)) (fun _ hk => hk.2) (.int .u64 t234)) (fun _ hk => hk.2) (.int .i64 t235)) (fun _ hk => hk.2) (.slice Ao62 t236.length co62)) (fun _ hk => hk.1.2)⟩
   have n3_ : Aside0 ((((w57.setCell ⟨gb239, 0, none⟩ (.int .u64 t234)).setCell ⟨gb239, 1, none⟩ (.int .i64 t235)).setCell ⟨gb239, 2, none⟩ (.slice Ao62 t236.length co62)).heap[gb218]? = some (.cells #[.int .i64 t222, .int .i64 t223] 23 (0, 0))) := ⟨by (with_reducible repeat (first | refine blk_drewN ?_ _ | refine blk_drew ?_ | refine blk_alloc ?_ _)); refine blk_far ?_ NB218_239.out _; (with_reducible repeat (first | refine blk_drewN ?_ _ | refine blk_drew ?_ | refine blk_alloc ?_ _)); refine blk_far ?_ NB218_239.out _; (with_reducible repeat (first | refine blk_drewN ?_ _ | refine blk_drew ?_ | refine blk_alloc ?_ _)); refine blk_far ?_ NB218_239.out _; (with_reducible repeat (first | refine blk_drewN ?_ _ | refine blk_drew ?_ | refine blk_alloc ?_ _)); exact BK218.out⟩
   have n4_ : Aside0 ((((w57.setCell ⟨gb239, 0, none⟩ (.int .u64 t234)).setCell ⟨gb239, 1, none⟩ (.int .i64 t235)).setCell ⟨gb239, 2, none⟩ (.slice Ao62 t236.length co62)).heap[gb227]? = some (.cells #[.int .i64 t220, .int .i64 t221] 27 (0, 0))) := ⟨by (with_reducible repeat (first | refine blk_drewN ?_ _ | refine blk_drew ?_ | refine blk_alloc ?_ _)); refine blk_far ?_ NB227_239.out _; (with_reducible repeat (first | refine blk_drewN ?_ _ | refine blk_drew ?_ | refine blk_alloc ?_ _)); refine blk_far ?_ NB227_239.out _; (with_reducible repeat (first | refine blk_drewN ?_ _ | refine blk_drew ?_ | refine blk_alloc ?_ _)); refine blk_far ?_ NB227_239.out _; (with_reducible repeat (first | refine blk_drewN ?_ _ | refine blk_drew ?_ | refine blk_alloc ?_ _)); exact BK227.out⟩
   have n5_ : Aside0 ((((w57.setCell ⟨gb239, 0, none⟩ (.int .u64 t234)).setCell ⟨gb239, 1, none⟩ (.int .i64 t235)).setCell ⟨gb239, 2, none⟩ (.slice Ao62 t236.length co62)).heap[gb233]? = some (.cells #[.int .u64 t228, .int .i64 t229, .slice Ao54 t230.length co54] 33 (0, 0))) := ⟨by (with_reducible repeat (first | refine blk_drewN ?_ _ | refine blk_drew ?_ | refine blk_alloc ?_ _)); refine blk_far ?_ NB233_239.out _; (with_reducible repeat (first | refine blk_drewN ?_ _ | refine blk_drew ?_ | refine blk_alloc ?_ _)); refine blk_far ?_ NB233_239.out _; (with_reducible repeat (first | refine blk_drewN ?_ _ | refine blk_drew ?_ | refine blk_alloc ?_ _)); refine blk_far ?_ NB233_239.out _; (with_reducible repeat (first | refine blk_drewN ?_ _ | refine blk_drew ?_ | refine blk_alloc ?_ _)); exact BK233.out⟩
   have n6_ : Aside0 ((((w57.setCell ⟨gb239, 0, none⟩ (.int .u64 t234)).setCell ⟨gb239, 1, none⟩ (.int .i64 t235)).setCell ⟨gb239, 2, none⟩ (.slice Ao62 t236.length co62)).heap[gb239]? = some (.cells #[.int .u64 t234, .int .i64 t235, .slice Ao62 t236.length co62] 33 (0, 0))) := ⟨by (with_reducible repeat (first | refine blk_drewN ?_ _ | refine blk_drew ?_ | refine blk_alloc ?_ _)); refine blk_put (cs := #[.int .u64 t234, .int .i64 t235, .slice none 0 0]) ?_ 2 _ rfl; (with_reducible repeat (first | refine blk_drewN ?_ _ | refine blk_drew ?_ | refine blk_alloc ?_ _)); refine blk_put (cs := #[.int .u64 t234, .int .i64 0, .slice none 0 0]) ?_ 1 _ rfl; (with_reducible repeat (first | refine blk_drewN ?_ _ | refine blk_drew ?_ | refine blk_alloc ?_ _)); refine blk_put (cs := #[.int .u64 0, .int .i64 0, .slice none 0 0]) ?_ 0 _ rfl; (with_reducible repeat (first | refine blk_drewN ?_ _ | refine blk_drew ?_ | refine blk_alloc ?_ _)); exact BK239.out⟩
   have n7_ : Aside0 (Below w.heap.size w (((w57.setCell ⟨gb239, 0, none⟩ (.int .u64 t234)).setCell ⟨gb239, 1, none⟩ (.int .i64 t235)).setCell ⟨gb239, 2, none⟩ (.slice Ao62 t236.length co62))) := ⟨by repeat (first | (with_reducible first | exact HB.out | apply below_alloc | apply pw_below_drewN | apply below_drew1 | refine below_set ?_ GE218.out | refine below_set ?_ GE227.out | refine below_set ?_ GE233.out | refine below_set ?_ GE239.out) | exact HB.out)⟩
   (try clear HO226)
   (try clear HO232)
   (try clear HO238)
   (try clear BK218)
   (try clear BK227)
   (try clear BK233)
   (try clear BK239)
   (try clear HB)
   generalize (((w57.setCell ⟨gb239, 0, none⟩ (.int .u64 t234)).setCell ⟨gb239, 1, none⟩ (.int .i64 t235)).setCell ⟨gb239, 2, none⟩ (.slice Ao62 t236.length co62)) = w63 at n0_ n1_ n2_ n3_ n4_ n5_ n6_ n7_ ⊢
   have HO226 := n0_
   have HO232 := n1_
   have HO238 := n2_
   have BK218 := n3_
   have BK227 := n4_
   have BK233 := n5_
   have BK239 := n6_
   have HB := n7_
   clear n0_ n1_ n2_ n3_ n4_ n5_ n6_ n7_
   have n0_ := Aside0.mk (Kd.S_drew HO226.out)
   have n1_ := Aside0.mk (Kd.R_drew HO232.out)
   have n2_ := Aside0.mk (Kd.R_drew HO238.out)
   have n3_ := Aside0.mk (blk_drew BK218.out)
   have n4_ := Aside0.mk (blk_drew BK227.out)
   have n5_ := Aside0.mk (blk_drew BK233.out)
   have n6_ := Aside0.mk (blk_drew BK239.out)
   have n7_ := Aside0.mk (below_drew1 HB.out)
   clear HO226
   clear HO232
   clear HO238
   clear BK218
   clear BK227
   clear BK233
   clear BK239
   clear HB
   have HO226 := n0_
   have HO232 := n1_
   have HO238 := n2_
   have BK218 := n3_
   have BK227 := n4_
   have BK233 := n5_
   have BK239 := n6_
   have HB := n7_
   clear n0_ n1_ n2_ n3_ n4_ n5_ n6_ n7_
   refine start_ (n := 13) (S := fun w' => w'.cell? ⟨gb233, 0, none⟩ = some (.int .u64 t228) ∧ w'.cell? ⟨gb233, 1, none⟩ = some (.int .i64 t229) ∧ w'.cell? ⟨gb233, 2, none⟩ = some (.slice Ao54 t230.length co54) ∧ w'.cell? ⟨gb239, 0, none⟩ = some (.int .u64 t234) ∧ w'.cell? ⟨gb239, 1, none⟩ = some (.int .i64 t235) ∧ w'.cell? ⟨gb239, 2, none⟩ = some (.slice Ao62 t236.length co62)) (ds := []) #[false, false, false, false, false, false, false, false, false, false, false, false, false] (by kernel_rfl) rfl rfl ⟨(blk_cell BK233.out 0).trans rfl, (blk_cell BK233.out 1).trans rfl, (blk_cell BK233.out 2).trans rfl, (blk_cell BK239.out 0).trans rfl, (blk_cell BK239.out 1).trans rfl, (blk_cell BK239.out 2).trans rfl⟩ (fun hHeld => ?_); refine with_tabW gristmilllaw06_AggCounts.tab7 gristmilllaw06_AggCounts.bits7 (fun HT_ HW_ => ?_)
   generalize w63.drew = w64 at HO226 HO232 HO238 BK218 BK227 BK233 BK239 HB hHeld ⊢
   refine take_ (i := 0) (N := some 26) (v := ?_) (a' := ?_) #[true, false, false, false, false, false, false, false, false, false, false, false, false] rfl rfl (take_ofW HT_.out HW_.out (by kernel_rfl)) (fun _ _ _ h => h) (Or.inl ⟨by rfl, ?_⟩) hHeld ?_ ?_
   rotate_left
   ·rintro w' ⟨s0, s1, s2, s3, s4, s5⟩
    go_simp
    with_reducible rfl
   rotate_left
   ·simp only [Act.put, q1_, q2_, q3_, i64_w, i32_w]
    rfl
   refine take_ (i := 1) (N := some 27) (v := ?_) (a' := ?_) #[true, true, false, false, false, false, false, false, false, false, false, false, false] rfl rfl (take_ofW HT_.out HW_.out (by kernel_rfl)) (fun _ _ _ h => h) (Or.inl ⟨by rfl, ?_⟩) hHeld ?_ ?_
   rotate_left
   ·rintro w' ⟨s0, s1, s2, s3, s4, s5⟩
    go_simp
    with_reducible rfl
   rotate_left
   ·simp only [Act.put, q1_, q2_, q3_, i64_w, i32_w]
    rfl
   refine one_ (i := 2) (N := some 28) #[true, true, true, false, false, false, false, false, false, false, false, false, false] rfl rfl (one_of HT_.out (by kernel_rfl)) (by decide) (fun K hK => ?_)
   refine goes_ Try.func14 (by kernel_rfl) rfl #[.agg #[.int .u64 t228, .int .i64 t229, .slice Ao54 t230.length co54], .agg #[.int .u64 t234, .int .i64 t235, .slice Ao62 t236.length co62]] (by rfl) rfl rfl (by (try simp only [List.map_toArray, List.map_cons, List.map_nil]); first | done | rfl | (simp only [List.length_drop, List.length_take]; rfl)) ?_
   with_reducible refine (gristmillref06_Same.calls k t228 t229 _ _ t230 t234 t235 _ _ t236 false _ ?side1 ?side2 ?side3 ?side4 A8.out).mono ?_
   (case side1 => repeat (first | exact (Kd.R_reads' HO232.out).2.2 | (with_reducible refine Kd.C_alloc ?_ _) | (with_reducible refine Kd.C_drewN ?_ _) | (with_reducible refine Kd.C_drew ?_)))
   (case side2 => exact (Kd.R_reads' HO232.out).2.1)
   (case side3 => repeat (first | exact (Kd.R_reads' HO238.out).2.2 | (with_reducible refine Kd.C_alloc ?_ _) | (with_reducible refine Kd.C_drewN ?_ _) | (with_reducible refine Kd.C_drew ?_)))
   (case side4 => exact (Kd.R_reads' HO238.out).2.1)
   rintro e w65 ⟨rfl, hb⟩
   refine ⟨_, rfl, ?_⟩
   have n0_ := Aside0.mk (Kd.S_below (by (with_reducible repeat (first | apply Kd.S_alloc | apply Kd.S_drewN | apply Kd.S_drew)); exact HO226.out) hb)
   have n1_ := Aside0.mk (Kd.R_below (by (with_reducible repeat (first | apply Kd.R_alloc | apply Kd.R_drewN | apply Kd.R_drew)); exact HO232.out) hb)
   have n2_ := Aside0.mk (Kd.R_below (by (with_reducible repeat (first | apply Kd.R_alloc | apply Kd.R_drewN | apply Kd.R_drew)); exact HO238.out) hb)
   have n3_ := Aside0.mk (blk_below (bk_ BK218.out) hb)
   have n4_ := Aside0.mk (blk_below (bk_ BK227.out) hb)
   have n5_ := Aside0.mk (blk_below (bk_ BK233.out) hb)
   have n6_ := Aside0.mk (blk_below (bk_ BK239.out) hb)
   have n7_ := Aside0.mk (below_step (bw_ HB.out) hb)
   clear HO226
   clear HO232
   clear HO238
   clear BK218
   clear BK227
   clear BK233
   clear BK239
   clear HB
   have HO226 := n0_
   have HO232 := n1_
   have HO238 := n2_
   have BK218 := n3_
   have BK227 := n4_
   have BK233 := n5_
   have BK239 := n6_
   have HB := n7_
   clear n0_ n1_ n2_ n3_ n4_ n5_ n6_ n7_
   (try clear hb)
   (try clear hb2)
   (try clear hk)
   (try clear hi)
   refine hK.out _ _ ⟨(blk_cell BK233.out 0).trans rfl, (blk_cell BK233.out 1).trans rfl, (blk_cell BK233.out 2).trans rfl, (blk_cell BK239.out 0).trans rfl, (blk_cell BK239.out 1).trans rfl, (blk_cell BK239.out 2).trans rfl⟩ (fun hHeld => ?_)
   clear hK K
   refine norm_ (a' := ?_) ?_ ?_
   rotate_left
   ·show Act.put _ (some 28) _ = _
    simp only [Act.put, q1_, q2_, q3_, i64_w, i32_w]
    rfl
   refine pure_ (i := 3) (N := some 29) (v := ?_) (a' := ?_) #[true, true, true, true, false, false, false, false, false, false, false, false, false] rfl rfl (any_of HT_.out (by kernel_rfl)) (fun _ _ _ h => h) (Or.inl ⟨by rfl, ?_⟩) ?_ ?_
   rotate_left
   ·intro w'
    go_simp
    with_reducible rfl
   rotate_left
   ·simp only [Act.put, q1_, q2_, q3_, i64_w, i32_w]
    rfl
   refine pure_ (i := 4) (N := some 30) (v := undef) (a' := ?_) #[true, true, true, true, true, false, false, false, false, false, false, false, false] rfl rfl (any_of HT_.out (by kernel_rfl)) (fun _ _ _ h => h) (Or.inr ⟨by rfl, rfl⟩) ?_ ?_
   rotate_left
   ·simp only [Act.put, q1_, q2_, q3_, i64_w, i32_w]
    rfl
   refine pure_ (i := 5) (N := some 31) (v := undef) (a' := ?_) #[true, true, true, true, true, true, false, false, false, false, false, false, false] rfl rfl (any_of HT_.out (by kernel_rfl)) (fun _ _ _ h => h) (Or.inr ⟨by rfl, rfl⟩) ?_ ?_
   rotate_left
   ·simp only [Act.put, q1_, q2_, q3_, i64_w, i32_w]
    rfl
   refine pure_ (i := 6) (N := some 32) (v := undef) (a' := ?_) #[true, true, true, true, true, true, true, false, false, false, false, false, false] rfl rfl (any_of HT_.out (by kernel_rfl)) (fun _ _ _ h => h) (Or.inr ⟨by rfl, rfl⟩) ?_ ?_
   rotate_left
   ·simp only [Act.put, q1_, q2_, q3_, i64_w, i32_w]
    rfl
   refine pure_ (i := 7) (N := some 33) (v := undef) (a' := ?_) #[true, true, true, true, true, true, true, true, false, false, false, false, false] rfl rfl (any_of HT_.out (by kernel_rfl)) (fun _ _ _ h => h) (Or.inr ⟨by rfl, rfl⟩) ?_ ?_
   rotate_left
   ·simp only [Act.put, q1_, q2_, q3_, i64_w, i32_w]
    rfl
   refine pure_ (i := 8) (N := some 34) (v := undef) (a' := ?_) #[true, true, true, true, true, true, true, true, true, false, false, false, false] rfl rfl (any_of HT_.out (by kernel_rfl)) (fun _ _ _ h => h) (Or.inr ⟨by rfl, rfl⟩) ?_ ?_
   rotate_left
   ·simp only [Act.put, q1_, q2_, q3_, i64_w, i32_w]
    rfl
   refine pure_ (i := 9) (N := some 35) (v := undef) (a' := ?_) #[true, true, true, true, true, true, true, true, true, true, false, false, false] rfl rfl (any_of HT_.out (by kernel_rfl)) (fun _ _ _ h => h) (Or.inr ⟨by rfl, rfl⟩) ?_ ?_
   rotate_left
   ·simp only [Act.put, q1_, q2_, q3_, i64_w, i32_w]
    rfl
   refine pure_ (i := 10) (N := some 36) (v := undef) (a' := ?_) #[true, true, true, true, true, true, true, true, true, true, true, false, false] rfl rfl (any_of HT_.out (by kernel_rfl)) (fun _ _ _ h => h) (Or.inr ⟨by rfl, rfl⟩) ?_ ?_
   rotate_left
   ·simp only [Act.put, q1_, q2_, q3_, i64_w, i32_w]
    rfl
   refine pure_ (i := 11) (N := some 37) (v := ?_) (a' := ?_) #[true, true, true, true, true, true, true, true, true, true, true, true, false] rfl rfl (any_of HT_.out (by kernel_rfl)) (fun _ _ _ h => h) (Or.inl ⟨by rfl, ?_⟩) ?_ ?_
   rotate_left
   ·intro w'
    go_simp
    with_reducible rfl
   rotate_left
   ·simp only [Act.put, q1_, q2_, q3_, i64_w, i32_w]
    rfl
   refine pure_ (i := 12) (N := some 4) (v := ?_) (a' := ?_) #[true, true, true, true, true, true, true, true, true, true, true, true, true] rfl rfl (any_of HT_.out (by kernel_rfl)) (fun _ _ _ h => h) (Or.inl ⟨by rfl, ?_⟩) ?_ ?_
   rotate_left
   ·intro w'
    go_simp
    with_reducible rfl
   rotate_left
   ·simp only [Act.put, q1_, q2_, q3_, i64_w, i32_w]
    rfl
   refine done_ (done_of HT_.out (by kernel_rfl)) ?_
   try go_wp2
   go_ret
   exact ⟨by first | rfl | (simp [errW_none, errW_some] <;> rfl) | (simp [*, errW_none, errW_some] <;> rfl), by repeat (first | (with_reducible first | exact HB.out | apply below_alloc | apply pw_below_drewN | apply below_drew1 | refine below_set ?_ GE218.out | refine below_set ?_ GE227.out | refine below_set ?_ GE233.out | refine below_set ?_ GE239.out) | exact HB.out)⟩
 ·replace c4 := Bool.eq_false_iff.mpr c4
  subst c4
  have H1 : (some false) = some r := by rw [if_neg (show ¬ (false = true) by decide)] at H; exact H
  clear H
  have H := H1
  clear H1
  obtain rfl := Option.some.inj H
  go_enter Try.func3, Try.ntmps3
  go_wp2_with (first | ((with_reducible refine gate_dst (N := 2) rfl ?_); refine bx_ (N := 2) (cs := #[.int .i64 a0_0, .int .i64 a0_1]) (t := 23) ?_; intro gb218 hg w66 hbox hb; have n0_ := Aside0.mk (below_step (bw_ HB.out) hb); have n1_ := Aside0.mk (hbox); have n2_ := Aside0.mk (sz_ hg (bw_ HB.out)); have n3_ := n2_; clear HB; have HB := n0_; have BK218 := n1_; have GW218 := n2_; have GE218 := n3_; clear n0_ n1_ n2_ n3_; clear hb hbox hg) | ((with_reducible refine gate_callee (f := 10) rfl ?_); refine goesL_ (some 10) rfl rfl Try.func10 (by kernel_rfl) rfl #[] rfl (by (try simp only [List.map_toArray, List.map_cons, List.map_nil]); first | done | rfl | (simp only [List.length_drop, List.length_take]; rfl)) ?_; (with_reducible refine (gristmilllaw06_awake.calls  false _ A3.out).mono ?_); rintro e w67 ⟨rfl, hb⟩; refine ⟨_, rfl, ?_⟩; have n0_ := Aside0.mk (blk_below (bk_ BK218.out) hb); have n1_ := Aside0.mk (below_step (bw_ HB.out) hb); clear BK218 HB; have BK218 := n0_; have HB := n1_; clear n0_ n1_; (try clear hb); (try clear hb2); (try clear hk); (try clear hi)))
  go_ret
  exact ⟨by first | rfl | (simp [errW_none, errW_some] <;> rfl) | (simp [*, errW_none, errW_some] <;> rfl), by repeat (first | (with_reducible first | exact HB.out | apply below_alloc | apply pw_below_drewN | apply below_drew1 | refine below_set ?_ GE218.out) | exact HB.out)⟩
end Go.Proofs.Ytmjhgeinhhhodaa.P
end

section
namespace Go.Proofs.Ytmjhgeinhhhodaa.Ext
set_option linter.unusedVariables false
set_option linter.unusedSimpArgs false
open Go.RowKit Go.Proofs.YtmjhgeinhhhodaaW.PrintWords Go.Proofs.Ytmjhgeinhhhodaa.P Go.Proofs.Ytmjhgeinhhhodaa.Txt
theorem mem_built (a : List ByteArray) (y : ByteArray) : y ∈ builtB a ↔ y ∈ a := by
  unfold builtB strs
  rw [List.mem_map]
  constructor
  · rintro ⟨t, ht, rfl⟩
    rw [built_mem] at ht
    unfold txts at ht
    obtain ⟨z, hz, rfl⟩ := List.mem_map.1 ht
    have e : Txt.bs z.data.toList = z := bs_of z
    rw [e]; exact hz
  · intro h
    exact ⟨y.data.toList, (built_mem _ _).2 (List.mem_map.2 ⟨y, h, rfl⟩), bs_of y⟩
theorem built_ext {a b : List ByteArray} (h : ∀ y, y ∈ a ↔ y ∈ b) : builtB a = builtB b := by
  unfold builtB
  congr 1
  refine rises_same (built_rises _) (built_rises _) (fun y => ?_)
  rw [built_mem, built_mem]
  unfold txts
  rw [List.mem_map, List.mem_map]
  constructor
  · rintro ⟨z, hz, rfl⟩; exact ⟨z, (h z).1 hz, rfl⟩
  · rintro ⟨z, hz, rfl⟩; exact ⟨z, (h z).2 hz, rfl⟩
theorem built_twice (a : List ByteArray) : builtB (builtB a) = builtB a := built_ext (fun y => mem_built a y)
theorem built_length (a : List ByteArray) : (builtB a).length ≤ a.length := by
  unfold builtB
  rw [strs_length]
  exact Nat.le_trans (built_le _) (by rw [txts_length]; exact Nat.le_refl _)
structure Pt where
  n : Int
  v : Int
  t : List ByteArray
def Pt.z : Pt := ⟨0, 0, []⟩
def mg (c : Int) (p q : Pt) : Pt :=
  if p.n = 0 then (if q.n = 0 then ⟨0, 0, []⟩ else ⟨q.n, q.v, builtB q.t⟩) else if q.n = 0 then ⟨p.n, p.v, builtB p.t⟩ else ⟨IntKind.u64.wrap (p.n + q.n), mergeV c p.v q.v, builtB (p.t ++ q.t)⟩
structure Fit (c : Int) (b : Int) (p : Pt) : Prop where
  lo : 0 ≤ p.n
  hi : p.n ≤ b
  zv : p.n = 0 → p.v = 0
  zt : p.n = 0 → p.t = []
  bt : builtB p.t = p.t
  len : (p.t.length : Int) ≤ p.n
  tx : c ≠ 5 → p.t = []
  vz : c = 1 ∨ c = 5 → p.v = 0
  sz : ∀ s ∈ p.t, s.size ≤ 64
  tn : c = 5 → p.n ≠ 0 → p.t ≠ []
theorem u64_small {n : Int} (h0 : 0 ≤ n) (h : n < 18446744073709551616) : IntKind.u64.wrap n = n := by
  show n % 18446744073709551616 = n
  omega
theorem fit_z (c b : Int) (hb : 0 ≤ b) : Fit c b Pt.z := ⟨Int.le_refl _, hb, fun _ => rfl, fun _ => rfl, builtB_nil, Int.le_refl _, fun _ => rfl, fun _ => rfl, fun s h => (by cases h), fun _ h => absurd rfl h⟩
theorem mg_fit {c b b' : Int} {p q : Pt} (hp : Fit c b p) (hq : Fit c b' q) (hb : b + b' < 4611686018427387904) (hb0 : 0 ≤ b) (hb1 : 0 ≤ b') : Fit c (b + b') (mg c p q) := by
  have h1 := hp.lo; have h2 := hp.hi; have h3 := hq.lo; have h4 := hq.hi
  unfold mg
  by_cases hpz : p.n = 0
  · rw [if_pos hpz]
    by_cases hqz : q.n = 0
    · rw [if_pos hqz]
      exact fit_z c _ (by omega)
    · rw [if_neg hqz, hq.bt]
      exact ⟨h3, by show q.n ≤ _; omega, hq.zv, hq.zt, hq.bt, hq.len, hq.tx, hq.vz, hq.sz, hq.tn⟩
  · rw [if_neg hpz]
    by_cases hqz : q.n = 0
    · rw [if_pos hqz, hp.bt]
      exact ⟨h1, by show p.n ≤ _; omega, hp.zv, hp.zt, hp.bt, hp.len, hp.tx, hp.vz, hp.sz, hp.tn⟩
    · rw [if_neg hqz, u64_small (by omega) (by omega)]
      refine ⟨by show (0 : Int) ≤ p.n + q.n; omega, by show p.n + q.n ≤ _; omega, fun h => ?_, fun h => ?_, built_twice _, ?_, fun h => ?_, fun h => ?_, fun s hs => ?_, fun h5 _ he => ?_⟩
      · have : p.n + q.n = 0 := h
        omega
      · have : p.n + q.n = 0 := h
        omega
      · have := built_length (p.t ++ q.t)
        rw [List.length_append] at this
        have h5 := hp.len
        have h6 := hq.len
        show ((builtB (p.t ++ q.t)).length : Int) ≤ p.n + q.n
        omega
      · show builtB (p.t ++ q.t) = []
        rw [hp.tx h, hq.tx h]
        exact builtB_nil
      · show mergeV c p.v q.v = 0
        rw [hp.vz h, hq.vz h]
        unfold mergeV
        rcases h with rfl | rfl <;> simp
      · have := (mem_built _ _).1 hs
        rcases List.mem_append.1 this with h | h
        · exact hp.sz s h
        · exact hq.sz s h
      · have he' : builtB (p.t ++ q.t) = [] := he
        refine hp.tn h5 hpz (List.eq_nil_iff_forall_not_mem.2 (fun y hy => ?_))
        have := (mem_built (p.t ++ q.t) y).2 (List.mem_append_left _ hy)
        rw [he'] at this
        cases this
theorem mg_zero {c b : Int} {p : Pt} (hp : Fit c b p) : mg c p Pt.z = p := by
  unfold mg Pt.z
  by_cases hpz : p.n = 0
  · rw [if_pos hpz, if_pos rfl]
    have h1 := hp.zv hpz
    have h2 := hp.zt hpz
    cases p
    simp_all
  · rw [if_neg hpz, if_pos rfl, hp.bt]
theorem mg_n {c b b' : Int} {p q : Pt} (hp : Fit c b p) (hq : Fit c b' q) (hb : b + b' < 4611686018427387904) : (mg c p q).n = p.n + q.n := by
  have h1 := hp.lo; have h2 := hp.hi; have h3 := hq.lo; have h4 := hq.hi
  unfold mg
  by_cases hpz : p.n = 0
  · by_cases hqz : q.n = 0
    · rw [if_pos hpz, if_pos hqz]; show (0 : Int) = _; omega
    · rw [if_pos hpz, if_neg hqz]; show q.n = _; omega
  · by_cases hqz : q.n = 0
    · rw [if_neg hpz, if_pos hqz]; show p.n = _; omega
    · rw [if_neg hpz, if_neg hqz]
      exact u64_small (by omega) (by omega)
theorem merge_is {c c1 b b' : Int} {p q : Pt} (hc : 1 ≤ c ∧ c ≤ 5) (hp : Fit c b p) (hq : Fit c b' q) (hl : p.t.length + q.t.length < 8796093022208) : agg_Merge.f c c1 p.n p.v p.t q.n q.v q.t = some ((mg c p q).n, (mg c p q).v, (mg c p q).t) := by
  unfold agg_Merge.f mg mfin
  rw [if_neg (by omega)]
  by_cases hpz : p.n = 0
  · by_cases hqz : q.n = 0
    · simp only [if_pos hpz, if_pos hqz]
    · simp only [if_pos hpz, if_neg hqz]
      rw [if_pos (by omega)]
  · by_cases hqz : q.n = 0
    · simp only [if_neg hpz, if_pos hqz]
      rw [if_pos (by omega)]
    · simp only [if_neg hpz, if_neg hqz]
      rw [if_pos (by rw [List.length_append]; omega)]
structure FitM (m : S44) : Prop where
  n0 : 0 ≤ m.f1
  n1 : m.f1 < 1125899906842624
  d : m.f0.f1.length = 2
  e : m.f0.f2.length = 2
  s : ∀ x ∈ m.f0.f1, x.size ≤ 64
def unit (c c1 : Int) (m : S44) : Pt :=
  if m.f1 = 0 then Pt.z else if c = 1 then ⟨m.f1, 0, []⟩ else if c = 5 then ⟨m.f1, 0, [m.f0.f1.getD c1.toNat ⟨#[]⟩]⟩ else ⟨m.f1, manyV c (rd m.f0.f2 c1) m.f1, []⟩
theorem unit_fit {c c1 : Int} {m : S44} (hc : 1 ≤ c ∧ c ≤ 5) (h1 : 0 ≤ c1 ∧ c1 < 2) (hm : FitM m) : Fit c 1125899906842624 (unit c c1 m) := by
  have h2 := hm.n0; have h3 := hm.n1
  unfold unit
  by_cases hz : m.f1 = 0
  · rw [if_pos hz]; exact fit_z _ _ (by omega)
  rw [if_neg hz]
  by_cases hc1 : c = 1
  · rw [if_pos hc1]
    exact ⟨h2, by show m.f1 ≤ _; omega, fun _ => rfl, fun _ => rfl, builtB_nil, h2, fun _ => rfl, fun _ => rfl, fun s h => (by cases h), fun h _ => by omega⟩
  rw [if_neg hc1]
  by_cases hc5 : c = 5
  · rw [if_pos hc5]
    refine ⟨h2, by show m.f1 ≤ _; omega, fun _ => rfl, fun h => absurd h hz, builtB_one _, by show (1 : Int) ≤ m.f1; omega, fun h => absurd hc5 h, fun _ => rfl, fun s hs => ?_, fun _ _ h => by cases h⟩
    have e := List.mem_singleton.1 hs
    subst e
    have hlt : c1.toNat < m.f0.f1.length := by have := hm.d; omega
    rw [List.getD_eq_getElem?_getD, List.getElem?_eq_getElem hlt]
    exact hm.s _ (List.getElem_mem hlt)
  · rw [if_neg hc5]
    exact ⟨h2, by show m.f1 ≤ _; omega, fun h => absurd h hz, fun _ => rfl, builtB_nil, h2, fun _ => rfl, fun h => (by omega), fun s h => (by cases h), fun h => absurd h hc5⟩
theorem add_is {c c1 b : Int} {p : Pt} {m : S44} (hc : 1 ≤ c ∧ c ≤ 5) (h1 : 0 ≤ c1 ∧ c1 < 2) (hp : Fit c b p) (hm : FitM m) (hl : p.t.length + 1 < 8796093022208) :
    agg_Add.f c c1 p.n p.v p.t m.f0.f0 m.f0.f1 m.f0.f2 m.f1 = some ((mg c p (unit c c1 m)).n, (mg c p (unit c c1 m)).v, (mg c p (unit c c1 m)).t) := by
  have hu := unit_fit hc h1 hm
  have key : agg_Add.f c c1 p.n p.v p.t m.f0.f0 m.f0.f1 m.f0.f2 m.f1 = agg_Merge.f c c1 p.n p.v p.t (unit c c1 m).n (unit c c1 m).v (unit c c1 m).t := by
    have hd := hm.d; have he := hm.e
    unfold agg_Add.f unit
    rw [if_neg (by omega)]
    by_cases hz : m.f1 = 0
    · rw [if_pos hz, if_pos hz]; rfl
    rw [if_neg hz, if_neg hz]
    by_cases hc1 : c = 1
    · rw [if_pos hc1, if_pos hc1]
    rw [if_neg hc1, if_neg hc1]
    by_cases hc5 : c = 5
    · rw [if_pos hc5, if_pos hc5, if_pos (by omega)]
    · rw [if_neg hc5, if_neg hc5, if_pos (by omega)]
  rw [key]
  refine merge_is hc hp hu ?_
  have : (unit c c1 m).t.length ≤ 1 := by
    unfold unit
    split
    · exact Nat.zero_le _
    · split
      · exact Nat.zero_le _
      · split
        · exact Nat.le_refl _
        · exact Nat.zero_le _
  omega
def sp (c c1 : Int) (l : List S44) : Pt := l.foldl (fun p m => mg c p (unit c c1 m)) Pt.z
theorem sp_snoc (c c1 : Int) (l : List S44) (m : S44) : sp c c1 (l ++ [m]) = mg c (sp c c1 l) (unit c c1 m) := by
  unfold sp; rw [List.foldl_append]; rfl
def FitL (l : List S44) : Prop := ∀ m ∈ l, FitM m
theorem snoc_ind {P : List S44 → Prop} (h0 : P []) (h : ∀ l m, P l → P (l ++ [m])) (l : List S44) : P l := by
  rw [← List.reverse_reverse l]
  induction l.reverse with
  | nil => exact h0
  | cons m r ih => rw [List.reverse_cons]; exact h _ _ ih
theorem sp_fit {c c1 : Int} (hc : 1 ≤ c ∧ c ≤ 5) (h1 : 0 ≤ c1 ∧ c1 < 2) (l : List S44) : FitL l → l.length ≤ 1000 → Fit c (1125899906842624 * (l.length : Int)) (sp c c1 l) := by
  refine snoc_ind (P := fun l => FitL l → l.length ≤ 1000 → Fit c (1125899906842624 * (l.length : Int)) (sp c c1 l)) (fun _ _ => fit_z _ _ (by simp)) (fun l m ih hf hl => ?_) l
  rw [List.length_append, List.length_singleton] at hl ⊢
  rw [sp_snoc]
  have := mg_fit (ih (fun x hx => hf x (by simp [hx])) (by omega)) (unit_fit hc h1 (hf m (by simp))) (by omega) (by omega) (by omega)
  refine ⟨this.lo, Int.le_trans this.hi (by omega), this.zv, this.zt, this.bt, this.len, this.tx, this.vz, this.sz, this.tn⟩
end Go.Proofs.Ytmjhgeinhhhodaa.Ext
end

section
namespace Go.Proofs.Ytmjhgeinhhhodaa.Ext
set_option linter.unusedVariables false
set_option linter.unusedSimpArgs false
open Go.RowKit Go.Proofs.YtmjhgeinhhhodaaW.PrintWords Go.Proofs.Ytmjhgeinhhhodaa.P Go.Proofs.Ytmjhgeinhhhodaa.Txt
theorem rd44 (l : List S44) (j : Nat) (hj : j < l.length) : rd_T44 l (j : Int) = l[j] := by unfold rd_T44; simp [hj]
theorem sp_t_len {c c1 : Int} (hc : 1 ≤ c ∧ c ≤ 5) (h1 : 0 ≤ c1 ∧ c1 < 2) (l : List S44) : FitL l → l.length ≤ 1000 → (sp c c1 l).t.length ≤ l.length := by
  refine snoc_ind (P := fun l => FitL l → l.length ≤ 1000 → (sp c c1 l).t.length ≤ l.length) (fun _ _ => Nat.le_refl _) (fun l m ih hf hl => ?_) l
  rw [List.length_append, List.length_singleton] at hl ⊢
  have hf' : FitL l := fun z hz => hf z (by simp [hz])
  have hm := hf m (by simp)
  have h := ih hf' (by omega)
  have hs := sp_fit hc h1 l hf' (by omega)
  have hu := unit_fit hc h1 hm
  have hul : (unit c c1 m).t.length ≤ 1 := by
    unfold unit
    split
    · exact Nat.zero_le _
    · split
      · exact Nat.zero_le _
      · split
        · exact Nat.le_refl _
        · exact Nat.zero_le _
  rw [sp_snoc]
  unfold mg
  by_cases hpz : (sp c c1 l).n = 0
  · by_cases hqz : (unit c c1 m).n = 0
    · rw [if_pos hpz, if_pos hqz]; exact Nat.zero_le _
    · rw [if_pos hpz, if_neg hqz]
      show (builtB (unit c c1 m).t).length ≤ _
      rw [hu.bt]; omega
  · by_cases hqz : (unit c c1 m).n = 0
    · rw [if_neg hpz, if_pos hqz]
      show (builtB (sp c c1 l).t).length ≤ _
      rw [hs.bt]; omega
    · rw [if_neg hpz, if_neg hqz]
      have := built_length ((sp c c1 l).t ++ (unit c c1 m).t)
      rw [List.length_append] at this
      show (builtB ((sp c c1 l).t ++ (unit c c1 m).t)).length ≤ _
      omega
theorem take_snoc (l : List S44) (j : Nat) (hj : j < l.length) : l.take (j + 1) = l.take j ++ [l[j]] := List.take_succ_eq_append_getElem hj
theorem FitL.take {l : List S44} (h : FitL l) (j : Nat) : FitL (l.take j) := fun m hm => h m (List.mem_of_mem_take hm)
theorem of_step {c c1 b : Int} (hc : 1 ≤ c ∧ c ≤ 5) (h1 : 0 ≤ c1 ∧ c1 < 2) (l : List S44) (hf : FitL l) (hl : l.length ≤ 1000) (j k : Nat) (hj : j < l.length) (p : Pt) (hp : Fit c b p) (ht : p.t.length ≤ 1000) :
    gristmilllaw06_of.l0 (k + 1) l (j : Int) c c1 p.n p.v p.t = gristmilllaw06_of.l0 k l ((j + 1 : Nat) : Int) c c1 (mg c p (unit c c1 l[j])).n (mg c p (unit c c1 l[j])).v (mg c p (unit c c1 l[j])).t := by
  have e : wrap64 ((j : Int) + 1) = ((j + 1 : Nat) : Int) := by unfold wrap64; omega
  have ha := add_is hc h1 hp (hf _ (List.getElem_mem hj)) (Nat.lt_of_le_of_lt (Nat.succ_le_succ ht) (by decide))
  have hi : (j : Int) < (l.length : Int) := Int.ofNat_lt.2 hj
  rw [gristmilllaw06_of.l0, if_pos hi, if_pos (Int.natCast_nonneg j), rd44 l j hj, ha, e]
  rfl
theorem of_end {c c1 : Int} (l : List S44) (k : Nat) (p : Pt) : gristmilllaw06_of.l0 (k + 1) l ((l.length : Nat) : Int) c c1 p.n p.v p.t = some (p.n, p.v, p.t) := by
  rw [gristmilllaw06_of.l0, if_neg (Int.lt_irrefl _)]
theorem of_loop {c c1 : Int} (hc : 1 ≤ c ∧ c ≤ 5) (h1 : 0 ≤ c1 ∧ c1 < 2) (l : List S44) (hf : FitL l) (hl : l.length ≤ 1000) : ∀ (n j : Nat), j + n = l.length → ∀ (k : Nat) (p : Pt), p = sp c c1 (l.take j) →
    gristmilllaw06_of.l0 (k + n + 1) l (j : Int) c c1 p.n p.v p.t = some ((sp c c1 l).n, (sp c c1 l).v, (sp c c1 l).t) := by
  intro n
  induction n with
  | zero =>
    intro j hj k p hp
    have e : l.take j = l := List.take_of_length_le (by omega)
    rw [e] at hp
    have hj' : j = l.length := by omega
    subst hj'
    rw [← hp]
    exact of_end l k p
  | succ n ih =>
    intro j hj k p hp
    have hjl : j < l.length := by omega
    have hlt : (l.take j).length ≤ 1000 := by rw [List.length_take]; omega
    have ht : p.t.length ≤ 1000 := by rw [hp]; exact Nat.le_trans (sp_t_len hc h1 (l.take j) (hf.take j) hlt) hlt
    have hfp := sp_fit hc h1 (l.take j) (hf.take j) hlt
    rw [← hp] at hfp
    have hs := of_step hc h1 l hf hl j (k + n + 1) hjl p hfp ht
    rw [show k + (n + 1) + 1 = (k + n + 1) + 1 by omega, hs]
    exact ih (j + 1) (by omega) k _ (by rw [take_snoc l j hjl, sp_snoc, hp])
theorem of_is {c c1 : Int} (hc : 1 ≤ c ∧ c ≤ 5) (h1 : 0 ≤ c1 ∧ c1 < 2) (l : List S44) (hf : FitL l) (hl : l.length ≤ 1000) (k : Nat) (hk : 1001 ≤ k) : gristmilllaw06_of.f k c c1 l = some ((sp c c1 l).n, (sp c c1 l).v, (sp c c1 l).t) := by
  have := of_loop hc h1 l hf hl l.length 0 (by omega) (k - l.length - 1) Pt.z rfl
  rw [show k - l.length - 1 + l.length + 1 = k by omega] at this
  unfold gristmilllaw06_of.f agg_Start.f
  exact this
theorem same_loop (n v : Int) (t : List ByteArray) (ht : t.length ≤ 100000) : ∀ (m j : Nat), j + m = t.length → ∀ k, gristmillref06_Same.l0 (k + m + 1) (j : Int) n v t n v t = some true
  | 0, j, hj, k => by rw [gristmillref06_Same.l0, if_neg (by omega)]
  | m + 1, j, hj, k => by
    have e : wrap64 ((j : Int) + 1) = ((j + 1 : Nat) : Int) := by unfold wrap64; omega
    rw [show k + (m + 1) + 1 = (k + m + 1) + 1 by omega, gristmillref06_Same.l0, if_pos (by omega), if_pos (by omega), if_pos (by omega), if_pos rfl, e]
    exact same_loop n v t ht m (j + 1) (by omega) k
theorem same_is (n v : Int) (t : List ByteArray) (ht : t.length ≤ 1000) (k : Nat) (hk : 1002 ≤ k) : gristmillref06_Same.f k n v t n v t = some true := by
  have := same_loop n v t (by omega) t.length 0 (by omega) (k - t.length - 2)
  unfold gristmillref06_Same.f
  rw [if_pos rfl, if_pos rfl, show k = (k - t.length - 2 + t.length + 1) + 1 by omega, gristmillref06_Same.j0]
  rw [if_neg (by simp)]
  exact this
theorem abs_is (n : Int) (h : (Lit.int .i64 n).wf = true) : ∃ m : Int, gristmilllaw06_abs.f n = some m ∧ 0 ≤ m := by
  simp only [Lit.wf, Bool.and_eq_true, decide_eq_true_eq] at h
  have h1 : -9223372036854775808 ≤ n := h.1
  have h2 : n ≤ 9223372036854775807 := by have := h.2; exact this
  unfold gristmilllaw06_abs.f
  by_cases hn : n < 0
  · rw [if_pos hn]
    refine ⟨_, rfl, ?_⟩
    unfold wrap64; omega
  · rw [if_neg hn]
    exact ⟨n, rfl, by omega⟩
theorem up_ {α : Type} (g : Nat → Option α) (h : ∀ k, LeO (g k) (g (k + 1))) {k0 k : Nat} {r : α} (h0 : g k0 = some r) (hk : k0 ≤ k) : g k = some r := by
  obtain ⟨d, rfl⟩ : ∃ d, k = k0 + d := ⟨k - k0, by omega⟩
  clear hk
  induction d with
  | zero => exact h0
  | succ d ih => exact h _ r ih
def DimsFit (D : List ByteArray) : Prop := D.length = 2 ∧ ∀ s ∈ D, s.size ≤ 64
theorem dims_set {D : List ByteArray} (h : DimsFit D) (i : Nat) (x : ByteArray) (hx : x.size ≤ 64) : DimsFit (D.set i x) := by
  refine ⟨by rw [List.length_set]; exact h.1, fun s hs => ?_⟩
  rcases List.mem_or_eq_of_mem_set hs with h1 | h1
  · exact h.2 s h1
  · rw [h1]; exact hx
theorem right_inner (l acc : List S44) (i : Nat) (hi : i < l.length) (c0 c1 : Int) (t : Int) (D : List ByteArray) (M : List Int) (hD : DimsFit D) (hM : M.length = 2) (x : Nat) (hx : x < 2) (k : Nat) :
    ∃ D' M', DimsFit D' ∧ M'.length = 2 ∧ gristmilllaw06_right.l1 (k + 2) l acc (i : Int) (x : Int) c0 c1 2 2 t D M = gristmilllaw06_right.l1 k l acc (i : Int) ((x + 1 : Nat) : Int) c0 c1 2 2 t D' M' := by
  have e : wrap64 ((x : Int) + 1) = ((x + 1 : Nat) : Int) := by unfold wrap64; omega
  have hi' : (i : Int) < (l.length : Int) := Int.ofNat_lt.2 hi
  have hi0 : 0 ≤ (i : Int) := Int.natCast_nonneg i
  have hx0 : 0 ≤ (x : Int) := Int.natCast_nonneg x
  have hx2 : (x : Int) < 2 := by omega
  have hD1 := hD.1
  obtain ⟨m, hm⟩ : ∃ m, rd_T44 l (i : Int) = m := ⟨_, rfl⟩
  rw [show k + 2 = (k + 1) + 1 from rfl, gristmilllaw06_right.l1, if_pos hx2, if_pos hi0, if_pos hi', hm]
  -- what is done for the numbers
  have meas : ∀ (D2 : List ByteArray), DimsFit D2 → ∃ D' M', DimsFit D' ∧ M'.length = 2 ∧
      (if (x : Int) < ((m.f0.f2).length : Int) then (if (x : Int) < (M.length : Int) then (gristmilllaw06_right.l1 k l acc (i : Int) (wrap64 ((x : Int) + 1)) c0 c1 2 2 t D2 (M.set (x : Int).toNat (rd (m.f0.f2) (x : Int)))) else none) else (gristmilllaw06_right.l1 k l acc (i : Int) (wrap64 ((x : Int) + 1)) c0 c1 2 2 t D2 M)) =
      gristmilllaw06_right.l1 k l acc (i : Int) ((x + 1 : Nat) : Int) c0 c1 2 2 t D' M' := by
    intro D2 hD2
    rw [e]
    by_cases h : (x : Int) < ((m.f0.f2).length : Int)
    · rw [if_pos h, if_pos (by omega)]
      exact ⟨D2, _, hD2, by rw [List.length_set]; exact hM, rfl⟩
    · rw [if_neg h]
      exact ⟨D2, M, hD2, hM, rfl⟩
  have noth : ∃ D' M', DimsFit D' ∧ M'.length = 2 ∧ gristmilllaw06_right.j3 (k + 1) l acc (i : Int) (x : Int) false c0 c1 2 2 t D M = gristmilllaw06_right.l1 k l acc (i : Int) ((x + 1 : Nat) : Int) c0 c1 2 2 t D' M' := by
    rw [gristmilllaw06_right.j3, if_neg (by simp), if_pos hi0, if_pos hi', hm]
    obtain ⟨D', M', h1, h2, h3⟩ := meas D hD
    refine ⟨D', M', h1, h2, ?_⟩
    rw [← h3]
    split
    · first | rfl | rw [if_pos hx0]
    · rfl
  by_cases hd : (x : Int) < ((m.f0.f1).length : Int)
  · rw [if_pos hd, if_pos hx0]
    by_cases h64 : ((rdOf ByteArray.empty (m.f0.f1) (x : Int)).size : Int) ≤ 64
    · rw [decide_eq_true h64]
      obtain ⟨D', M', h1, h2, h3⟩ := meas (D.set (x : Int).toNat (rdOf ByteArray.empty (m.f0.f1) (x : Int))) (dims_set hD _ _ (by omega))
      refine ⟨D', M', h1, h2, ?_⟩
      rw [gristmilllaw06_right.j3, if_pos rfl, if_pos hi0, if_pos hi', if_pos hx0, hm, if_pos hd, if_pos (show (x : Int) < (D.length : Int) by omega), Option.bind_some]
      exact h3
    · rw [decide_eq_false h64]
      exact noth
  · rw [if_neg hd]
    exact noth
theorem right_one (l acc : List S44) (i : Nat) (hi : i < l.length) (hi40 : i < 40) (hn : 0 ≤ l[i].f1) (ha : acc.length ≤ 40) (c0 c1 : Int) (k : Nat) :
    ∃ m, FitM m ∧ gristmilllaw06_right.l0 (k + 7) l acc (i : Int) c0 c1 2 2 = gristmilllaw06_right.l0 k l (acc ++ [m]) ((i + 1 : Nat) : Int) c0 c1 2 2 := by
  have e : wrap64 ((i : Int) + 1) = ((i + 1 : Nat) : Int) := by unfold wrap64; omega
  have hi' : (i : Int) < (l.length : Int) := Int.ofNat_lt.2 hi
  have hi0 : 0 ≤ (i : Int) := Int.natCast_nonneg i
  have hr := rd44 l i hi
  have h0 : DimsFit [(⟨#[]⟩ : ByteArray), (⟨#[]⟩ : ByteArray)] := ⟨rfl, fun s hs => by
    simp only [List.mem_cons, List.not_mem_nil, or_false, or_self] at hs
    subst hs; decide⟩
  obtain ⟨D1, M1, hD1, hM1, e1⟩ := right_inner l acc i hi c0 c1 (l[i].f0.f0) _ [0, 0] h0 rfl 0 (by omega) (k + 3)
  obtain ⟨D2, M2, hD2, hM2, e2⟩ := right_inner l acc i hi c0 c1 (l[i].f0.f0) D1 M1 hD1 hM1 1 (by omega) (k + 1)
  refine ⟨⟨⟨l[i].f0.f0, D2, M2⟩, Int.tmod l[i].f1 1125899906842624⟩, ⟨Int.tmod_nonneg _ hn, Int.tmod_lt_of_pos _ (by omega), hD2.1, hM2, hD2.2⟩, ?_⟩
  rw [show k + 7 = (k + 6) + 1 from rfl, gristmilllaw06_right.l0, if_pos hi', decide_eq_true (show (i : Int) < 40 by omega), show k + 6 = (k + 5) + 1 from rfl, gristmilllaw06_right.j1, if_pos rfl, if_pos hi0, if_pos hi', hr]
  have e1' : gristmilllaw06_right.l1 (k + 5) l acc (i : Int) 0 c0 c1 2 2 (l[i].f0.f0) [(⟨#[]⟩ : ByteArray), (⟨#[]⟩ : ByteArray)] [0, 0] = gristmilllaw06_right.l1 (k + 3) l acc (i : Int) ((1 : Nat) : Int) c0 c1 2 2 (l[i].f0.f0) D1 M1 := e1
  have e2' : gristmilllaw06_right.l1 (k + 3) l acc (i : Int) ((1 : Nat) : Int) c0 c1 2 2 (l[i].f0.f0) D1 M1 = gristmilllaw06_right.l1 (k + 1) l acc (i : Int) ((2 : Nat) : Int) c0 c1 2 2 (l[i].f0.f0) D2 M2 := e2
  rw [e1', e2', gristmilllaw06_right.l1, if_neg (by omega), if_pos hi0, if_pos hi', if_pos (by omega), hr, e]
theorem right_loop (l : List S44) (hn : ∀ m ∈ l, 0 ≤ m.f1) (c0 c1 : Int) : ∀ (n i : Nat), i + n = min l.length 40 → ∀ (acc : List S44) (k : Nat), acc.length = i → FitL acc →
    ∃ r, FitL r ∧ r.length ≤ 40 ∧ gristmilllaw06_right.l0 (k + 7 * n + 2) l acc (i : Int) c0 c1 2 2 = some (2, 2, c0, c1, r) := by
  intro n
  induction n with
  | zero =>
    intro i hi acc k ha hf
    refine ⟨acc, hf, by omega, ?_⟩
    rw [show k + 7 * 0 + 2 = (k + 1) + 1 from rfl, gristmilllaw06_right.l0]
    by_cases h : (i : Int) < (l.length : Int)
    · rw [if_pos h, decide_eq_false (show ¬ (i : Int) < 40 by omega), gristmilllaw06_right.j1, if_neg (by simp)]
    · rw [if_neg h, gristmilllaw06_right.j1, if_neg (by simp)]
  | succ n ih =>
    intro i hi acc k ha hf
    have hil : i < l.length := by omega
    obtain ⟨m, hm, e⟩ := right_one l acc i hil (by omega) (hn _ (List.getElem_mem hil)) (by omega) c0 c1 (k + 7 * n + 2)
    rw [show k + 7 * (n + 1) + 2 = k + 7 * n + 2 + 7 by omega, e]
    exact ih (i + 1) (by omega) (acc ++ [m]) k (by simp [ha]) (fun x hx => by
      rcases List.mem_append.1 hx with h | h
      · exact hf x h
      · rw [List.mem_singleton.1 h]; exact hm)
theorem right_is (a0 a1 : Int) (h0 : (Lit.int .i64 a0).wf = true) (h1 : (Lit.int .i64 a1).wf = true) : ∃ c0 c1 : Int, (1 ≤ c0 ∧ c0 ≤ 5) ∧ (0 ≤ c1 ∧ c1 < 2) ∧
    ∀ (l : List S44), (∀ m ∈ l, 0 ≤ m.f1) → ∃ r, FitL r ∧ r.length ≤ 40 ∧ ∀ k, 300 ≤ k → gristmilllaw06_right.f k a0 a1 l = some (2, 2, c0, c1, r) := by
  obtain ⟨m0, e0, hm0⟩ := abs_is a0 h0
  obtain ⟨m1, e1, hm1⟩ := abs_is a1 h1
  have h5 : 0 ≤ Int.tmod m0 5 ∧ Int.tmod m0 5 < 5 := ⟨Int.tmod_nonneg _ hm0, Int.tmod_lt_of_pos _ (by omega)⟩
  have h2 : 0 ≤ Int.tmod m1 2 ∧ Int.tmod m1 2 < 2 := ⟨Int.tmod_nonneg _ hm1, Int.tmod_lt_of_pos _ (by omega)⟩
  refine ⟨wrap64 (1 + Int.tmod m0 5), Int.tmod m1 2, by unfold wrap64; omega, h2, fun l hl => ?_⟩
  obtain ⟨r, h3, h4, _⟩ := right_loop l hl (wrap64 (1 + Int.tmod m0 5)) (Int.tmod m1 2) (min l.length 40) 0 (by omega) [] 0 rfl (fun x hx => by cases hx)
  refine ⟨r, h3, h4, fun k hk => ?_⟩
  have hb : gristmilllaw06_right.f (0 + 7 * (min l.length 40) + 2) a0 a1 l = some (2, 2, wrap64 (1 + Int.tmod m0 5), Int.tmod m1 2, r) := by
    unfold gristmilllaw06_right.f
    rw [e0, e1]
    assumption
  exact up_ (fun k => gristmilllaw06_right.f k a0 a1 l) (fun k => gristmilllaw06_right.mono a0 a1 l k) hb (by omega)
end Go.Proofs.Ytmjhgeinhhhodaa.Ext
end

section
namespace Go.Proofs.Ytmjhgeinhhhodaa.Ext
set_option linter.unusedVariables false
set_option linter.unusedSimpArgs false
open Go.RowKit Go.Proofs.YtmjhgeinhhhodaaW.PrintWords Go.Proofs.Ytmjhgeinhhhodaa.P Go.Proofs.Ytmjhgeinhhhodaa.Txt
def putL : List ByteArray → ByteArray → List ByteArray
  | [], x => [x]
  | t :: r, x => if t.data.toList = x.data.toList then t :: r else if x.data.toList < t.data.toList then x :: t :: r else t :: putL r x
theorem putL_mem : ∀ (l : List ByteArray) (x y : ByteArray), y ∈ putL l x ↔ y ∈ l ∨ y = x
  | [], x, y => by simp [putL]
  | t :: r, x, y => by
    unfold putL
    by_cases h : t.data.toList = x.data.toList
    · have e := (bs_eq t x).2 h
      subst e
      rw [if_pos rfl]
      constructor
      · exact .inl
      · rintro (h | rfl)
        · exact h
        · simp
    · rw [if_neg h]
      by_cases h2 : x.data.toList < t.data.toList
      · rw [if_pos h2]; simp only [List.mem_cons]
        constructor
        · rintro (h | h | h)
          · exact .inr h
          · exact .inl (.inl h)
          · exact .inl (.inr h)
        · rintro ((h | h) | h)
          · exact .inr (.inl h)
          · exact .inr (.inr h)
          · exact .inl h
      · rw [if_neg h2, List.mem_cons, putL_mem r x y, List.mem_cons]
        constructor
        · rintro (h | h | h)
          · exact .inl (.inl h)
          · exact .inl (.inr h)
          · exact .inr h
        · rintro ((h | h) | h)
          · exact .inl h
          · exact .inr (.inl h)
          · exact .inr (.inr h)
theorem putL_rises : ∀ (l : List ByteArray) (x : ByteArray), l.Pairwise (fun a b => a.data.toList < b.data.toList) → (putL l x).Pairwise (fun a b => a.data.toList < b.data.toList)
  | [], x, _ => by simp [putL]
  | t :: r, x, h => by
    unfold putL
    rw [List.pairwise_cons] at h
    by_cases h1 : t.data.toList = x.data.toList
    · rw [if_pos h1, List.pairwise_cons]; exact h
    · rw [if_neg h1]
      by_cases h2 : x.data.toList < t.data.toList
      · rw [if_pos h2, List.pairwise_cons, List.pairwise_cons]
        refine ⟨fun y hy => ?_, h⟩
        rcases List.mem_cons.1 hy with rfl | hy
        · exact h2
        · exact lt_trans h2 (h.1 y hy)
      · rw [if_neg h2, List.pairwise_cons]
        refine ⟨fun y hy => ?_, putL_rises r x h.2⟩
        rcases (putL_mem r x y).1 hy with hy | rfl
        · exact h.1 y hy
        · rcases lt_or t.data.toList y.data.toList with h3 | h3 | h3
          · exact h3
          · exact absurd h3 h1
          · exact absurd h3 h2
theorem built_of_rises {l : List ByteArray} (h : l.Pairwise (fun a b => a.data.toList < b.data.toList)) : builtB l = l := by
  have h2 : (txts l).Pairwise (· < ·) := by unfold txts; rw [List.pairwise_map]; exact h
  have e : Txt.built (txts l) = txts l := rises_same (built_rises _) h2 (fun y => built_mem _ _)
  unfold builtB
  rw [e]
  unfold strs txts
  rw [List.map_map]
  conv => rhs; rw [← List.map_id l]
  exact List.map_congr_left (fun x _ => bs_of x)
theorem rises_of_built {l : List ByteArray} (h : builtB l = l) : l.Pairwise (fun a b => a.data.toList < b.data.toList) := by
  have h2 := built_rises (txts l)
  have e : txts l = Txt.built (txts l) := by
    conv => lhs; rw [← h]
    unfold builtB
    rw [txts_strs]
  rw [← e] at h2
  unfold txts at h2
  rwa [List.pairwise_map] at h2
theorem putL_built {l : List ByteArray} (h : builtB l = l) (x : ByteArray) : putL l x = builtB (l ++ [x]) := by
  rw [← built_of_rises (putL_rises l x (rises_of_built h))]
  exact built_ext (fun y => by rw [putL_mem]; simp)
theorem putL_cons (t : ByteArray) (r : List ByteArray) (x : ByteArray) : putL (t :: r) x = if t.data.toList = x.data.toList then t :: r else if x.data.toList < t.data.toList then x :: t :: r else t :: putL r x := rfl
theorem put_true (l : List ByteArray) (x : ByteArray) (hl : l.length ≤ 1000) : ∀ (n i : Nat), i + n = l.length → ∀ (out : List ByteArray) (k : Nat), out.length ≤ i + 1 → gristmillref06_put.l0 (k + n + 1) l x out true (i : Int) = some (out ++ l.drop i) := by
  intro n
  induction n with
  | zero =>
    intro i hi out k ho
    rw [gristmillref06_put.l0, if_neg (by omega), if_pos rfl, List.drop_of_length_le (by omega), List.append_nil]
  | succ n ih =>
    intro i hi out k ho
    have hil : i < l.length := by omega
    have e : wrap64 ((i : Int) + 1) = ((i + 1 : Nat) : Int) := by unfold wrap64; omega
    have hr : rdOf ByteArray.empty l (i : Int) = l[i] := by unfold rdOf; simp [hil]
    have hnext := ih (i + 1) (by omega) (out ++ [l[i]]) k (by simp; omega)
    have hd : out ++ [l[i]] ++ l.drop (i + 1) = out ++ l.drop i := by rw [List.append_assoc, List.drop_eq_getElem_cons hil]; rfl
    rw [hd] at hnext
    rw [show k + (n + 1) + 1 = (k + n + 1) + 1 by omega, gristmillref06_put.l0, if_pos (by omega), if_pos (by omega), hr, e, hnext]
    have ho2 : out.length < 8796093022208 := by omega
    simp only [if_pos ho2, if_true, ite_self]
theorem put_loop (l : List ByteArray) (x : ByteArray) (hl : l.length ≤ 1000) : ∀ (n i : Nat), i + n = l.length → ∀ (out : List ByteArray) (k : Nat), out.length ≤ i → gristmillref06_put.l0 (k + n + 1) l x out false (i : Int) = some (out ++ putL (l.drop i) x) := by
  intro n
  induction n with
  | zero =>
    intro i hi out k ho
    rw [gristmillref06_put.l0, if_neg (by omega), if_neg (by simp), if_pos (by omega), List.drop_of_length_le (by omega)]
    rfl
  | succ n ih =>
    intro i hi out k ho
    have hil : i < l.length := by omega
    have e : wrap64 ((i : Int) + 1) = ((i + 1 : Nat) : Int) := by unfold wrap64; omega
    have hr : rdOf ByteArray.empty l (i : Int) = l[i] := by unfold rdOf; simp [hil]
    have ho2 : out.length < 8796093022208 := by omega
    have hy : (out ++ [x]).length < 8796093022208 := by simp; omega
    have n1 := put_true l x hl n (i + 1) (by omega) (out ++ [l[i]]) k (by simp; omega)
    have n2 := put_true l x hl n (i + 1) (by omega) (out ++ [x] ++ [l[i]]) k (by simp; omega)
    have n3 := ih (i + 1) (by omega) (out ++ [l[i]]) k (by simp; omega)
    rw [show k + (n + 1) + 1 = (k + n + 1) + 1 by omega, gristmillref06_put.l0, if_pos (by omega), if_pos (by omega), hr, e, List.drop_eq_getElem_cons hil]
    rw [putL_cons]
    simp only [if_pos ho2, Option.bind_some, if_pos hy, n1, n2, n3, less_is]
    by_cases h1 : l[i].data.toList = x.data.toList
    · have h1' : l[i].toList = x.toList := by rw [ByteArray.toList_eq, ByteArray.toList_eq]; exact h1
      rw [if_pos h1, if_pos h1', ite_self]; simp
    · have h1' : ¬ l[i].toList = x.toList := by rw [ByteArray.toList_eq, ByteArray.toList_eq]; exact h1
      rw [if_neg h1, if_neg h1']
      by_cases h2 : x.data.toList < l[i].data.toList
      · rw [if_pos (decide_eq_true h2), if_neg (by simp), if_pos h2]; simp
      · rw [if_neg (by simpa using h2), if_neg h2]; simp
theorem put_is (l : List ByteArray) (x : ByteArray) (hl : l.length ≤ 1000) (hb : builtB l = l) (k : Nat) (hk : 1001 ≤ k) : gristmillref06_put.f k l x = some (builtB (l ++ [x])) := by
  have := put_loop l x hl l.length 0 (by omega) [] (k - l.length - 1) (Nat.le_refl _)
  rw [show k - l.length - 1 + l.length + 1 = k by omega] at this
  unfold gristmillref06_put.f
  rw [← putL_built hb]
  exact this
end Go.Proofs.Ytmjhgeinhhhodaa.Ext
end

section
namespace Go.Proofs.Ytmjhgeinhhhodaa.Ext
set_option linter.unusedVariables false
set_option linter.unusedSimpArgs false
open Go.RowKit Go.Proofs.YtmjhgeinhhhodaaW.PrintWords Go.Proofs.Ytmjhgeinhhhodaa.P Go.Proofs.Ytmjhgeinhhhodaa.Txt
theorem wrap64_congr {a b : Int} (h : a % 18446744073709551616 = b % 18446744073709551616) : wrap64 a = wrap64 b := by unfold wrap64; omega
theorem many_sum (x n : Int) (h0 : 0 ≤ n) (h1 : n < 1125899906842624) : wrap64 (x * wrap64 n) = manyV 2 x n := by
  have e : wrap64 n = n := by unfold wrap64; omega
  rw [e]
  unfold manyV
  rw [if_pos rfl]
  refine wrap64_congr ?_
  show x * n % 18446744073709551616 = (x % 18446744073709551616 * n % 18446744073709551616) % 18446744073709551616
  rw [Int.emod_emod_of_dvd _ (Int.dvd_refl _), Int.mul_emod, Int.mul_emod (x % 18446744073709551616) n, Int.emod_emod_of_dvd _ (Int.dvd_refl _)]
theorem many_wrap (x n : Int) : wrap64 (0 + manyV 2 x n) = manyV 2 x n := by
  unfold manyV
  rw [if_pos rfl]
  unfold wrap64; omega
theorem text_at (l : List ByteArray) (c1 : Int) (h0 : 0 ≤ c1) (h : c1 < (l.length : Int)) : rdOf ByteArray.empty l c1 = l.getD c1.toNat ⟨#[]⟩ := by
  have : c1.toNat < l.length := by omega
  unfold rdOf
  simp [this]
theorem ref_step {c c1 b : Int} (hc : 1 ≤ c ∧ c ≤ 5) (h1 : 0 ≤ c1 ∧ c1 < 2) (l : List S44) (hf : FitL l) (hl : l.length ≤ 1000) (j k : Nat) (hk : 1001 ≤ k) (hj : j < l.length) (p q : Pt) (hp : Fit c b p) (hb : b + 1125899906842624 < 4611686018427387904) (ht : p.t.length ≤ 1000) (hq : q = mg c p (unit c c1 l[j])) :
    gristmillref06_Of.l0 (k + 1) l (decide (p.n = 0)) (j : Int) c c1 p.n p.v p.t = gristmillref06_Of.l0 k l (decide (q.n = 0)) ((j + 1 : Nat) : Int) c c1 q.n q.v q.t := by
  have e : wrap64 ((j : Int) + 1) = ((j + 1 : Nat) : Int) := by unfold wrap64; omega
  have hi : (j : Int) < (l.length : Int) := Int.ofNat_lt.2 hj
  have hm : FitM l[j] := hf _ (List.getElem_mem hj)
  have hu := unit_fit hc h1 hm
  rw [gristmillref06_Of.l0, if_pos hi, if_pos (Int.natCast_nonneg j), rd44 l j hj, e]
  generalize l[j] = m at hm hu hq ⊢
  have hn := mg_n hp hu hb
  by_cases hz : m.f1 = 0
  · have hu0 : unit c c1 m = Pt.z := by unfold unit; rw [if_pos hz]
    rw [hu0, mg_zero hp] at hq
    rw [if_pos hz, hq]
  have hun : (unit c c1 m).n = m.f1 := by unfold unit; rw [if_neg hz]; split <;> (try rfl); split <;> rfl
  have h2 := hm.n0; have h3 := hm.n1; have h4 := hp.lo; have h5 := hp.hi
  have hd : c1 < (m.f0.f1.length : Int) := by have := hm.d; omega
  have he : c1 < (m.f0.f2.length : Int) := by have := hm.e; omega
  rw [hun, ← hq] at hn
  have hfl : decide (q.n = 0) = false := decide_eq_false (by omega)
  have hqn : IntKind.u64.wrap (p.n + m.f1) = q.n := by rw [hn]; exact u64_small (by omega) (by omega)
  rw [hfl, if_neg hz, hqn]
  have hut : c ≠ 5 → (unit c c1 m).t = [] := hu.tx
  have hqt : c ≠ 5 → q.t = p.t := by
    intro h
    rw [hp.tx h]
    have := mg_fit hp hu hb (by omega) (by omega)
    rw [hq]
    exact this.tx h
  by_cases hpz : p.n = 0
  · rw [decide_eq_true hpz]
    have hv0 := hp.zv hpz
    have ht0 := hp.zt hpz
    have hqv : q.v = (unit c c1 m).v := by rw [hq]; unfold mg; rw [if_pos hpz, if_neg (by rw [hun]; exact hz)]
    have hqt5 : q.t = builtB (unit c c1 m).t := by rw [hq]; unfold mg; rw [if_pos hpz, if_neg (by rw [hun]; exact hz)]
    by_cases c2 : c = 2
    · have hw : (unit c c1 m).v = manyV 2 (rd m.f0.f2 c1) m.f1 := by unfold unit; rw [if_neg hz, if_neg (by omega), if_neg (by omega), c2]
      rw [if_pos c2, if_pos h1.1, if_pos he, hqt (by omega), hqv, hw, hv0, many_sum _ _ h2 h3, many_wrap]
    rw [if_neg c2]
    by_cases c3 : c = 3
    · have hw : (unit c c1 m).v = rd m.f0.f2 c1 := by unfold unit; rw [if_neg hz, if_neg (by omega), if_neg (by omega), c3]; rfl
      rw [if_pos c3, if_pos rfl, if_pos h1.1, if_pos he, hqt (by omega), hqv, hw]
    rw [if_neg c3]
    by_cases c4 : c = 4
    · have hw : (unit c c1 m).v = rd m.f0.f2 c1 := by unfold unit; rw [if_neg hz, if_neg (by omega), if_neg (by omega), c4]; rfl
      rw [if_pos c4, if_pos rfl, if_pos h1.1, if_pos he, hqt (by omega), hqv, hw]
    rw [if_neg c4]
    by_cases c5 : c = 5
    · have hw : unit c c1 m = ⟨m.f1, 0, [m.f0.f1.getD c1.toNat ⟨#[]⟩]⟩ := by unfold unit; rw [if_neg hz, if_neg (by omega), if_pos c5]
      rw [if_pos c5, if_pos h1.1, if_pos hd, ht0, put_is [] _ (by simp) builtB_nil k hk, text_at _ _ h1.1 hd, hqv, hqt5, hw, hv0]
      rfl
    · have hw : (unit c c1 m).v = 0 := by unfold unit; rw [if_neg hz, if_pos (by omega)]
      rw [if_neg c5, hqt c5, hqv, hw, hv0]
  · rw [decide_eq_false hpz]
    have hqv : q.v = mergeV c p.v (unit c c1 m).v := by rw [hq]; unfold mg; rw [if_neg hpz, if_neg (by rw [hun]; exact hz)]
    have hqt5 : q.t = builtB (p.t ++ (unit c c1 m).t) := by rw [hq]; unfold mg; rw [if_neg hpz, if_neg (by rw [hun]; exact hz)]
    by_cases c2 : c = 2
    · have hw : (unit c c1 m).v = manyV 2 (rd m.f0.f2 c1) m.f1 := by unfold unit; rw [if_neg hz, if_neg (by omega), if_neg (by omega), c2]
      have hmv : mergeV c p.v (unit c c1 m).v = wrap64 (p.v + (unit c c1 m).v) := by unfold mergeV; rw [if_pos c2]
      rw [if_pos c2, if_pos h1.1, if_pos he, hqt (by omega), hqv, hmv, hw, many_sum _ _ h2 h3]
    rw [if_neg c2]
    by_cases c3 : c = 3
    · have hw : (unit c c1 m).v = rd m.f0.f2 c1 := by unfold unit; rw [if_neg hz, if_neg (by omega), if_neg (by omega), c3]; rfl
      have hmv : mergeV c p.v (unit c c1 m).v = min p.v (unit c c1 m).v := by unfold mergeV; rw [if_neg c2, if_pos c3]
      rw [if_pos c3, if_neg (by simp), if_pos h1.1, if_pos he, hqt (by omega), hqv, hmv, hw]
      by_cases hlt : rd m.f0.f2 c1 < p.v
      · rw [if_pos hlt, show min p.v (rd m.f0.f2 c1) = rd m.f0.f2 c1 by omega]
      · rw [if_neg hlt, show min p.v (rd m.f0.f2 c1) = p.v by omega]
    rw [if_neg c3]
    by_cases c4 : c = 4
    · have hw : (unit c c1 m).v = rd m.f0.f2 c1 := by unfold unit; rw [if_neg hz, if_neg (by omega), if_neg (by omega), c4]; rfl
      have hmv : mergeV c p.v (unit c c1 m).v = max p.v (unit c c1 m).v := by unfold mergeV; rw [if_neg c2, if_neg c3, if_pos c4]
      rw [if_pos c4, if_neg (by simp), if_pos h1.1, if_pos he, hqt (by omega), hqv, hmv, hw]
      by_cases hlt : rd m.f0.f2 c1 > p.v
      · rw [if_pos hlt, show max p.v (rd m.f0.f2 c1) = rd m.f0.f2 c1 by omega]
      · rw [if_neg hlt, show max p.v (rd m.f0.f2 c1) = p.v by omega]
    rw [if_neg c4]
    have hmv : mergeV c p.v (unit c c1 m).v = p.v := by unfold mergeV; rw [if_neg c2, if_neg c3, if_neg c4]
    by_cases c5 : c = 5
    · have hw : (unit c c1 m).t = [m.f0.f1.getD c1.toNat ⟨#[]⟩] := by unfold unit; rw [if_neg hz, if_neg (by omega), if_pos c5]
      rw [if_pos c5, if_pos h1.1, if_pos hd, put_is p.t _ ht hp.bt k hk, text_at _ _ h1.1 hd, hqv, hmv, hqt5, hw]
      rfl
    · rw [if_neg c5, hqt c5, hqv, hmv]
theorem ref_end {c c1 : Int} (l : List S44) (k : Nat) (f : Bool) (p : Pt) : gristmillref06_Of.l0 (k + 1) l f ((l.length : Nat) : Int) c c1 p.n p.v p.t = some (p.n, p.v, p.t) := by
  rw [gristmillref06_Of.l0, if_neg (Int.lt_irrefl _)]
theorem ref_loop {c c1 : Int} (hc : 1 ≤ c ∧ c ≤ 5) (h1 : 0 ≤ c1 ∧ c1 < 2) (l : List S44) (hf : FitL l) (hl : l.length ≤ 1000) : ∀ (n j : Nat), j + n = l.length → ∀ (k : Nat) (p : Pt), p = sp c c1 (l.take j) →
    gristmillref06_Of.l0 (k + 1001 + n + 1) l (decide (p.n = 0)) (j : Int) c c1 p.n p.v p.t = some ((sp c c1 l).n, (sp c c1 l).v, (sp c c1 l).t) := by
  intro n
  induction n with
  | zero =>
    intro j hj k p hp
    have e : l.take j = l := List.take_of_length_le (by omega)
    rw [e] at hp
    have hj' : j = l.length := by omega
    subst hj'
    rw [← hp]
    exact ref_end l (k + 1001) _ p
  | succ n ih =>
    intro j hj k p hp
    have hjl : j < l.length := by omega
    have hlt : (l.take j).length ≤ 999 := by rw [List.length_take]; omega
    have ht : p.t.length ≤ 1000 := by rw [hp]; exact Nat.le_trans (sp_t_len hc h1 (l.take j) (hf.take j) (by omega)) (by omega)
    have hfp := sp_fit hc h1 (l.take j) (hf.take j) (by omega)
    rw [← hp] at hfp
    have hs := ref_step hc h1 l hf hl j (k + 1001 + n + 1) (by omega) hjl p _ hfp (by omega) ht rfl
    rw [show k + 1001 + (n + 1) + 1 = (k + 1001 + n + 1) + 1 by omega, hs]
    exact ih (j + 1) (by omega) k _ (by rw [take_snoc l j hjl, sp_snoc, hp])
theorem ref_is {c c1 : Int} (hc : 1 ≤ c ∧ c ≤ 5) (h1 : 0 ≤ c1 ∧ c1 < 2) (l : List S44) (hf : FitL l) (hl : l.length ≤ 1000) (k : Nat) (hk : 2002 ≤ k) : gristmillref06_Of.f k c c1 l = some ((sp c c1 l).n, (sp c c1 l).v, (sp c c1 l).t) := by
  have := ref_loop hc h1 l hf hl l.length 0 (by omega) (k - l.length - 1002) Pt.z rfl
  rw [show k - l.length - 1002 + 1001 + l.length + 1 = k by omega] at this
  unfold gristmillref06_Of.f
  exact this
end Go.Proofs.Ytmjhgeinhhhodaa.Ext
end

section
namespace Go.Proofs.Ytmjhgeinhhhodaa.Ext
set_option linter.unusedVariables false
set_option linter.unusedSimpArgs false
open Go.RowKit Go.Proofs.YtmjhgeinhhhodaaW.PrintWords
open Go.ChangeShapes Go.WideShapes Go.ChangeAt Go.Deep
def Opens (P : Program) {α : Type} (d : Kd α) (t : TypeId) (Q : α → Prop) : Prop :=
  ∀ (H : Type) (enc : TypeId × Value → H) (W : World) (base : Nat) (held : Bool) (fuel : Nat) (cs : List Value) (x : DataW H × List MemPlace),
    DataW.trod enc P W base (fun _ => true) held fuel t cs = some x → (∀ n ∈ x.1.weights P t, n ≤ reachBytes) → ∃ v, d.K W v cs ∧ Q v
def OpensF (P : Program) {α : Type} (d : Kd α) (o : Nat) (fs : List Field) (Q : α → Prop) : Prop :=
  ∀ (H : Type) (enc : TypeId × Value → H) (W : World) (base : Nat) (held : Bool) (n : Nat) (cs : List Value) (xs : List (DataW H × List MemPlace)),
    cs.length = o + d.sz → xs.length = fs.length →
    (∀ (i : Nat) (f : Field), fs[i]? = some f → DataW.trod enc P W base (fun _ => true) held n f.type ((cs.drop f.offset).take (P.cellsOf f.type)) = xs[i]?) →
    (∀ n ∈ DataW.weightsEach P (fs.map (·.type)) (xs.map (·.1)), n ≤ reachBytes) → ∃ v, d.K W v (cs.drop o) ∧ Q v
theorem opens_int {P : Program} {t : TypeId} {k : IntKind} (ht : P.underlying t = some (.int k)) : Opens P (Kd.int k) t (fun n => (Lit.int k n).wf = true) := by
  intro H enc W base held fuel cs x h _
  obtain ⟨n, rfl, _, hw⟩ := DataW.trod_int ht h
  exact ⟨n, rfl, hw⟩
theorem opens_string {P : Program} {t : TypeId} (ht : P.underlying t = some .string) : Opens P Kd.string t (fun s => s.size ≤ reachBytes) := by
  intro H enc W base held fuel cs x h hw
  obtain ⟨s, rfl, rfl, _⟩ := DataW.trod_string ht h
  refine ⟨s, rfl, ?_⟩
  have := hw s.data.toList.length (by simp [DataW.weights])
  simpa using this
theorem weights_all {H : Type} {P : Program} {e : TypeId} {d : DataW H} : ∀ {ds : List (DataW H)}, d ∈ ds → ∀ n ∈ d.weights P e, n ∈ DataW.weightsAll P e ds
  | [], h, _, _ => by cases h
  | d0 :: ds, h, n, hn => by
    simp only [DataW.weightsAll, List.mem_append]
    rcases List.mem_cons.1 h with rfl | h
    · exact .inl hn
    · exact .inr (weights_all h n hn)
theorem opens_slice {P : Program} {α : Type} {d : Kd α} {t e : TypeId} {ek : Nat} {Q : α → Prop} (ht : P.underlying t = some (.slice e)) (hd : Opens P d e Q) (hc : P.cellsOf e = d.sz) :
    Opens P (Kd.slice ek d) t (fun l => (∀ x ∈ l, Q x) ∧ l.length * P.bytesOf e ≤ reachBytes) := by
  intro H enc W base held fuel cs x h hw
  rcases open_slice ht h with ⟨rfl, _⟩ | ⟨a, len, cap, m, n, D, Pl, rfl, hb, hl, hm, hmm, rfl, hx⟩
  · exact ⟨[], ⟨none, 0, rfl, Nat.le_refl _, Kd.C_nil _ _⟩, by simp, by simp⟩
  have hml : len ≤ m := by rw [hmm]; simpa using hl
  have hat : ∀ i, i < len → ∃ v cs', d.K W v cs' ∧ Q v ∧ W.cells? base (a.add (i * P.cellsOf e)) (P.cellsOf e) = some cs' := by
    intro i hi
    obtain ⟨cs', h1, h2⟩ := hx i (Nat.lt_of_lt_of_le hi hml)
    obtain ⟨v, hv, hq⟩ := hd H enc W base held n cs' _ h2 (fun n hn => hw n (by
      simp only [DataW.weights, ht, List.mem_cons, List.mem_append]
      exact .inr (.inl (weights_all (List.mem_map.2 ⟨i, by simpa using hi, rfl⟩) n hn))))
    exact ⟨v, cs', hv, hq, h1⟩
  have hl2 : ∃ l : List α, l.length = len ∧ ∀ i v, l[i]? = some v → ∃ cs', d.K W v cs' ∧ Q v ∧ W.cells? base (a.add (i * P.cellsOf e)) (P.cellsOf e) = some cs' := by
    clear hw hx hmm hml hm hl h
    induction len with
    | zero => exact ⟨[], rfl, fun i v h => by simp at h⟩
    | succ k ih =>
      obtain ⟨l, hl, hr⟩ := ih (fun i hi => hat i (by omega))
      obtain ⟨v, cs', h1, h2, h3⟩ := hat k (by omega)
      refine ⟨l ++ [v], by simp [hl], fun i u hu => ?_⟩
      by_cases hi : i < l.length
      · rw [List.getElem?_append_left hi] at hu
        exact hr i u hu
      · rw [List.getElem?_append_right (by omega)] at hu
        have hi0 : i - l.length = 0 := by
          rcases hz : i - l.length with _ | q
          · rfl
          · rw [hz] at hu; simp at hu
        rw [hi0] at hu
        simp only [List.getElem?_cons_zero, Option.some.injEq] at hu
        subst hu
        have : i = k := by omega
        subst this
        exact ⟨cs', h1, h2, h3⟩
  obtain ⟨l, rfl, hr⟩ := hl2
  refine ⟨l, ⟨some a, cap, rfl, hl, rfl, Nat.le_trans hl (by simpa [maxLen] using hm), fun _ => ⟨a, rfl, fun j p hj => ?_⟩⟩, ?_, ?_⟩
  · obtain ⟨cs', h1, _, h3⟩ := hr j p hj
    obtain ⟨_, hlen, hcell⟩ := World.cells?_some h3
    refine ⟨cs', d.K_len h1, h1, fun i u hu => ?_⟩
    have hi : i < P.cellsOf e := by have := (List.getElem?_eq_some_iff.1 hu).1; omega
    have := hcell i hi
    rw [Go.Deep.add_add, hu, hc] at this
    exact this
  · intro y hy
    obtain ⟨i, hi⟩ := List.mem_iff_getElem?.1 hy
    obtain ⟨_, _, h2, _⟩ := hr i y hi
    exact h2
  · have := hw (((List.range l.length).map D).length + ((List.range (m - l.length)).map fun j => D (l.length + j)).length |> (· * P.bytesOf e)) (by
      simp [DataW.weights, ht])
    simp only [List.length_map, List.length_range] at this
    exact Nat.le_trans (Nat.mul_le_mul_right _ (Nat.le_add_right _ _)) this
theorem opensF_one {P : Program} {α : Type} {d : Kd α} {o : Nat} {f : Field} {Q : α → Prop} (hd : Opens P d f.type Q) (ho : f.offset = o) (hc : P.cellsOf f.type = d.sz) : OpensF P d o [f] Q := by
  intro H enc W base held n cs xs hl hx ht hw
  match xs, hx with
  | [x0], _ =>
    have h0 := ht 0 f rfl
    rw [ho, hc, List.take_of_length_le (by rw [List.length_drop]; omega)] at h0
    exact hd H enc W base held n _ x0 h0 (fun n hn => hw n (by simpa [DataW.weightsEach] using hn))
theorem opensF_cons {P : Program} {α β : Type} {d : Kd α} {d1 : Kd β} {o : Nat} {f : Field} {fs : List Field} {Q : α → Prop} {Q1 : β → Prop} (hd : Opens P d f.type Q) (ho : f.offset = o) (hc : P.cellsOf f.type = d.sz)
    (hr : OpensF P d1 (o + d.sz) fs Q1) : OpensF P (Kd.pair d d1) o (f :: fs) (fun x => Q x.1 ∧ Q1 x.2) := by
  intro H enc W base held n cs xs hl hx ht hw
  match xs, hx with
  | x0 :: xs, hx =>
    have h0 := ht 0 f rfl
    rw [ho, hc] at h0
    have hlp : cs.length = o + (d.sz + d1.sz) := hl
    obtain ⟨v, hv, hq⟩ := hd H enc W base held n _ x0 h0 (fun n hn => hw n (by
      simp only [List.map_cons, DataW.weightsEach, List.mem_append]; exact .inl hn))
    obtain ⟨v1, hv1, hq1⟩ := hr H enc W base held n cs xs (by omega) (by simpa using hx) (fun i g hg => by simpa using ht (i + 1) g (by simpa using hg)) (fun n hn => hw n (by
      simp only [List.map_cons, DataW.weightsEach, List.mem_append]; exact .inr hn))
    refine ⟨(v, v1), ⟨_, _, ?_, hv, hv1⟩, hq, hq1⟩
    rw [← List.drop_drop, List.take_append_drop]
theorem opens_struct {P : Program} {α : Type} {d : Kd α} {t : TypeId} {fs : Array Field} {Q : α → Prop} (ht : P.underlying t = some (.struct fs)) (hc : P.cellsOf t = d.sz) (hd : OpensF P d 0 fs.toList Q) : Opens P d t Q := by
  intro H enc W base held fuel cs x h hw
  obtain ⟨xs, n, _, rfl, hl, hlen, hf⟩ := DataW.trod_struct ht h
  have := hd H enc W base held n cs xs (by omega) (by simpa using hlen) (fun i f hi => hf i f (by simpa using hi)) (fun n hn => hw n (by simpa [DataW.weights, ht] using hn))
  simpa using this
theorem opens_iso {P : Program} {α β : Type} {d : Kd α} {t : TypeId} {Q : α → Prop} (f : β → α) (g : α → β) (hfg : ∀ a, f (g a) = a) (h : Opens P d t Q) : Opens P (Kd.iso d f) t (fun x => Q (f x)) := by
  intro H enc W base held fuel cs x hx hw
  obtain ⟨v, hv, hq⟩ := h H enc W base held fuel cs x hx hw
  refine ⟨g v, ?_, ?_⟩
  · show d.K W (f (g v)) cs
    rw [hfg]; exact hv
  · show Q (f (g v))
    rw [hfg]; exact hq
theorem opens_mono {P : Program} {α : Type} {d : Kd α} {t : TypeId} {Q Q' : α → Prop} (h : Opens P d t Q) (hq : ∀ a, Q a → Q' a) : Opens P d t Q' := by
  intro H enc W base held fuel cs x hx hw
  obtain ⟨v, hv, h1⟩ := h H enc W base held fuel cs x hx hw
  exact ⟨v, hv, hq v h1⟩
theorem opened {P : Program} {α : Type} {d : Kd α} {t : TypeId} {Q : α → Prop} (h : Opens P d t Q) {H : Type} {enc : TypeId × Value → H} {W : World} {base : Nat} {held : Bool} {v : Value} {x : DataW H} {p : List MemPlace}
    (ht : DataW.Trod enc P W base (fun _ => true) held t v x p) {ts : List TypeId} {ds : List (DataW H)} (hsz : (DataW.weightsEach P ts ds).all (· ≤ reachBytes) = true) (j : Nat) (hj : ts[j]? = some t) (hd : ds[j]? = some x) :
    ∃ a, d.K W a v.cells.toList ∧ Q a := by
  obtain ⟨fuel, hf⟩ := ht
  refine h H enc W base held fuel _ _ hf (fun n hn => ?_)
  have := List.all_eq_true.1 hsz n (DataW.weights_mem_each hj hd n hn)
  simpa using this
theorem open_struct {P : Program} {α : Type} {d : Kd α} {t : TypeId} {Q : α → Prop} (O : Opens P d t Q) {fs : Array Field} (hs : P.underlying t = some (.struct fs)) {H : Type} {enc : TypeId × Value → H} {W : World} {base b0 : Nat} {held : Bool} {r : Reach} {v : Value}
    {x : DataW H} {p : List MemPlace} (hv : Value.okWide P W r b0 t v) (ht : DataW.Trod enc P W base (fun _ => true) held t v x p) {ts : List TypeId} {ds : List (DataW H)} (hsz : (DataW.weightsEach P ts ds).all (· ≤ reachBytes) = true)
    (j : Nat) (hj : ts[j]? = some t) (hd : ds[j]? = some x) : ∃ a cs, v = .agg (List.toArray cs) ∧ d.K W a cs ∧ Q a := by
  obtain ⟨a, hK, hQ⟩ := opened O ht hsz j hj hd
  obtain ⟨cs, rfl, _⟩ := okWide_struct hs hv
  exact ⟨a, cs.toList, by rw [Array.toArray_toList], hK, hQ⟩
theorem open_row {P : Program} {α : Type} {d : Kd α} {t e : TypeId} {Q : α → Prop} (O : Opens P d e Q) (hs : P.underlying t = some (.slice e)) (hc : P.cellsOf e = d.sz) {H : Type} {enc : TypeId × Value → H} {W : World} {base b0 : Nat} {held : Bool} {r : Reach} {v : Value}
    {x : DataW H} {p : List MemPlace} (hv : Value.okWide P W r b0 t v) (ht : DataW.Trod enc P W base (fun _ => true) held t v x p) {ts : List TypeId} {ds : List (DataW H)} (hsz : (DataW.weightsEach P ts ds).all (· ≤ reachBytes) = true)
    (j : Nat) (hj : ts[j]? = some t) (hd : ds[j]? = some x) : ∃ A l c, v = .slice A l.length c ∧ l.length ≤ c ∧ d.C W A l.length l ∧ (∀ y ∈ l, Q y) ∧ l.length * P.bytesOf e ≤ reachBytes := by
  obtain ⟨l, hK, hQ, hb⟩ := opened (opens_slice (ek := 0) hs O hc) ht hsz j hj hd
  obtain ⟨A, len, cap, rfl⟩ := okWide_slice hs hv
  obtain ⟨A', c, hcs, hl, hC⟩ := hK
  have hcs' : [Value.slice A len cap] = [Value.slice A' l.length c] := hcs
  injection hcs' with h1 _
  injection h1 with h2 h3 h4
  subst h2; subst h3; subst h4
  exact ⟨A, l, cap, rfl, hl, hC, hQ, hb⟩
end Go.Proofs.Ytmjhgeinhhhodaa.Ext
end

section
namespace Go.Proofs.Ytmjhgeinhhhodaa.Ext
set_option linter.unusedVariables false
open Go.RowKit Go.Proofs.YtmjhgeinhhhodaaW.PrintWords Go.Proofs.Ytmjhgeinhhhodaa.P
def kTwo : Kd (Int × Int) := Kd.pair (Kd.int .i64) (Kd.int .i64)
theorem opens_agg : Opens Try.prog kTwo 23 (fun x => (Lit.int .i64 x.1).wf = true ∧ (Lit.int .i64 x.2).wf = true) := by
  refine opens_struct Try.underlying23 (by kernel_rfl) ?_
  show OpensF _ (Kd.pair _ _) 0 [_, _] _
  exact (opensF_cons (opens_int (k := .i64) (by kernel_rfl)) (by rfl) (by kernel_rfl) (opensF_one (opens_int (k := .i64) (by kernel_rfl)) (by rfl) (by kernel_rfl)))
theorem two_open {W : World} {x : Int × Int} {cs : List Value} (h : kTwo.K W x cs) : cs = [.int .i64 x.1, .int .i64 x.2] := by
  obtain ⟨_, _, rfl, rfl, rfl⟩ := h; rfl
end Go.Proofs.Ytmjhgeinhhhodaa.Ext
end

section
namespace Go.Proofs.Ytmjhgeinhhhodaa.Ext
set_option linter.unusedVariables false
open Go.RowKit Go.Proofs.YtmjhgeinhhhodaaW.PrintWords Go.Proofs.Ytmjhgeinhhhodaa.P
theorem u64_pos {n : Int} (h : (Lit.int .u64 n).wf = true) : 0 ≤ n := by
  simp only [Lit.wf, Bool.and_eq_true, decide_eq_true_eq] at h
  exact h.1
theorem opens_fact : Opens Try.prog k42 42 (fun _ => True) := by
  refine opens_mono (opens_iso (fun x : S42 => (x.f0, x.f1, x.f2)) (fun p => ⟨p.1, p.2.1, p.2.2⟩) (fun _ => rfl) (Q := fun x => (Lit.int .i64 x.1).wf = true ∧ ((∀ s ∈ x.2.1, s.size ≤ reachBytes) ∧ x.2.1.length * Try.prog.bytesOf 9 ≤ reachBytes) ∧ ((∀ s ∈ x.2.2, (Lit.int .i64 s).wf = true) ∧ x.2.2.length * Try.prog.bytesOf 2 ≤ reachBytes)) ?_) (fun _ _ => trivial)
  refine Ext.opens_struct Try.underlying42 (by kernel_rfl) ?_
  show OpensF _ (Kd.pair _ (Kd.pair _ _)) 0 [_, _, _] _
  exact (opensF_cons (opens_int (k := .i64) (by kernel_rfl)) (by rfl) (by kernel_rfl)
    (opensF_cons (opens_slice (by kernel_rfl) (opens_string (t := 9) (by kernel_rfl)) (by kernel_rfl)) (by rfl) (by kernel_rfl)
      (opensF_one (opens_slice (by kernel_rfl) (opens_int (t := 2) (k := .i64) (by kernel_rfl)) (by kernel_rfl)) (by rfl) (by kernel_rfl))))
theorem opens_many : Opens Try.prog k44 44 (fun x => 0 ≤ x.f1) := by
  refine opens_mono (opens_iso (fun x : S44 => (x.f0, x.f1)) (fun p => ⟨p.1, p.2⟩) (fun _ => rfl) (Q := fun x => True ∧ (Lit.int .u64 x.2).wf = true) ?_) (fun x h => u64_pos h.2)
  refine Ext.opens_struct Try.underlying44 (by kernel_rfl) ?_
  show OpensF _ (Kd.pair _ _) 0 [_, _] _
  refine opensF_cons (Q := fun _ => True) (Q1 := fun n => (Lit.int .u64 n).wf = true) ?_ ?_ ?_ ?_
  · exact opens_fact
  · rfl
  · kernel_rfl
  · refine opensF_one ?_ ?_ ?_
    · exact opens_int (k := .u64) (by kernel_rfl)
    · rfl
    · kernel_rfl
end Go.Proofs.Ytmjhgeinhhhodaa.Ext
end

section
namespace Go.Proofs.Ytmjhgeinhhhodaa.aggCounts
set_option linter.unusedVariables false
set_option linter.unusedSimpArgs false
open Go.RowKit Go.Proofs.YtmjhgeinhhhodaaW.PrintWords Go.Proofs.Ytmjhgeinhhhodaa.Lib
open Go.ChangeShapes Go.WideShapes Go.ChangeAt
open Go.ChangeMaps (open_string shut_string)
theorem own : ownKnob Try.prog.godebug = none := by kernel_rfl
theorem laidOut : laidOutB Try.prog = true := by kernel_rfl
open Go.Proofs.Ytmjhgeinhhhodaa.P Go.Proofs.Ytmjhgeinhhhodaa.Ext Go.Proofs.Ytmjhgeinhhhodaa.Txt
theorem law_true (a0 a1 : Int) (l : List S44) (h0 : (Lit.int .i64 a0).wf = true) (h1 : (Lit.int .i64 a1).wf = true) (hl : ∀ m ∈ l, 0 ≤ m.f1) : gristmilllaw06_AggCounts.f 3000 a0 a1 l = some true := by
  obtain ⟨c0, c1, hc0, hc1, hr⟩ := right_is a0 a1 h0 h1
  obtain ⟨r, hf, hlen, e⟩ := hr l hl
  have hst := sp_t_len hc0 hc1 r hf (by omega)
  unfold gristmilllaw06_AggCounts.f
  rw [show gristmilllaw06_awake.f = some true from rfl, e 3000 (by omega)]
  simp only [Option.bind_some, if_true]
  rw [of_is hc0 hc1 r hf (by omega) 3000 (by omega), ref_is hc0 hc1 r hf (by omega) 3000 (by omega)]
  simp only [Option.bind_some]
  rw [same_is _ _ _ (by omega) 3000 (by omega)]
  simp only [Option.bind_some, if_true]
  have hv : agg_Value.f c0 c1 (sp c0 c1 r).n (sp c0 c1 r).v (sp c0 c1 r).t = gristmillref06_Value.f c0 c1 (sp c0 c1 r).n (sp c0 c1 r).v (sp c0 c1 r).t := by
    unfold agg_Value.f gristmillref06_Value.f
    by_cases k1 : c0 = 1
    · rw [if_pos k1, if_pos k1]
    rw [if_neg k1, if_neg k1]
    by_cases k5 : c0 = 5
    · rw [if_pos k5, if_neg (by omega), if_pos k5]
    · rw [if_neg k5, if_pos (by omega), if_neg k5]
  rw [hv]
  unfold gristmillref06_Value.f
  split
  · simp
  · split <;> simp
set_option maxRecDepth 100000 in
theorem lifted (os : Os) (started : os.Started) (H : Type) (enc : TypeId × Value → H) :
    ReturnsInHanded {} Try.checked os 3 .any (Rows.aggCountsSpec.pre6 enc Try.prog Try.f3 Rows.aggCountsRow.domain false) (Rows.aggCountsSpec.post enc Try.prog Try.f3 false true false false) := by
  refine returnsInHanded_of_change_sized (C := Try.checked) own started (by kernel_rfl) Try.func3
    (ChangeSpec.witness6 (enc := enc) (C := Try.checked) false ⟨#[], #[.agg #[.int .i64 0, .int .i64 0], .slice none 0 0], []⟩ 8 (by kernel_rfl) (by kernel_rfl) (by kernel_rfl) (by kernel_rfl)) ?_
  intro W base args ds gs before hval0 hW hcnd hsz _
  have hval : ∀ (j : Nat) t v, Try.f3.params[j]? = some t → args[j]? = some v → Value.okWide Try.prog W .any base t v := hval0
  have hW' := hW
  obtain ⟨p, q, hA0, hV, rfl, hfz, hnd⟩ := hW
  have hA : DataW.TrodAll enc Try.prog W 0 (fun _ => true) true Try.f3.params.toList args.toList ds p := hA0
  rw [Try.params3] at hA hval
  obtain ⟨v0, vs0, d0, ds0, p0, q0, hargs, rfl, rfl, h0, r0⟩ := trodAll_cons hA
  obtain ⟨v1, vs1, d1, ds1, p1, q1, rfl, rfl, rfl, h1, r1⟩ := trodAll_cons r0
  obtain ⟨rfl, rfl, rfl⟩ := trodAll_nil r1
  obtain rfl : args = #[v0, v1] := by cases args; simp_all
  obtain ⟨rfl, rfl⟩ := trodVars_none hV
  have k0 := h0
  have lt0 : ∀ x ∈ p0, x.block < W.heap.size := by obtain ⟨m, hm⟩ := k0; exact DataW.trod_lt m _ _ _ hm
  obtain ⟨a0, cs0, rfl, hK0, hQ0⟩ := open_struct opens_agg Try.underlying23 (hval 0 _ v0 rfl rfl) h0 hsz 0 rfl rfl
  obtain rfl := two_open hK0
  have k1 := h1
  have lt1 : ∀ x ∈ p1, x.block < W.heap.size := by obtain ⟨m, hm⟩ := k1; exact DataW.trod_lt m _ _ _ hm
  obtain ⟨A1, l1, c1, rfl, hl1, hC1, hQ1, hb1⟩ := open_row opens_many Try.underlying24 (by kernel_rfl) (hval 1 _ v1 rfl rfl) h1 hsz 1 rfl rfl
  clear hA0 hval0
  refine (gristmilllaw06_AggCounts.calls 3000 a0.1 a0.2 A1 c1 l1 true W hC1 hl1 (law_true _ _ _ hQ0.1 hQ0.2 (fun m hm => (hQ1 m hm)))).mono fun e W' ⟨he, bel⟩ => ?_
  subst he
  exact ⟨_, rfl, _, _, _, [], _, [], hW', trodAll_mk1 (shut_bool Try.underlying4 _), (trodAll_cons_mk (Below.trod laidOut (by kernel_rfl) (of_decide_eq_true (by kernel_rfl)) k0 bel lt0) (trodAll_cons_mk (Below.trod laidOut (by kernel_rfl) (of_decide_eq_true (by kernel_rfl)) k1 bel lt1) trodAll_mk0)), rfl, bel.frame _, fun h => by cases h⟩
theorem proved : Rows.AggCountsSaid :=
  OpenClaim.holds_of_wide 3 Try.f3 rfl rfl rfl rfl rfl rfl rfl ⟨rfl, rfl, rfl, rfl, rfl⟩ rfl rfl rfl rfl rfl (by kernel_rfl) Try.func3 (by kernel_rfl)
    (of_decide_eq_true (by kernel_rfl)) (by unfold Func.isWrapper; first | (rw [if_pos (by decide +kernel)]; kernel_rfl) | (rw [if_neg (by decide +kernel)]; exact ⟨rfl, rfl⟩))
    (fun os started H enc _ => lifted os started H enc)
end Go.Proofs.Ytmjhgeinhhhodaa.aggCounts
end
