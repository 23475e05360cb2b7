/- Texts of this repo, joined, without what this claim does not use: P30, P21, P28, May, Sp, Of, OpenK, OpenAgg, OpenMany, LawAggMay. -/
import Derived.Test.YtmjhgeinhhhodaaDAggMay1
import Derived.Test.YtmjhgeinhhhodaaDAggMay2
import Derived.Test.YtmjhgeinhhhodaaDAggMay3
import Derived.Test.YtmjhgeinhhhodaaDAggMay4
import Derived.SizedLaws
import Derived.Deep.Slices
import Derived.Test.YtmjhgeinhhhodaaRows
import Derived.ProofKit
import Derived.OpenShut
section
namespace Go.Proofs.Ytmjhgeinhhhodaa.P
open Go.RowKit Go.Proofs.YtmjhgeinhhhodaaW.PrintWords Go.Proofs.YtmjhgeinhhhodaaW.PrintLast Go.Proofs.YtmjhgeinhhhodaaW.PrintMore
attribute [local go_sem] max2_int min2_int max_two min_two max_three min_three max_four min_four   -- for this text's walks alone
set_option linter.unusedVariables false
set_option linter.unusedSimpArgs false
open Go.Proofs.Ytmjhgeinhhhodaa.Ext (q1_ q2_ q3_ bk_ bw_ sz_ ne_ bx_)
attribute [local go_sem high] Go.Proofs.Ytmjhgeinhhhodaa.Ext.gtr_str Go.Proofs.Ytmjhgeinhhhodaa.Ext.leq_str Go.Proofs.Ytmjhgeinhhhodaa.Ext.geq_str
attribute [local go_sem] Go.Instr.field Go.asAgg
def gristmilllaw06_AggMay.f (k : Nat) (a0_0 : Int) (a0_1 : Int) (l1 : List (S44)) : Option (Bool) := (gristmilllaw06_awake.f).bind fun t593 => (if t593 = true then ((gristmilllaw06_right.f k a0_0 a0_1 l1).bind fun bt594 => ((gristmilllaw06_of.f k bt594.2.2.1 bt594.2.2.2.1 bt594.2.2.2.2).bind fun bt603 => ((agg_May.f k bt594.1 bt594.2.1 bt594.2.2.1 bt594.2.2.2.1 bt603.1 bt603.2.1 bt603.2.2).bind fun t609 => (if t609 = true then ((agg_Start.f bt594.2.2.1 bt594.2.2.2.1).bind fun bt610 => ((agg_May.f k bt594.1 bt594.2.1 bt594.2.2.1 bt594.2.2.2.1 bt610.1 bt610.2.1 bt610.2.2).bind fun t615 => (if t615 = true then ((agg_Start.f bt594.2.2.1 bt594.2.2.2.1).bind fun bt616 => (some (bt616.1 == 0))) else (some false)))) else (some false))))) else (some false))
def gristmilllaw06_AggMay.T6 : Bool × List (List Nat × List Nat) := (true, [([], []), ([], []), ([], []), ([0, 1, 2], [0, 1, 2]), ([3, 3], [3]), ([4], [4]), ([4], [4]), ([4], [4]), ([7, 4, 4], [4, 7]), ([5, 6, 8, 8, 4], [4, 5, 6, 8]), ([4, 9], [4, 9]), ([10, 9], [10]), ([11], [11]), ([12, 11, 11], [11, 12]), ([13, 11], [11, 13]), ([14, 11], [11, 14]), ([11, 15], [11, 15]), ([16, 13, 0, 1, 2, 3, 4, 5, 6, 7, 8, 9, 10, 11, 12, 13, 14, 15, 16], [16])])
def gristmilllaw06_AggMay.B6 : List Nat := [0, 0, 0, 7, 15, 31, 31, 31, 159, 511, 1023, 2047, 4095, 8191, 16383, 32767, 65535, 131071]
theorem gristmilllaw06_AggMay.tab6 : rtab .any (opsOf Try.f9 6) = gristmilllaw06_AggMay.T6 := by kernel_rfl
theorem gristmilllaw06_AggMay.bits6 : waitsOk gristmilllaw06_AggMay.T6.2 gristmilllaw06_AggMay.B6 = true := by kernel_rfl
set_option maxHeartbeats 8000000 in
set_option maxRecDepth 100000 in
theorem gristmilllaw06_AggMay.calls (k : Nat) (a0_0 : Int) (a0_1 : Int) (A1 : Option Addr) (c1 : Nat) (l1 : List (S44)) (r : Bool) (w : World) (hr1 : Kd.C k44 w A1 l1.length l1) (hc1 : l1.length ≤ c1) (h : gristmilllaw06_AggMay.f k a0_0 a0_1 l1 = some r) :
  Calls Try.prog 9 #[.agg #[.int .i64 a0_0, .int .i64 a0_1], .slice A1 l1.length c1] w fun e w' => e = .returned (.bool r) ∧ Below w.heap.size w w' := by
 have hu23 := Try.underlying23
 have hu27 := Try.underlying27
 have hu33 := Try.underlying33
 have HR1 := Aside0.mk hr1
 have HC1 := Aside0.mk hc1
 clear hr1 hc1
 have HB := Aside0.mk (Below.refl w.heap.size w)
 have H : ((gristmilllaw06_awake.f).bind fun t593 => (if t593 = true then ((gristmilllaw06_right.f k a0_0 a0_1 l1).bind fun bt594 => ((gristmilllaw06_of.f k bt594.2.2.1 bt594.2.2.2.1 bt594.2.2.2.2).bind fun bt603 => ((agg_May.f k bt594.1 bt594.2.1 bt594.2.2.1 bt594.2.2.2.1 bt603.1 bt603.2.1 bt603.2.2).bind fun t609 => (if t609 = true then ((agg_Start.f bt594.2.2.1 bt594.2.2.2.1).bind fun bt610 => ((agg_May.f k bt594.1 bt594.2.1 bt594.2.2.1 bt594.2.2.2.1 bt610.1 bt610.2.1 bt610.2.2).bind fun t615 => (if t615 = true then ((agg_Start.f bt594.2.2.1 bt594.2.2.2.1).bind fun bt616 => (some (bt616.1 == 0))) else (some false)))) else (some false))))) else (some false))) = some r := h
 clear h
 replace H := Option.bind_eq_some_iff.mp H
 obtain ⟨t593, A30, H⟩ := H
 replace H : (if t593 = true then ((gristmilllaw06_right.f k a0_0 a0_1 l1).bind fun bt594 => ((gristmilllaw06_of.f k bt594.2.2.1 bt594.2.2.2.1 bt594.2.2.2.2).bind fun bt603 => ((agg_May.f k bt594.1 bt594.2.1 bt594.2.2.1 bt594.2.2.2.1 bt603.1 bt603.2.1 bt603.2.2).bind fun t609 => (if t609 = true then ((agg_Start.f bt594.2.2.1 bt594.2.2.2.1).bind fun bt610 => ((agg_May.f k bt594.1 bt594.2.1 bt594.2.2.1 bt594.2.2.2.1 bt610.1 bt610.2.1 bt610.2.2).bind fun t615 => (if t615 = true then ((agg_Start.f bt594.2.2.1 bt594.2.2.2.1).bind fun bt616 => (some (bt616.1 == 0))) else (some false)))) else (some false))))) else (some false)) = some r := H
 have A3 := Aside0.mk A30
 clear A30
 by_cases c4 : t593 = true
 ·subst c4
  have H1 : ((gristmilllaw06_right.f k a0_0 a0_1 l1).bind fun bt594 => ((gristmilllaw06_of.f k bt594.2.2.1 bt594.2.2.2.1 bt594.2.2.2.2).bind fun bt603 => ((agg_May.f k bt594.1 bt594.2.1 bt594.2.2.1 bt594.2.2.2.1 bt603.1 bt603.2.1 bt603.2.2).bind fun t609 => (if t609 = true then ((agg_Start.f bt594.2.2.1 bt594.2.2.2.1).bind fun bt610 => ((agg_May.f k bt594.1 bt594.2.1 bt594.2.2.1 bt594.2.2.2.1 bt610.1 bt610.2.1 bt610.2.2).bind fun t615 => (if t615 = true then ((agg_Start.f bt594.2.2.1 bt594.2.2.2.1).bind fun bt616 => (some (bt616.1 == 0))) else (some false)))) else (some false))))) = some r := by rw [if_pos rfl] at H; exact H
  clear H
  have H := H1
  clear H1
  replace H := Option.bind_eq_some_iff.mp H
  obtain ⟨⟨t594, t595, t596, t597, t598⟩, A50, H⟩ := H
  replace H : ((gristmilllaw06_of.f k t596 t597 t598).bind fun bt603 => ((agg_May.f k t594 t595 t596 t597 bt603.1 bt603.2.1 bt603.2.2).bind fun t609 => (if t609 = true then ((agg_Start.f t596 t597).bind fun bt610 => ((agg_May.f k t594 t595 t596 t597 bt610.1 bt610.2.1 bt610.2.2).bind fun t615 => (if t615 = true then ((agg_Start.f t596 t597).bind fun bt616 => (some (bt616.1 == 0))) else (some false)))) else (some false)))) = some r := H
  have A5 := Aside0.mk A50
  clear A50
  replace H := Option.bind_eq_some_iff.mp H
  obtain ⟨⟨t603, t604, t605⟩, A60, H⟩ := H
  replace H : ((agg_May.f k t594 t595 t596 t597 t603 t604 t605).bind fun t609 => (if t609 = true then ((agg_Start.f t596 t597).bind fun bt610 => ((agg_May.f k t594 t595 t596 t597 bt610.1 bt610.2.1 bt610.2.2).bind fun t615 => (if t615 = true then ((agg_Start.f t596 t597).bind fun bt616 => (some (bt616.1 == 0))) else (some false)))) else (some false))) = some r := H
  have A6 := Aside0.mk A60
  clear A60
  replace H := Option.bind_eq_some_iff.mp H
  obtain ⟨t609, A70, H⟩ := H
  replace H : (if t609 = true then ((agg_Start.f t596 t597).bind fun bt610 => ((agg_May.f k t594 t595 t596 t597 bt610.1 bt610.2.1 bt610.2.2).bind fun t615 => (if t615 = true then ((agg_Start.f t596 t597).bind fun bt616 => (some (bt616.1 == 0))) else (some false)))) else (some false)) = some r := H
  have A7 := Aside0.mk A70
  clear A70
  by_cases c8 : t609 = true
  ·subst c8
   have H1 : ((agg_Start.f t596 t597).bind fun bt610 => ((agg_May.f k t594 t595 t596 t597 bt610.1 bt610.2.1 bt610.2.2).bind fun t615 => (if t615 = true then ((agg_Start.f t596 t597).bind fun bt616 => (some (bt616.1 == 0))) else (some false)))) = some r := by rw [if_pos rfl] at H; exact H
   clear H
   have H := H1
   clear H1
   replace H := Option.bind_eq_some_iff.mp H
   obtain ⟨⟨t610, t611, t612⟩, A90, H⟩ := H
   replace H : ((agg_May.f k t594 t595 t596 t597 t610 t611 t612).bind fun t615 => (if t615 = true then ((agg_Start.f t596 t597).bind fun bt616 => (some (bt616.1 == 0))) else (some false))) = some r := H
   have A9 := Aside0.mk A90
   clear A90
   replace H := Option.bind_eq_some_iff.mp H
   obtain ⟨t615, A100, H⟩ := H
   replace H : (if t615 = true then ((agg_Start.f t596 t597).bind fun bt616 => (some (bt616.1 == 0))) else (some false)) = some r := H
   have A10 := Aside0.mk A100
   clear A100
   by_cases c11 : t615 = true
   ·subst c11
    have H1 : ((agg_Start.f t596 t597).bind fun bt616 => (some (bt616.1 == 0))) = some r := by rw [if_pos rfl] at H; exact H
    clear H
    have H := H1
    clear H1
    replace H := Option.bind_eq_some_iff.mp H
    obtain ⟨⟨t616, t617, t618⟩, A120, H⟩ := H
    replace H : (some (t616 == 0)) = some r := H
    have A12 := Aside0.mk A120
    clear A120
    obtain rfl := Option.some.inj H
    go_enter Try.func9, Try.ntmps9
    try go_wp2_with (first | ((with_reducible refine gate_dst (N := 2) rfl ?_); refine bx_ (N := 2) (cs := #[.int .i64 a0_0, .int .i64 a0_1]) (t := 23) ?_; intro gb592 hg w13 hbox hb; have n0_ := Aside0.mk (below_step (bw_ HB.out) hb); have n1_ := Aside0.mk (hbox); have n2_ := Aside0.mk (sz_ hg (bw_ HB.out)); have n3_ := n2_; clear HB; have HB := n0_; have BK592 := n1_; have GW592 := n2_; have GE592 := n3_; clear n0_ n1_ n2_ n3_; clear hb hbox hg) | ((with_reducible refine gate_callee (f := 10) rfl ?_); refine goesL_ (some 10) rfl rfl Try.func10 (by kernel_rfl) rfl #[] rfl (by (try simp only [List.map_toArray, List.map_cons, List.map_nil]); first | done | rfl | (simp only [List.length_drop, List.length_take]; rfl)) ?_; (with_reducible refine (gristmilllaw06_awake.calls  true _ A3.out).mono ?_); rintro e w14 ⟨rfl, hb⟩; refine ⟨_, rfl, ?_⟩; have n0_ := Aside0.mk (blk_below (bk_ BK592.out) hb); have n1_ := Aside0.mk (below_step (bw_ HB.out) hb); clear BK592 HB; have BK592 := n0_; have HB := n1_; clear n0_ n1_; (try clear hb); (try clear hb2); (try clear hk); (try clear hi); have hcz15_0 : w14.cell? ⟨gb592, 0, none⟩ = some (.int .i64 a0_0) := (blk_cell BK592.out 0).trans rfl; have hcz15_1 : w14.cell? ⟨gb592, 1, none⟩ = some (.int .i64 a0_1) := (blk_cell BK592.out 1).trans rfl; have hfz15_0 := blk_frozen BK592.out 0; have hfz15_1 := blk_frozen BK592.out 1) | ((with_reducible refine gate_callee (f := 11) rfl ?_); refine goesL_ (some 16) rfl rfl Try.func11 (by kernel_rfl) rfl #[.agg #[.int .i64 a0_0, .int .i64 a0_1], .slice A1 l1.length c1] rfl (by (try simp only [List.map_toArray, List.map_cons, List.map_nil]); first | done | rfl | (simp only [List.length_drop, List.length_take]; rfl)) ?_; (with_reducible refine (gristmilllaw06_right.calls k a0_0 a0_1 _ _ l1 t594 t595 t596 t597 t598 _ ?side1 ?side2 A5.out).mono ?_); (case side1 => repeat (first | exact (Kd.C_below HR1.out HB.out) | (with_reducible refine Kd.C_alloc ?_ _) | (with_reducible refine Kd.C_drewN ?_ _) | (with_reducible refine Kd.C_drew ?_))); (case side2 => exact HC1.out); rintro e w16 ⟨v599, rfl, ho0, hb⟩; refine ⟨_, rfl, ?_⟩; have n0_ := Aside0.mk (Kd.S_lower ho0 (below_size (bw_ HB.out))); have n1_ := Aside0.mk (blk_below (bk_ BK592.out) hb); have n2_ := Aside0.mk (below_step (bw_ HB.out) hb); clear BK592 HB; have HO600 := n0_; have BK592 := n1_; have HB := n2_; clear n0_ n1_ n2_; (try clear hb); (try clear hb2); (try clear hk); (try clear hi); (try clear ho0)) | ((with_reducible refine gate_dst (N := 6) rfl ?_); refine bx_ (N := 6) (cs := #[.int .i64 0, .int .i64 0]) (t := 27) ?_; intro gb601 hg w17 hbox hb; have n0_ := Aside0.mk (Kd.S_below (by (with_reducible repeat (first | apply Kd.S_alloc | apply Kd.S_drewN | apply Kd.S_drew)); exact HO600.out) hb); have n1_ := Aside0.mk (blk_below (bk_ BK592.out) hb); have n2_ := Aside0.mk (below_step (bw_ HB.out) hb); have n3_ := Aside0.mk (hbox); have n4_ := Aside0.mk (sz_ hg (bw_ HB.out)); have n5_ := n4_; have n6_ := Aside0.mk (ne_ hg (blk_lt (bk_ BK592.out))); have n7_ := Aside0.mk n6_.out.symm; clear HO600 BK592 HB; have HO600 := n0_; have BK592 := n1_; have HB := n2_; have BK601 := n3_; have GW601 := n4_; have GE601 := n5_; have NB592_601 := n6_; have NB601_592 := n7_; clear n0_ n1_ n2_ n3_ n4_ n5_ n6_ n7_; clear hb hbox hg) | ((with_reducible refine gate_dst (N := 7) rfl ?_); refine bx_ (N := 7) (cs := #[.int .i64 0, .int .i64 0]) (t := 23) ?_; intro gb602 hg w18 hbox hb; have n0_ := Aside0.mk (Kd.S_below (by (with_reducible repeat (first | apply Kd.S_alloc | apply Kd.S_drewN | apply Kd.S_drew)); exact HO600.out) hb); have n1_ := Aside0.mk (blk_below (bk_ BK592.out) hb); have n2_ := Aside0.mk (blk_below (bk_ BK601.out) hb); have n3_ := Aside0.mk (below_step (bw_ HB.out) hb); have n4_ := Aside0.mk (hbox); have n5_ := Aside0.mk (sz_ hg (bw_ HB.out)); have n6_ := n5_; have n7_ := Aside0.mk (ne_ hg (blk_lt (bk_ BK592.out))); have n8_ := Aside0.mk n7_.out.symm; have n9_ := Aside0.mk (ne_ hg (blk_lt (bk_ BK601.out))); have n10_ := Aside0.mk n9_.out.symm; clear HO600 BK592 BK601 HB; have HO600 := n0_; have BK592 := n1_; have BK601 := n2_; have HB := n3_; have BK602 := n4_; have GW602 := n5_; have GE602 := n6_; have NB592_602 := n7_; have NB602_592 := n8_; have NB601_602 := n9_; have NB602_601 := n10_; clear n0_ n1_ n2_ n3_ n4_ n5_ n6_ n7_ n8_ n9_ n10_; clear hb hbox hg; have hnb19 := NB601_592.out; have hnc19 := NB592_601.out; have hnb20 := NB601_602.out; have hnc20 := NB602_601.out; have hcz21_0 : w18.cell? ⟨gb601, 0, none⟩ = some (.int .i64 0) := (blk_cell BK601.out 0).trans rfl; have hcz21_1 : w18.cell? ⟨gb601, 1, none⟩ = some (.int .i64 0) := (blk_cell BK601.out 1).trans rfl; have hfz21_0 := blk_frozen BK601.out 0; have hfz21_1 := blk_frozen BK601.out 1; have hnb22 := NB602_592.out; have hnc22 := NB592_602.out; have hcz23_0 : w18.cell? ⟨gb602, 0, none⟩ = some (.int .i64 0) := (blk_cell BK602.out 0).trans rfl; have hcz23_1 : w18.cell? ⟨gb602, 1, none⟩ = some (.int .i64 0) := (blk_cell BK602.out 1).trans rfl; have hfz23_0 := blk_frozen BK602.out 0; have hfz23_1 := blk_frozen BK602.out 1; obtain ⟨Ao24, co24, eo24⟩ := Kd.S_slice HO600.out; subst eo24) | ((with_reducible refine gate_callee (f := 12) rfl ?_); refine goesL_ (some 22) rfl rfl Try.func12 (by kernel_rfl) rfl #[.agg #[.int .i64 t596, .int .i64 t597], .slice Ao24 t598.length co24] rfl (by (try simp only [List.map_toArray, List.map_cons, List.map_nil]); first | done | rfl | (simp only [List.length_drop, List.length_take]; rfl)) ?_; (with_reducible refine (gristmilllaw06_of.calls k t596 t597 _ _ t598 t603 t604 t605 _ ?side1 ?side2 A6.out).mono ?_); (case side1 => refine (Kd.S_reads' (e := 44) (base := w.heap.size) (ok := fun k_ => True) (n := t598.length) (c := co24) ?_).2.2; exact (by (with_reducible repeat (first | apply Kd.S_alloc | apply Kd.S_drewN | apply Kd.S_drew)); exact (Kd.S_mono (Kd.S_mono (Kd.S_far (p := ⟨gb602, 1, none⟩) (Kd.S_far (p := ⟨gb602, 0, none⟩) (Kd.S_far (p := ⟨gb601, 1, none⟩) (Kd.S_far (p := ⟨gb601, 0, none⟩) (Kd.S_types (Kd.S_types HO600.out BK601.out (by decide)) BK602.out (by decide)) (fun _ hk => hk.1.2) (.int .i64 t594)) (fun _ hk => hk.1.2) (.int .i64 t595)) (fun _ hk => hk.2) (.int .i64 t596)) (fun _ hk => hk.2) (.int .i64 t597)) (fun _ h_ => h_.1)) (fun _ h_ => h_.1)))); (case side2 => exact (Kd.S_reads' HO600.out).2.1); rintro e w25 ⟨v606, rfl, ho0, hb⟩; refine ⟨_, rfl, ?_⟩; have n0_ := Aside0.mk (Kd.S_elder' (by (with_reducible repeat (first | apply Kd.S_alloc | apply Kd.S_drewN | apply Kd.S_drew)); exact (Kd.S_mono (Kd.S_mono (Kd.S_far (p := ⟨gb602, 1, none⟩) (Kd.S_far (p := ⟨gb602, 0, none⟩) (Kd.S_far (p := ⟨gb601, 1, none⟩) (Kd.S_far (p := ⟨gb601, 0, none⟩) (Kd.S_types (Kd.S_types HO600.out BK601.out (by decide)) BK602.out (by decide)) (fun _ hk => hk.1.2) (.int .i64 t594)) (fun _ hk => hk.1.2) (.int .i64 t595)) (fun _ hk => hk.2) (.int .i64 t596)) (fun _ hk => hk.2) (.int .i64 t597)) (fun _ h_ => h_.1)) (fun _ h_ => h_.1))) (Kd.R_base ho0) hb); have n1_ := Aside0.mk (Kd.R_lower ho0 (below_size (bw_ HB.out))); have n2_ := Aside0.mk (blk_below (g := gb592) (o := .cells #[.int .i64 a0_0, .int .i64 a0_1] 23 (0, 0)) (by (with_reducible repeat (first | refine blk_drewN ?_ _ | refine blk_drew ?_ | refine blk_alloc ?_ _)); refine blk_far ?_ NB592_602.out _; (with_reducible repeat (first | refine blk_drewN ?_ _ | refine blk_drew ?_ | refine blk_alloc ?_ _)); refine blk_far ?_ NB592_602.out _; (with_reducible repeat (first | refine blk_drewN ?_ _ | refine blk_drew ?_ | refine blk_alloc ?_ _)); refine blk_far ?_ NB592_601.out _; (with_reducible repeat (first | refine blk_drewN ?_ _ | refine blk_drew ?_ | refine blk_alloc ?_ _)); refine blk_far ?_ NB592_601.out _; (with_reducible repeat (first | refine blk_drewN ?_ _ | refine blk_drew ?_ | refine blk_alloc ?_ _)); exact BK592.out) hb); have n3_ := Aside0.mk (blk_below (g := gb601) (o := .cells #[.int .i64 t594, .int .i64 t595] 27 (0, 0)) (by (with_reducible repeat (first | refine blk_drewN ?_ _ | refine blk_drew ?_ | refine blk_alloc ?_ _)); refine blk_far ?_ NB601_602.out _; (with_reducible repeat (first | refine blk_drewN ?_ _ | refine blk_drew ?_ | refine blk_alloc ?_ _)); refine blk_far ?_ NB601_602.out _; (with_reducible repeat (first | refine blk_drewN ?_ _ | refine blk_drew ?_ | refine blk_alloc ?_ _)); refine blk_put (cs := #[.int .i64 t594, .int .i64 0]) ?_ 1 _ rfl; (with_reducible repeat (first | refine blk_drewN ?_ _ | refine blk_drew ?_ | refine blk_alloc ?_ _)); refine blk_put (cs := #[.int .i64 0, .int .i64 0]) ?_ 0 _ rfl; (with_reducible repeat (first | refine blk_drewN ?_ _ | refine blk_drew ?_ | refine blk_alloc ?_ _)); exact BK601.out) hb); have n4_ := Aside0.mk (blk_below (g := gb602) (o := .cells #[.int .i64 t596, .int .i64 t597] 23 (0, 0)) (by (with_reducible repeat (first | refine blk_drewN ?_ _ | refine blk_drew ?_ | refine blk_alloc ?_ _)); refine blk_put (cs := #[.int .i64 t596, .int .i64 0]) ?_ 1 _ rfl; (with_reducible repeat (first | refine blk_drewN ?_ _ | refine blk_drew ?_ | refine blk_alloc ?_ _)); refine blk_put (cs := #[.int .i64 0, .int .i64 0]) ?_ 0 _ rfl; (with_reducible repeat (first | refine blk_drewN ?_ _ | refine blk_drew ?_ | refine blk_alloc ?_ _)); refine blk_far ?_ NB602_601.out _; (with_reducible repeat (first | refine blk_drewN ?_ _ | refine blk_drew ?_ | refine blk_alloc ?_ _)); refine blk_far ?_ NB602_601.out _; (with_reducible repeat (first | refine blk_drewN ?_ _ | refine blk_drew ?_ | refine blk_alloc ?_ _)); exact BK602.out) hb); have n5_ := Aside0.mk (below_step (bw_ HB.out) hb); clear HO600 BK592 BK601 BK602 HB; have HO600 := n0_; have HO607 := n1_; have BK592 := n2_; have BK601 := n3_; have BK602 := n4_; have HB := n5_; clear n0_ n1_ n2_ n3_ n4_ n5_; (try clear hb); (try clear hb2); (try clear hk); (try clear hi); (try clear ho0)) | ((with_reducible refine gate_dst (N := 9) rfl ?_); refine bx_ (N := 9) (cs := #[.int .u64 0, .int .i64 0, .slice none 0 0]) (t := 33) ?_; intro gb608 hg w26 hbox hb; have n0_ := Aside0.mk (Kd.S_below (by (with_reducible repeat (first | apply Kd.S_alloc | apply Kd.S_drewN | apply Kd.S_drew)); exact HO600.out) hb); have n1_ := Aside0.mk (Kd.R_below (by (with_reducible repeat (first | apply Kd.R_alloc | apply Kd.R_drewN | apply Kd.R_drew)); exact HO607.out) hb); have n2_ := Aside0.mk (blk_below (bk_ BK592.out) hb); have n3_ := Aside0.mk (blk_below (bk_ BK601.out) hb); have n4_ := Aside0.mk (blk_below (bk_ BK602.out) hb); have n5_ := Aside0.mk (below_step (bw_ HB.out) hb); have n6_ := Aside0.mk (hbox); have n7_ := Aside0.mk (sz_ hg (bw_ HB.out)); have n8_ := n7_; have n9_ := Aside0.mk (ne_ hg (blk_lt (bk_ BK592.out))); have n10_ := Aside0.mk n9_.out.symm; have n11_ := Aside0.mk (ne_ hg (blk_lt (bk_ BK601.out))); have n12_ := Aside0.mk n11_.out.symm; have n13_ := Aside0.mk (ne_ hg (blk_lt (bk_ BK602.out))); have n14_ := Aside0.mk n13_.out.symm; clear HO600 HO607 BK592 BK601 BK602 HB; have HO600 := n0_; have HO607 := n1_; have BK592 := n2_; have BK601 := n3_; have BK602 := n4_; have HB := n5_; have BK608 := n6_; have GW608 := n7_; have GE608 := n8_; have NB592_608 := n9_; have NB608_592 := n10_; have NB601_608 := n11_; have NB608_601 := n12_; have NB602_608 := n13_; have NB608_602 := n14_; clear n0_ n1_ n2_ n3_ n4_ n5_ n6_ n7_ n8_ n9_ n10_ n11_ n12_ n13_ n14_; clear hb hbox hg; have hnb27 := NB608_592.out; have hnc27 := NB592_608.out; have hnb28 := NB608_601.out; have hnc28 := NB601_608.out; have hnb29 := NB608_602.out; have hnc29 := NB602_608.out; have hcz30_0 : w26.cell? ⟨gb608, 0, none⟩ = some (.int .u64 0) := (blk_cell BK608.out 0).trans rfl; have hcz30_1 : w26.cell? ⟨gb608, 1, none⟩ = some (.int .i64 0) := (blk_cell BK608.out 1).trans rfl; have hcz30_2 : w26.cell? ⟨gb608, 2, none⟩ = some (.slice none 0 0) := (blk_cell BK608.out 2).trans rfl; have hfz30_0 := blk_frozen BK608.out 0; have hfz30_1 := blk_frozen BK608.out 1; have hfz30_2 := blk_frozen BK608.out 2; obtain ⟨Ao31, co31, eo31⟩ := Kd.R_slice HO607.out; subst eo31))
    have n0_ : Aside0 (Kd.S k44 44 (((w26.setCell ⟨gb608, 0, none⟩ (.int .u64 t603)).setCell ⟨gb608, 1, none⟩ (.int .i64 t604)).setCell ⟨gb608, 2, none⟩ (.slice Ao31 t605.length co31)) w.heap.size (fun k_ => some k_ ≠ (.slice Ao31 t605.length co31 : Value).ownBlock) (.slice Ao24 t598.length co24) t598) := ⟨by (with_reducible repeat (first | apply Kd.S_alloc | apply Kd.S_drewN | apply Kd.S_drew)); exact Kd.S_mono (Kd.S_far (p := ⟨gb608, 2, none⟩) (Kd.S_far (p := ⟨gb608, 1, none⟩) (Kd.S_far (p := ⟨gb608, 0, none⟩) (Kd.S_types HO600.out BK608.out (by decide)) (fun _ hk => hk.2) (.int .u64 t603)) (fun _ hk => hk.2) (.int .i64 t604)) (fun _ hk => hk.2) (.slice Ao31 t605.length co31)) (fun _ hk => hk.1.2)⟩
    have n1_ : Aside0 (Kd.R Kd.string 9 (((w26.setCell ⟨gb608, 0, none⟩ (.int .u64 t603)).setCell ⟨gb608, 1, none⟩ (.int .i64 t604)).setCell ⟨gb608, 2, none⟩ (.slice Ao31 t605.length co31)) w.heap.size (fun _ => True) (.slice Ao31 t605.length co31) t605) := ⟨by (with_reducible repeat (first | apply Kd.R_alloc | apply Kd.R_drewN | apply Kd.R_drew)); exact Kd.R_mono (Kd.R_far (p := ⟨gb608, 2, none⟩) (Kd.R_far (p := ⟨gb608, 1, none⟩) (Kd.R_far (p := ⟨gb608, 0, none⟩) (Kd.R_types HO607.out BK608.out (by decide)) (fun _ hk => hk.2) (.int .u64 t603)) (fun _ hk => hk.2) (.int .i64 t604)) (fun _ hk => hk.2) (.slice Ao31 t605.length co31)) (fun _ hk => trivial)⟩
    have n2_ : Aside0 ((((w26.setCell ⟨gb608, 0, none⟩ (.int .u64 t603)).setCell ⟨gb608, 1, none⟩ (.int .i64 t604)).setCell ⟨gb608, 2, none⟩ (.slice Ao31 t605.length co31)).heap[gb592]? = some (.cells #[.int .i64 a0_0, .int .i64 a0_1] 23 (0, 0))) := ⟨by (with_reducible repeat (first | refine blk_drewN ?_ _ | refine blk_drew ?_ | refine blk_alloc ?_ _)); refine blk_far ?_ NB592_608.out _; (with_reducible repeat (first | refine blk_drewN ?_ _ | refine blk_drew ?_ | refine blk_alloc ?_ _)); refine blk_far ?_ NB592_608.out _; (with_reducible repeat (first | refine blk_drewN ?_ _ | refine blk_drew ?_ | refine blk_alloc ?_ _)); refine blk_far ?_ NB592_608.out _; (with_reducible repeat (first | refine blk_drewN ?_ _ | refine blk_drew ?_ | refine blk_alloc ?_ _)); exact BK592.out⟩
    have n3_ : Aside0 ((((w26.setCell ⟨gb608, 0, none⟩ (.int .u64 t603)).setCell ⟨gb608, 1, none⟩ (.int .i64 t604)).setCell ⟨gb608, 2, none⟩ (.slice Ao31 t605.length co31)).heap[gb601]? = some (.cells #[.int .i64 t594, .int .i64 t595] 27 (0, 0))) := ⟨by (with_reducible repeat (first | refine blk_drewN ?_ _ | refine blk_drew ?_ | refine blk_alloc ?_ _)); refine blk_far ?_ NB601_608.out _; (with_reducible repeat (first | refine blk_drewN ?_ _ | refine blk_drew ?_ | refine blk_alloc ?_ _)); refine blk_far ?_ NB601_608.out _; (with_reducible repeat (first | refine blk_drewN ?_ _ | refine blk_drew ?_ | refine blk_alloc ?_ _)); refine blk_far ?_ NB601_608.out _; (with_reducible repeat (first | refine blk_drewN ?_ _ | refine blk_drew ?_ | refine blk_alloc ?_ _)); exact BK601.out⟩
    have n4_ : Aside0 ((((w26.setCell ⟨gb608, 0, none⟩ (.int .u64 t603)).setCell ⟨gb608, 1, none⟩ (.int .i64 t604)).setCell ⟨gb608, 2, none⟩ (.slice Ao31 t605.length co31)).heap[gb602]? = some (.cells #[.int .i64 t596, .int .i64 t597] 23 (0, 0))) := ⟨by (with_reducible repeat (first | refine blk_drewN ?_ _ | refine blk_drew ?_ | refine blk_alloc ?_ _)); refine blk_far ?_ NB602_608.out _; (with_reducible repeat (first | refine blk_drewN ?_ _ | refine blk_drew ?_ | refine blk_alloc ?_ _)); refine blk_far ?_ NB602_608.out _; (with_reducible repeat (first | refine blk_drewN ?_ _ | refine blk_drew ?_ | refine blk_alloc ?_ _)); refine blk_far ?_ NB602_608.out _; (with_reducible repeat (first | refine blk_drewN ?_ _ | refine blk_drew ?_ | refine blk_alloc ?_ _)); exact BK602.out⟩
    have n5_ : Aside0 ((((w26.setCell ⟨gb608, 0, none⟩ (.int .u64 t603)).setCell ⟨gb608, 1, none⟩ (.int .i64 t604)).setCell ⟨gb608, 2, none⟩ (.slice Ao31 t605.length co31)).heap[gb608]? = some (.cells #[.int .u64 t603, .int .i64 t604, .slice Ao31 t605.length co31] 33 (0, 0))) := ⟨by (with_reducible repeat (first | refine blk_drewN ?_ _ | refine blk_drew ?_ | refine blk_alloc ?_ _)); refine blk_put (cs := #[.int .u64 t603, .int .i64 t604, .slice none 0 0]) ?_ 2 _ rfl; (with_reducible repeat (first | refine blk_drewN ?_ _ | refine blk_drew ?_ | refine blk_alloc ?_ _)); refine blk_put (cs := #[.int .u64 t603, .int .i64 0, .slice none 0 0]) ?_ 1 _ rfl; (with_reducible repeat (first | refine blk_drewN ?_ _ | refine blk_drew ?_ | refine blk_alloc ?_ _)); refine blk_put (cs := #[.int .u64 0, .int .i64 0, .slice none 0 0]) ?_ 0 _ rfl; (with_reducible repeat (first | refine blk_drewN ?_ _ | refine blk_drew ?_ | refine blk_alloc ?_ _)); exact BK608.out⟩
    have n6_ : Aside0 (Below w.heap.size w (((w26.setCell ⟨gb608, 0, none⟩ (.int .u64 t603)).setCell ⟨gb608, 1, none⟩ (.int .i64 t604)).setCell ⟨gb608, 2, none⟩ (.slice Ao31 t605.length co31))) := ⟨by repeat (first | (with_reducible first | exact HB.out | apply below_alloc | apply pw_below_drewN | apply below_drew1 | refine below_set ?_ GE592.out | refine below_set ?_ GE601.out | refine below_set ?_ GE602.out | refine below_set ?_ GE608.out) | exact HB.out)⟩
    (try clear HO600)
    (try clear HO607)
    (try clear BK592)
    (try clear BK601)
    (try clear BK602)
    (try clear BK608)
    (try clear HB)
    generalize (((w26.setCell ⟨gb608, 0, none⟩ (.int .u64 t603)).setCell ⟨gb608, 1, none⟩ (.int .i64 t604)).setCell ⟨gb608, 2, none⟩ (.slice Ao31 t605.length co31)) = w32 at n0_ n1_ n2_ n3_ n4_ n5_ n6_ ⊢
    have HO600 := n0_
    have HO607 := n1_
    have BK592 := n2_
    have BK601 := n3_
    have BK602 := n4_
    have BK608 := n5_
    have HB := n6_
    clear n0_ n1_ n2_ n3_ n4_ n5_ n6_
    have n0_ := Aside0.mk (Kd.S_drew HO600.out)
    have n1_ := Aside0.mk (Kd.R_drew HO607.out)
    have n2_ := Aside0.mk (blk_drew BK592.out)
    have n3_ := Aside0.mk (blk_drew BK601.out)
    have n4_ := Aside0.mk (blk_drew BK602.out)
    have n5_ := Aside0.mk (blk_drew BK608.out)
    have n6_ := Aside0.mk (below_drew1 HB.out)
    clear HO600
    clear HO607
    clear BK592
    clear BK601
    clear BK602
    clear BK608
    clear HB
    have HO600 := n0_
    have HO607 := n1_
    have BK592 := n2_
    have BK601 := n3_
    have BK602 := n4_
    have BK608 := n5_
    have HB := n6_
    clear n0_ n1_ n2_ n3_ n4_ n5_ n6_
    refine start_ (n := 18) (S := fun w' => w'.cell? ⟨gb601, 0, none⟩ = some (.int .i64 t594) ∧ w'.cell? ⟨gb601, 1, none⟩ = some (.int .i64 t595) ∧ w'.cell? ⟨gb602, 0, none⟩ = some (.int .i64 t596) ∧ w'.cell? ⟨gb602, 1, none⟩ = some (.int .i64 t597) ∧ w'.cell? ⟨gb608, 0, none⟩ = some (.int .u64 t603) ∧ w'.cell? ⟨gb608, 1, none⟩ = some (.int .i64 t604) ∧ w'.cell? ⟨gb608, 2, none⟩ = some (.slice Ao31 t605.length co31)) (ds := []) #[false, false, false, false, false, false, false, false, false, false, false, false, false, false, false, false, false, false] (by kernel_rfl) rfl rfl ⟨(blk_cell BK601.out 0).trans rfl, (blk_cell BK601.out 1).trans rfl, (blk_cell BK602.out 0).trans rfl, (blk_cell BK602.out 1).trans rfl, (blk_cell BK608.out 0).trans rfl, (blk_cell BK608.out 1).trans rfl, (blk_cell BK608.out 2).trans rfl⟩ (fun hHeld => ?_); refine with_tabW gristmilllaw06_AggMay.tab6 gristmilllaw06_AggMay.bits6 (fun HT_ HW_ => ?_)
    generalize w32.drew = w33 at HO600 HO607 BK592 BK601 BK602 BK608 HB hHeld ⊢
    refine take_ (i := 0) (N := some 23) (v := ?_) (a' := ?_) #[true, false, false, false, false, false, false, false, false, false, false, false, false, false, false, false, false, false] rfl rfl (take_ofW HT_.out HW_.out (by kernel_rfl)) (fun _ _ _ h => h) (Or.inl ⟨by rfl, ?_⟩) hHeld ?_ ?_
    rotate_left
    ·rintro w' ⟨s0, s1, s2, s3, s4, s5, s6⟩
     go_simp
     with_reducible rfl
    rotate_left
    ·simp only [Act.put, q1_, q2_, q3_, i64_w, i32_w]
     rfl
    refine take_ (i := 1) (N := some 24) (v := ?_) (a' := ?_) #[true, true, false, false, false, false, false, false, false, false, false, false, false, false, false, false, false, false] rfl rfl (take_ofW HT_.out HW_.out (by kernel_rfl)) (fun _ _ _ h => h) (Or.inl ⟨by rfl, ?_⟩) hHeld ?_ ?_
    rotate_left
    ·rintro w' ⟨s0, s1, s2, s3, s4, s5, s6⟩
     go_simp
     with_reducible rfl
    rotate_left
    ·simp only [Act.put, q1_, q2_, q3_, i64_w, i32_w]
     rfl
    refine take_ (i := 2) (N := some 25) (v := ?_) (a' := ?_) #[true, true, true, false, false, false, false, false, false, false, false, false, false, false, false, false, false, false] rfl rfl (take_ofW HT_.out HW_.out (by kernel_rfl)) (fun _ _ _ h => h) (Or.inl ⟨by rfl, ?_⟩) hHeld ?_ ?_
    rotate_left
    ·rintro w' ⟨s0, s1, s2, s3, s4, s5, s6⟩
     go_simp
     with_reducible rfl
    rotate_left
    ·simp only [Act.put, q1_, q2_, q3_, i64_w, i32_w]
     rfl
    refine one_ (i := 3) (N := some 26) #[true, true, true, true, false, false, false, false, false, false, false, false, false, false, false, false, false, false] rfl rfl (one_of HT_.out (by kernel_rfl)) (by decide) (fun K hK => ?_)
    refine goes_ Try.func23 (by kernel_rfl) rfl #[.agg #[.int .i64 t594, .int .i64 t595], .agg #[.int .i64 t596, .int .i64 t597], .agg #[.int .u64 t603, .int .i64 t604, .slice Ao31 t605.length co31]] (by rfl) rfl rfl (by (try simp only [List.map_toArray, List.map_cons, List.map_nil]); first | done | rfl | (simp only [List.length_drop, List.length_take]; rfl)) ?_
    with_reducible refine (agg_May.calls k t594 t595 t596 t597 t603 t604 _ _ t605 true _ ?side1 ?side2 A7.out).mono ?_
    (case side1 => repeat (first | exact (Kd.R_reads' HO607.out).2.2 | (with_reducible refine Kd.C_alloc ?_ _) | (with_reducible refine Kd.C_drewN ?_ _) | (with_reducible refine Kd.C_drew ?_)))
    (case side2 => exact (Kd.R_reads' HO607.out).2.1)
    rintro e w34 ⟨rfl, hb⟩
    refine ⟨_, rfl, ?_⟩
    have n0_ := Aside0.mk (Kd.S_below (by (with_reducible repeat (first | apply Kd.S_alloc | apply Kd.S_drewN | apply Kd.S_drew)); exact HO600.out) hb)
    have n1_ := Aside0.mk (Kd.R_below (by (with_reducible repeat (first | apply Kd.R_alloc | apply Kd.R_drewN | apply Kd.R_drew)); exact HO607.out) hb)
    have n2_ := Aside0.mk (blk_below (bk_ BK592.out) hb)
    have n3_ := Aside0.mk (blk_below (bk_ BK601.out) hb)
    have n4_ := Aside0.mk (blk_below (bk_ BK602.out) hb)
    have n5_ := Aside0.mk (blk_below (bk_ BK608.out) hb)
    have n6_ := Aside0.mk (below_step (bw_ HB.out) hb)
    clear HO600
    clear HO607
    clear BK592
    clear BK601
    clear BK602
    clear BK608
    clear HB
    have HO600 := n0_
    have HO607 := n1_
    have BK592 := n2_
    have BK601 := n3_
    have BK602 := n4_
    have BK608 := n5_
    have HB := n6_
    clear n0_ n1_ n2_ n3_ n4_ n5_ n6_
    (try clear hb)
    (try clear hb2)
    (try clear hk)
    (try clear hi)
    refine hK.out _ _ ⟨(blk_cell BK601.out 0).trans rfl, (blk_cell BK601.out 1).trans rfl, (blk_cell BK602.out 0).trans rfl, (blk_cell BK602.out 1).trans rfl, (blk_cell BK608.out 0).trans rfl, (blk_cell BK608.out 1).trans rfl, (blk_cell BK608.out 2).trans rfl⟩ (fun hHeld => ?_)
    clear hK K
    refine norm_ (a' := ?_) ?_ ?_
    rotate_left
    ·show Act.put _ (some 26) _ = _
     simp only [Act.put, q1_, q2_, q3_, i64_w, i32_w]
     rfl
    refine pure_ (i := 4) (N := some 27) (v := ?_) (a' := ?_) #[true, true, true, true, true, false, false, false, false, false, false, false, false, false, false, false, false, false] rfl rfl (any_of HT_.out (by kernel_rfl)) (fun _ _ _ h => h) (Or.inl ⟨by rfl, ?_⟩) ?_ ?_
    rotate_left
    ·intro w'
     go_simp
     with_reducible rfl
    rotate_left
    ·simp only [Act.put, q1_, q2_, q3_, i64_w, i32_w]
     rfl
    refine take_ (i := 5) (N := some 28) (v := ?_) (a' := ?_) #[true, true, true, true, true, true, false, false, false, false, false, false, false, false, false, false, false, false] rfl rfl (take_ofW HT_.out HW_.out (by kernel_rfl)) (fun _ _ _ h => h) (Or.inl ⟨by rfl, ?_⟩) hHeld ?_ ?_
    rotate_left
    ·rintro w' ⟨s0, s1, s2, s3, s4, s5, s6⟩
     go_simp
     with_reducible rfl
    rotate_left
    ·simp only [Act.put, q1_, q2_, q3_, i64_w, i32_w]
     rfl
    refine take_ (i := 6) (N := some 29) (v := ?_) (a' := ?_) #[true, true, true, true, true, true, true, false, false, false, false, false, false, false, false, false, false, false] rfl rfl (take_ofW HT_.out HW_.out (by kernel_rfl)) (fun _ _ _ h => h) (Or.inl ⟨by rfl, ?_⟩) hHeld ?_ ?_
    rotate_left
    ·rintro w' ⟨s0, s1, s2, s3, s4, s5, s6⟩
     go_simp
     with_reducible rfl
    rotate_left
    ·simp only [Act.put, q1_, q2_, q3_, i64_w, i32_w]
     rfl
    refine take_ (i := 7) (N := some 30) (v := ?_) (a' := ?_) #[true, true, true, true, true, true, true, true, false, false, false, false, false, false, false, false, false, false] rfl rfl (take_ofW HT_.out HW_.out (by kernel_rfl)) (fun _ _ _ h => h) (Or.inl ⟨by rfl, ?_⟩) hHeld ?_ ?_
    rotate_left
    ·rintro w' ⟨s0, s1, s2, s3, s4, s5, s6⟩
     go_simp
     with_reducible rfl
    rotate_left
    ·simp only [Act.put, q1_, q2_, q3_, i64_w, i32_w]
     rfl
    refine one_ (i := 8) (N := some 31) #[true, true, true, true, true, true, true, true, true, false, false, false, false, false, false, false, false, false] rfl rfl (one_of HT_.out (by kernel_rfl)) (by decide) (fun K hK => ?_)
    refine goes_ Try.func18 (by kernel_rfl) rfl #[.agg #[.int .i64 t596, .int .i64 t597]] (by rfl) rfl rfl (by (try simp only [List.map_toArray, List.map_cons, List.map_nil]); first | done | rfl | (simp only [List.length_drop, List.length_take]; rfl)) ?_
    with_reducible refine (agg_Start.calls t596 t597 t610 t611 t612 _ A9.out).mono ?_
    rintro e w35 ⟨v613, rfl, ho0, hb⟩
    refine ⟨_, rfl, ?_⟩
    have n0_ := Aside0.mk (Kd.S_elder' (by (with_reducible repeat (first | apply Kd.S_alloc | apply Kd.S_drewN | apply Kd.S_drew)); exact HO600.out) (Kd.R_base ho0) hb)
    have n1_ := Aside0.mk (Kd.R_elder' (by (with_reducible repeat (first | apply Kd.R_alloc | apply Kd.R_drewN | apply Kd.R_drew)); exact HO607.out) (Kd.R_base ho0) hb)
    have n2_ := Aside0.mk (Kd.R_lower (Kd.R_new' ho0 (Kd.R_lt (by (with_reducible repeat (first | apply Kd.R_alloc | apply Kd.R_drewN | apply Kd.R_drew)); exact HO607.out))) (below_size (bw_ HB.out)))
    have n3_ := Aside0.mk (blk_below (bk_ BK592.out) hb)
    have n4_ := Aside0.mk (blk_below (bk_ BK601.out) hb)
    have n5_ := Aside0.mk (blk_below (bk_ BK602.out) hb)
    have n6_ := Aside0.mk (blk_below (bk_ BK608.out) hb)
    have n7_ := Aside0.mk (below_step (bw_ HB.out) hb)
    clear HO600
    clear HO607
    clear BK592
    clear BK601
    clear BK602
    clear BK608
    clear HB
    have HO600 := n0_
    have HO607 := n1_
    have HO614 := n2_
    have BK592 := n3_
    have BK601 := n4_
    have BK602 := n5_
    have BK608 := n6_
    have HB := n7_
    clear n0_ n1_ n2_ n3_ n4_ n5_ n6_ n7_
    (try clear hb)
    (try clear hb2)
    (try clear hk)
    (try clear hi)
    (try clear ho0)
    obtain ⟨Ao36, co36, eo36⟩ := Kd.R_slice HO614.out
    (first | subst eo36 | (injection eo36 with f1_ f2_ f3_; have f4_ := f1_.symm; have f5_ := f3_.symm; clear f1_ f2_ f3_; subst f4_; subst f5_))
    refine hK.out _ _ ⟨(blk_cell BK601.out 0).trans rfl, (blk_cell BK601.out 1).trans rfl, (blk_cell BK602.out 0).trans rfl, (blk_cell BK602.out 1).trans rfl, (blk_cell BK608.out 0).trans rfl, (blk_cell BK608.out 1).trans rfl, (blk_cell BK608.out 2).trans rfl⟩ (fun hHeld => ?_)
    clear hK K
    refine norm_ (a' := ?_) ?_ ?_
    rotate_left
    ·show Act.put _ (some 31) _ = _
     simp only [Act.put, q1_, q2_, q3_, i64_w, i32_w]
     rfl
    refine one_ (i := 9) (N := some 32) #[true, true, true, true, true, true, true, true, true, true, false, false, false, false, false, false, false, false] rfl rfl (one_of HT_.out (by kernel_rfl)) (by decide) (fun K hK => ?_)
    refine goes_ Try.func23 (by kernel_rfl) rfl #[.agg #[.int .i64 t594, .int .i64 t595], .agg #[.int .i64 t596, .int .i64 t597], .agg #[.int .u64 t610, .int .i64 t611, .slice Ao36 t612.length co36]] (by rfl) rfl rfl (by (try simp only [List.map_toArray, List.map_cons, List.map_nil]); first | done | rfl | (simp only [List.length_drop, List.length_take]; rfl)) ?_
    with_reducible refine (agg_May.calls k t594 t595 t596 t597 t610 t611 _ _ t612 true _ ?side1 ?side2 A10.out).mono ?_
    (case side1 => repeat (first | exact (Kd.R_reads' HO614.out).2.2 | (with_reducible refine Kd.C_alloc ?_ _) | (with_reducible refine Kd.C_drewN ?_ _) | (with_reducible refine Kd.C_drew ?_)))
    (case side2 => exact (Kd.R_reads' HO614.out).2.1)
    rintro e w37 ⟨rfl, hb⟩
    refine ⟨_, rfl, ?_⟩
    have n0_ := Aside0.mk (Kd.S_below (by (with_reducible repeat (first | apply Kd.S_alloc | apply Kd.S_drewN | apply Kd.S_drew)); exact HO600.out) hb)
    have n1_ := Aside0.mk (Kd.R_below (by (with_reducible repeat (first | apply Kd.R_alloc | apply Kd.R_drewN | apply Kd.R_drew)); exact HO607.out) hb)
    have n2_ := Aside0.mk (Kd.R_below (by (with_reducible repeat (first | apply Kd.R_alloc | apply Kd.R_drewN | apply Kd.R_drew)); exact HO614.out) hb)
    have n3_ := Aside0.mk (blk_below (bk_ BK592.out) hb)
    have n4_ := Aside0.mk (blk_below (bk_ BK601.out) hb)
    have n5_ := Aside0.mk (blk_below (bk_ BK602.out) hb)
    have n6_ := Aside0.mk (blk_below (bk_ BK608.out) hb)
    have n7_ := Aside0.mk (below_step (bw_ HB.out) hb)
    clear HO600
    clear HO607
    clear HO614
    clear BK592
    clear BK601
    clear BK602
    clear BK608
    clear HB
    have HO600 := n0_
    have HO607 := n1_
    have HO614 := n2_
    have BK592 := n3_
    have BK601 := n4_
    have BK602 := n5_
    have BK608 := n6_
    have HB := n7_
    clear n0_ n1_ n2_ n3_ n4_ n5_ n6_ n7_
    (try clear hb)
    (try clear hb2)
    (try clear hk)
    (try clear hi)
    refine hK.out _ _ ⟨(blk_cell BK601.out 0).trans rfl, (blk_cell BK601.out 1).trans rfl, (blk_cell BK602.out 0).trans rfl, (blk_cell BK602.out 1).trans rfl, (blk_cell BK608.out 0).trans rfl, (blk_cell BK608.out 1).trans rfl, (blk_cell BK608.out 2).trans rfl⟩ (fun hHeld => ?_)
    clear hK K
    refine norm_ (a' := ?_) ?_ ?_
    rotate_left
    ·show Act.put _ (some 32) _ = _
     simp only [Act.put, q1_, q2_, q3_, i64_w, i32_w]
     rfl
    refine pure_ (i := 10) (N := some 33) (v := ?_) (a' := ?_) #[true, true, true, true, true, true, true, true, true, true, true, false, false, false, false, false, false, false] rfl rfl (any_of HT_.out (by kernel_rfl)) (fun _ _ _ h => h) (Or.inl ⟨by rfl, ?_⟩) ?_ ?_
    rotate_left
    ·intro w'
     go_simp
     with_reducible rfl
    rotate_left
    ·simp only [Act.put, q1_, q2_, q3_, i64_w, i32_w]
     rfl
    refine pure_ (i := 11) (N := some 34) (v := ?_) (a' := ?_) #[true, true, true, true, true, true, true, true, true, true, true, true, false, false, false, false, false, false] rfl rfl (any_of HT_.out (by kernel_rfl)) (fun _ _ _ h => h) (Or.inl ⟨by rfl, ?_⟩) ?_ ?_
    rotate_left
    ·intro w'
     go_simp
     with_reducible rfl
    rotate_left
    ·simp only [Act.put, q1_, q2_, q3_, i64_w, i32_w]
     rfl
    refine take_ (i := 12) (N := some 35) (v := ?_) (a' := ?_) #[true, true, true, true, true, true, true, true, true, true, true, true, true, false, false, false, false, false] rfl rfl (take_ofW HT_.out HW_.out (by kernel_rfl)) (fun _ _ _ h => h) (Or.inl ⟨by rfl, ?_⟩) hHeld ?_ ?_
    rotate_left
    ·rintro w' ⟨s0, s1, s2, s3, s4, s5, s6⟩
     go_simp
     with_reducible rfl
    rotate_left
    ·simp only [Act.put, q1_, q2_, q3_, i64_w, i32_w]
     rfl
    refine one_ (i := 13) (N := some 36) #[true, true, true, true, true, true, true, true, true, true, true, true, true, true, false, false, false, false] rfl rfl (one_of HT_.out (by kernel_rfl)) (by decide) (fun K hK => ?_)
    refine goes_ Try.func18 (by kernel_rfl) rfl #[.agg #[.int .i64 t596, .int .i64 t597]] (by rfl) rfl rfl (by (try simp only [List.map_toArray, List.map_cons, List.map_nil]); first | done | rfl | (simp only [List.length_drop, List.length_take]; rfl)) ?_
    with_reducible refine (agg_Start.calls t596 t597 t616 t617 t618 _ A12.out).mono ?_
    rintro e w38 ⟨v619, rfl, ho0, hb⟩
    obtain ⟨Ao41_, co41_, eo41_⟩ := Kd.R_slice ho0
    subst eo41_
    refine ⟨_, rfl, ?_⟩
    have n0_ := Aside0.mk (Kd.S_elder' (by (with_reducible repeat (first | apply Kd.S_alloc | apply Kd.S_drewN | apply Kd.S_drew)); exact HO600.out) (Kd.R_base ho0) hb)
    have n1_ := Aside0.mk (Kd.R_elder' (by (with_reducible repeat (first | apply Kd.R_alloc | apply Kd.R_drewN | apply Kd.R_drew)); exact HO607.out) (Kd.R_base ho0) hb)
    have n2_ := Aside0.mk (Kd.R_elder' (by (with_reducible repeat (first | apply Kd.R_alloc | apply Kd.R_drewN | apply Kd.R_drew)); exact HO614.out) (Kd.R_base ho0) hb)
    have n3_ := Aside0.mk (Kd.R_lower (Kd.R_new' (Kd.R_new' ho0 (Kd.R_lt (by (with_reducible repeat (first | apply Kd.R_alloc | apply Kd.R_drewN | apply Kd.R_drew)); exact HO607.out))) (Kd.R_lt (by (with_reducible repeat (first | apply Kd.R_alloc | apply Kd.R_drewN | apply Kd.R_drew)); exact HO614.out))) (below_size (bw_ HB.out)))
    have n4_ := Aside0.mk (blk_below (bk_ BK592.out) hb)
    have n5_ := Aside0.mk (blk_below (bk_ BK601.out) hb)
    have n6_ := Aside0.mk (blk_below (bk_ BK602.out) hb)
    have n7_ := Aside0.mk (blk_below (bk_ BK608.out) hb)
    have n8_ := Aside0.mk (below_step (bw_ HB.out) hb)
    clear HO600
    clear HO607
    clear HO614
    clear BK592
    clear BK601
    clear BK602
    clear BK608
    clear HB
    have HO600 := n0_
    have HO607 := n1_
    have HO614 := n2_
    have HO620 := n3_
    have BK592 := n4_
    have BK601 := n5_
    have BK602 := n6_
    have BK608 := n7_
    have HB := n8_
    clear n0_ n1_ n2_ n3_ n4_ n5_ n6_ n7_ n8_
    (try clear hb)
    (try clear hb2)
    (try clear hk)
    (try clear hi)
    (try clear ho0)
    refine hK.out _ _ ⟨(blk_cell BK601.out 0).trans rfl, (blk_cell BK601.out 1).trans rfl, (blk_cell BK602.out 0).trans rfl, (blk_cell BK602.out 1).trans rfl, (blk_cell BK608.out 0).trans rfl, (blk_cell BK608.out 1).trans rfl, (blk_cell BK608.out 2).trans rfl⟩ (fun hHeld => ?_)
    clear hK K
    refine norm_ (a' := ?_) ?_ ?_
    rotate_left
    ·show Act.put _ (some 36) _ = _
     simp only [Act.put, q1_, q2_, q3_, i64_w, i32_w]
     rfl
    refine pure_ (i := 14) (N := some 37) (v := ?_) (a' := ?_) #[true, true, true, true, true, true, true, true, true, true, true, true, true, true, true, false, false, false] rfl rfl (any_of HT_.out (by kernel_rfl)) (fun _ _ _ h => h) (Or.inl ⟨by rfl, ?_⟩) ?_ ?_
    rotate_left
    ·intro w'
     go_simp
     with_reducible rfl
    rotate_left
    ·simp only [Act.put, q1_, q2_, q3_, i64_w, i32_w]
     rfl
    refine pure_ (i := 15) (N := some 38) (v := ?_) (a' := ?_) #[true, true, true, true, true, true, true, true, true, true, true, true, true, true, true, true, false, false] rfl rfl (any_of HT_.out (by kernel_rfl)) (fun _ _ _ h => h) (Or.inl ⟨by rfl, ?_⟩) ?_ ?_
    rotate_left
    ·intro w'
     go_simp
     with_reducible rfl
    rotate_left
    ·simp only [Act.put, q1_, q2_, q3_, i64_w, i32_w]
     rfl
    refine pure_ (i := 16) (N := some 39) (v := ?_) (a' := ?_) #[true, true, true, true, true, true, true, true, true, true, true, true, true, true, true, true, true, false] rfl rfl (any_of HT_.out (by kernel_rfl)) (fun _ _ _ h => h) (Or.inl ⟨by rfl, ?_⟩) ?_ ?_
    rotate_left
    ·intro w'
     go_simp
     with_reducible rfl
    rotate_left
    ·simp only [Act.put, q1_, q2_, q3_, i64_w, i32_w]
     rfl
    refine pure_ (i := 17) (N := some 4) (v := ?_) (a' := ?_) #[true, true, true, true, true, true, true, true, true, true, true, true, true, true, true, true, true, true] rfl rfl (any_of HT_.out (by kernel_rfl)) (fun _ _ _ h => h) (Or.inl ⟨by rfl, ?_⟩) ?_ ?_
    rotate_left
    ·intro w'
     go_simp
     with_reducible rfl
    rotate_left
    ·simp only [Act.put, q1_, q2_, q3_, i64_w, i32_w]
     rfl
    refine done_ (done_of HT_.out (by kernel_rfl)) ?_
    try go_wp2
    go_ret
    exact ⟨by first | rfl | (simp [errW_none, errW_some] <;> rfl) | (simp [*, errW_none, errW_some] <;> rfl), by repeat (first | (with_reducible first | exact HB.out | apply below_alloc | apply pw_below_drewN | apply below_drew1 | refine below_set ?_ GE592.out | refine below_set ?_ GE601.out | refine below_set ?_ GE602.out | refine below_set ?_ GE608.out) | exact HB.out)⟩
   ·replace c11 := Bool.eq_false_iff.mpr c11
    subst c11
    have H1 : (some false) = some r := by rw [if_neg (show ¬ (false = true) by decide)] at H; exact H
    clear H
    have H := H1
    clear H1
    obtain rfl := Option.some.inj H
    go_enter Try.func9, Try.ntmps9
    try go_wp2_with (first | ((with_reducible refine gate_dst (N := 2) rfl ?_); refine bx_ (N := 2) (cs := #[.int .i64 a0_0, .int .i64 a0_1]) (t := 23) ?_; intro gb592 hg w39 hbox hb; have n0_ := Aside0.mk (below_step (bw_ HB.out) hb); have n1_ := Aside0.mk (hbox); have n2_ := Aside0.mk (sz_ hg (bw_ HB.out)); have n3_ := n2_; clear HB; have HB := n0_; have BK592 := n1_; have GW592 := n2_; have GE592 := n3_; clear n0_ n1_ n2_ n3_; clear hb hbox hg) | ((with_reducible refine gate_callee (f := 10) rfl ?_); refine goesL_ (some 10) rfl rfl Try.func10 (by kernel_rfl) rfl #[] rfl (by (try simp only [List.map_toArray, List.map_cons, List.map_nil]); first | done | rfl | (simp only [List.length_drop, List.length_take]; rfl)) ?_; (with_reducible refine (gristmilllaw06_awake.calls  true _ A3.out).mono ?_); rintro e w40 ⟨rfl, hb⟩; refine ⟨_, rfl, ?_⟩; have n0_ := Aside0.mk (blk_below (bk_ BK592.out) hb); have n1_ := Aside0.mk (below_step (bw_ HB.out) hb); clear BK592 HB; have BK592 := n0_; have HB := n1_; clear n0_ n1_; (try clear hb); (try clear hb2); (try clear hk); (try clear hi); have hcz41_0 : w40.cell? ⟨gb592, 0, none⟩ = some (.int .i64 a0_0) := (blk_cell BK592.out 0).trans rfl; have hcz41_1 : w40.cell? ⟨gb592, 1, none⟩ = some (.int .i64 a0_1) := (blk_cell BK592.out 1).trans rfl; have hfz41_0 := blk_frozen BK592.out 0; have hfz41_1 := blk_frozen BK592.out 1) | ((with_reducible refine gate_callee (f := 11) rfl ?_); refine goesL_ (some 16) rfl rfl Try.func11 (by kernel_rfl) rfl #[.agg #[.int .i64 a0_0, .int .i64 a0_1], .slice A1 l1.length c1] rfl (by (try simp only [List.map_toArray, List.map_cons, List.map_nil]); first | done | rfl | (simp only [List.length_drop, List.length_take]; rfl)) ?_; (with_reducible refine (gristmilllaw06_right.calls k a0_0 a0_1 _ _ l1 t594 t595 t596 t597 t598 _ ?side1 ?side2 A5.out).mono ?_); (case side1 => repeat (first | exact (Kd.C_below HR1.out HB.out) | (with_reducible refine Kd.C_alloc ?_ _) | (with_reducible refine Kd.C_drewN ?_ _) | (with_reducible refine Kd.C_drew ?_))); (case side2 => exact HC1.out); rintro e w42 ⟨v599, rfl, ho0, hb⟩; refine ⟨_, rfl, ?_⟩; have n0_ := Aside0.mk (Kd.S_lower ho0 (below_size (bw_ HB.out))); have n1_ := Aside0.mk (blk_below (bk_ BK592.out) hb); have n2_ := Aside0.mk (below_step (bw_ HB.out) hb); clear BK592 HB; have HO600 := n0_; have BK592 := n1_; have HB := n2_; clear n0_ n1_ n2_; (try clear hb); (try clear hb2); (try clear hk); (try clear hi); (try clear ho0)) | ((with_reducible refine gate_dst (N := 6) rfl ?_); refine bx_ (N := 6) (cs := #[.int .i64 0, .int .i64 0]) (t := 27) ?_; intro gb601 hg w43 hbox hb; have n0_ := Aside0.mk (Kd.S_below (by (with_reducible repeat (first | apply Kd.S_alloc | apply Kd.S_drewN | apply Kd.S_drew)); exact HO600.out) hb); have n1_ := Aside0.mk (blk_below (bk_ BK592.out) hb); have n2_ := Aside0.mk (below_step (bw_ HB.out) hb); have n3_ := Aside0.mk (hbox); have n4_ := Aside0.mk (sz_ hg (bw_ HB.out)); have n5_ := n4_; have n6_ := Aside0.mk (ne_ hg (blk_lt (bk_ BK592.out))); have n7_ := Aside0.mk n6_.out.symm; clear HO600 BK592 HB; have HO600 := n0_; have BK592 := n1_; have HB := n2_; have BK601 := n3_; have GW601 := n4_; have GE601 := n5_; have NB592_601 := n6_; have NB601_592 := n7_; clear n0_ n1_ n2_ n3_ n4_ n5_ n6_ n7_; clear hb hbox hg) | ((with_reducible refine gate_dst (N := 7) rfl ?_); refine bx_ (N := 7) (cs := #[.int .i64 0, .int .i64 0]) (t := 23) ?_; intro gb602 hg w44 hbox hb; have n0_ := Aside0.mk (Kd.S_below (by (with_reducible repeat (first | apply Kd.S_alloc | apply Kd.S_drewN | apply Kd.S_drew)); exact HO600.out) hb); have n1_ := Aside0.mk (blk_below (bk_ BK592.out) hb); have n2_ := Aside0.mk (blk_below (bk_ BK601.out) hb); have n3_ := Aside0.mk (below_step (bw_ HB.out) hb); have n4_ := Aside0.mk (hbox); have n5_ := Aside0.mk (sz_ hg (bw_ HB.out)); have n6_ := n5_; have n7_ := Aside0.mk (ne_ hg (blk_lt (bk_ BK592.out))); have n8_ := Aside0.mk n7_.out.symm; have n9_ := Aside0.mk (ne_ hg (blk_lt (bk_ BK601.out))); have n10_ := Aside0.mk n9_.out.symm; clear HO600 BK592 BK601 HB; have HO600 := n0_; have BK592 := n1_; have BK601 := n2_; have HB := n3_; have BK602 := n4_; have GW602 := n5_; have GE602 := n6_; have NB592_602 := n7_; have NB602_592 := n8_; have NB601_602 := n9_; have NB602_601 := n10_; clear n0_ n1_ n2_ n3_ n4_ n5_ n6_ n7_ n8_ n9_ n10_; clear hb hbox hg; have hnb45 := NB601_592.out; have hnc45 := NB592_601.out; have hnb46 := NB601_602.out; have hnc46 := NB602_601.out; have hcz47_0 : w44.cell? ⟨gb601, 0, none⟩ = some (.int .i64 0) := (blk_cell BK601.out 0).trans rfl; have hcz47_1 : w44.cell? ⟨gb601, 1, none⟩ = some (.int .i64 0) := (blk_cell BK601.out 1).trans rfl; have hfz47_0 := blk_frozen BK601.out 0; have hfz47_1 := blk_frozen BK601.out 1; have hnb48 := NB602_592.out; have hnc48 := NB592_602.out; have hcz49_0 : w44.cell? ⟨gb602, 0, none⟩ = some (.int .i64 0) := (blk_cell BK602.out 0).trans rfl; have hcz49_1 : w44.cell? ⟨gb602, 1, none⟩ = some (.int .i64 0) := (blk_cell BK602.out 1).trans rfl; have hfz49_0 := blk_frozen BK602.out 0; have hfz49_1 := blk_frozen BK602.out 1; obtain ⟨Ao50, co50, eo50⟩ := Kd.S_slice HO600.out; subst eo50) | ((with_reducible refine gate_callee (f := 12) rfl ?_); refine goesL_ (some 22) rfl rfl Try.func12 (by kernel_rfl) rfl #[.agg #[.int .i64 t596, .int .i64 t597], .slice Ao50 t598.length co50] rfl (by (try simp only [List.map_toArray, List.map_cons, List.map_nil]); first | done | rfl | (simp only [List.length_drop, List.length_take]; rfl)) ?_; (with_reducible refine (gristmilllaw06_of.calls k t596 t597 _ _ t598 t603 t604 t605 _ ?side1 ?side2 A6.out).mono ?_); (case side1 => refine (Kd.S_reads' (e := 44) (base := w.heap.size) (ok := fun k_ => True) (n := t598.length) (c := co50) ?_).2.2; exact (by (with_reducible repeat (first | apply Kd.S_alloc | apply Kd.S_drewN | apply Kd.S_drew)); exact (Kd.S_mono (Kd.S_mono (Kd.S_far (p := ⟨gb602, 1, none⟩) (Kd.S_far (p := ⟨gb602, 0, none⟩) (Kd.S_far (p := ⟨gb601, 1, none⟩) (Kd.S_far (p := ⟨gb601, 0, none⟩) (Kd.S_types (Kd.S_types HO600.out BK601.out (by decide)) BK602.out (by decide)) (fun _ hk => hk.1.2) (.int .i64 t594)) (fun _ hk => hk.1.2) (.int .i64 t595)) (fun _ hk => hk.2) (.int .i64 t596)) (fun _ hk => hk.2) (.int .i64 t597)) (fun _ h_ => h_.1)) (fun _ h_ => h_.1)))); (case side2 => exact (Kd.S_reads' HO600.out).2.1); rintro e w51 ⟨v606, rfl, ho0, hb⟩; refine ⟨_, rfl, ?_⟩; have n0_ := Aside0.mk (Kd.S_elder' (by (with_reducible repeat (first | apply Kd.S_alloc | apply Kd.S_drewN | apply Kd.S_drew)); exact (Kd.S_mono (Kd.S_mono (Kd.S_far (p := ⟨gb602, 1, none⟩) (Kd.S_far (p := ⟨gb602, 0, none⟩) (Kd.S_far (p := ⟨gb601, 1, none⟩) (Kd.S_far (p := ⟨gb601, 0, none⟩) (Kd.S_types (Kd.S_types HO600.out BK601.out (by decide)) BK602.out (by decide)) (fun _ hk => hk.1.2) (.int .i64 t594)) (fun _ hk => hk.1.2) (.int .i64 t595)) (fun _ hk => hk.2) (.int .i64 t596)) (fun _ hk => hk.2) (.int .i64 t597)) (fun _ h_ => h_.1)) (fun _ h_ => h_.1))) (Kd.R_base ho0) hb); have n1_ := Aside0.mk (Kd.R_lower ho0 (below_size (bw_ HB.out))); have n2_ := Aside0.mk (blk_below (g := gb592) (o := .cells #[.int .i64 a0_0, .int .i64 a0_1] 23 (0, 0)) (by (with_reducible repeat (first | refine blk_drewN ?_ _ | refine blk_drew ?_ | refine blk_alloc ?_ _)); refine blk_far ?_ NB592_602.out _; (with_reducible repeat (first | refine blk_drewN ?_ _ | refine blk_drew ?_ | refine blk_alloc ?_ _)); refine blk_far ?_ NB592_602.out _; (with_reducible repeat (first | refine blk_drewN ?_ _ | refine blk_drew ?_ | refine blk_alloc ?_ _)); refine blk_far ?_ NB592_601.out _; (with_reducible repeat (first | refine blk_drewN ?_ _ | refine blk_drew ?_ | refine blk_alloc ?_ _)); refine blk_far ?_ NB592_601.out _; (with_reducible repeat (first | refine blk_drewN ?_ _ | refine blk_drew ?_ | refine blk_alloc ?_ _)); exact BK592.out) hb); have n3_ := Aside0.mk (blk_below (g := gb601) (o := .cells #[.int .i64 t594, .int .i64 t595] 27 (0, 0)) (by (with_reducible repeat (first | refine blk_drewN ?_ _ | refine blk_drew ?_ | refine blk_alloc ?_ _)); refine blk_far ?_ NB601_602.out _; (with_reducible repeat (first | refine blk_drewN ?_ _ | refine blk_drew ?_ | refine blk_alloc ?_ _)); refine blk_far ?_ NB601_602.out _; (with_reducible repeat (first | refine blk_drewN ?_ _ | refine blk_drew ?_ | refine blk_alloc ?_ _)); refine blk_put (cs := #[.int .i64 t594, .int .i64 0]) ?_ 1 _ rfl; (with_reducible repeat (first | refine blk_drewN ?_ _ | refine blk_drew ?_ | refine blk_alloc ?_ _)); refine blk_put (cs := #[.int .i64 0, .int .i64 0]) ?_ 0 _ rfl; (with_reducible repeat (first | refine blk_drewN ?_ _ | refine blk_drew ?_ | refine blk_alloc ?_ _)); exact BK601.out) hb); have n4_ := Aside0.mk (blk_below (g := gb602) (o := .cells #[.int .i64 t596, .int .i64 t597] 23 (0, 0)) (by (with_reducible repeat (first | refine blk_drewN ?_ _ | refine blk_drew ?_ | refine blk_alloc ?_ _)); refine blk_put (cs := #[.int .i64 t596, .int .i64 0]) ?_ 1 _ rfl; (with_reducible repeat (first | refine blk_drewN ?_ _ | refine blk_drew ?_ | refine blk_alloc ?_ _)); refine blk_put (cs := #[.int .i64 0, .int .i64 0]) ?_ 0 _ rfl; (with_reducible repeat (first | refine blk_drewN ?_ _ | refine blk_drew ?_ | refine blk_alloc ?_ _)); refine blk_far ?_ NB602_601.out _; (with_reducible repeat (first | refine blk_drewN ?_ _ | refine blk_drew ?_ | refine blk_alloc ?_ _)); refine blk_far ?_ NB602_601.out _; (with_reducible repeat (first | refine blk_drewN ?_ _ | refine blk_drew ?_ | refine blk_alloc ?_ _)); exact BK602.out) hb); have n5_ := Aside0.mk (below_step (bw_ HB.out) hb); clear HO600 BK592 BK601 BK602 HB; have HO600 := n0_; have HO607 := n1_; have BK592 := n2_; have BK601 := n3_; have BK602 := n4_; have HB := n5_; clear n0_ n1_ n2_ n3_ n4_ n5_; (try clear hb); (try clear hb2); (try clear hk); (try clear hi); (try clear ho0)) | ((with_reducible refine gate_dst (N := 9) rfl ?_); refine bx_ (N := 9) (cs := #[.int .u64 0, .int .i64 0, .slice none 0 0]) (t := 33) ?_; intro gb608 hg w52 hbox hb; have n0_ := Aside0.mk (Kd.S_below (by (with_reducible repeat (first | apply Kd.S_alloc | apply Kd.S_drewN | apply Kd.S_drew)); exact HO600.out) hb); have n1_ := Aside0.mk (Kd.R_below (by (with_reducible repeat (first | apply Kd.R_alloc | apply Kd.R_drewN | apply Kd.R_drew)); exact HO607.out) hb); have n2_ := Aside0.mk (blk_below (bk_ BK592.out) hb); have n3_ := Aside0.mk (blk_below (bk_ BK601.out) hb); have n4_ := Aside0.mk (blk_below (bk_ BK602.out) hb); have n5_ := Aside0.mk (below_step (bw_ HB.out) hb); have n6_ := Aside0.mk (hbox); have n7_ := Aside0.mk (sz_ hg (bw_ HB.out)); have n8_ := n7_; have n9_ := Aside0.mk (ne_ hg (blk_lt (bk_ BK592.out))); have n10_ := Aside0.mk n9_.out.symm; have n11_ := Aside0.mk (ne_ hg (blk_lt (bk_ BK601.out))); have n12_ := Aside0.mk n11_.out.symm; have n13_ := Aside0.mk (ne_ hg (blk_lt (bk_ BK602.out))); have n14_ := Aside0.mk n13_.out.symm; clear HO600 HO607 BK592 BK601 BK602 HB; have HO600 := n0_; have HO607 := n1_; have BK592 := n2_; have BK601 := n3_; have BK602 := n4_; have HB := n5_; have BK608 := n6_; have GW608 := n7_; have GE608 := n8_; have NB592_608 := n9_; have NB608_592 := n10_; have NB601_608 := n11_; have NB608_601 := n12_; have NB602_608 := n13_; have NB608_602 := n14_; clear n0_ n1_ n2_ n3_ n4_ n5_ n6_ n7_ n8_ n9_ n10_ n11_ n12_ n13_ n14_; clear hb hbox hg; have hnb53 := NB608_592.out; have hnc53 := NB592_608.out; have hnb54 := NB608_601.out; have hnc54 := NB601_608.out; have hnb55 := NB608_602.out; have hnc55 := NB602_608.out; have hcz56_0 : w52.cell? ⟨gb608, 0, none⟩ = some (.int .u64 0) := (blk_cell BK608.out 0).trans rfl; have hcz56_1 : w52.cell? ⟨gb608, 1, none⟩ = some (.int .i64 0) := (blk_cell BK608.out 1).trans rfl; have hcz56_2 : w52.cell? ⟨gb608, 2, none⟩ = some (.slice none 0 0) := (blk_cell BK608.out 2).trans rfl; have hfz56_0 := blk_frozen BK608.out 0; have hfz56_1 := blk_frozen BK608.out 1; have hfz56_2 := blk_frozen BK608.out 2; obtain ⟨Ao57, co57, eo57⟩ := Kd.R_slice HO607.out; subst eo57))
    have n0_ : Aside0 (Kd.S k44 44 (((w52.setCell ⟨gb608, 0, none⟩ (.int .u64 t603)).setCell ⟨gb608, 1, none⟩ (.int .i64 t604)).setCell ⟨gb608, 2, none⟩ (.slice Ao57 t605.length co57)) w.heap.size (fun k_ => some k_ ≠ (.slice Ao57 t605.length co57 : Value).ownBlock) (.slice Ao50 t598.length co50) t598) := ⟨by (with_reducible repeat (first | apply Kd.S_alloc | apply Kd.S_drewN | apply Kd.S_drew)); exact Kd.S_mono (Kd.S_far (p := ⟨gb608, 2, none⟩) (Kd.S_far (p := ⟨gb608, 1, none⟩) (Kd.S_far (p := ⟨gb608, 0, none⟩) (Kd.S_types HO600.out BK608.out (by decide)) (fun _ hk => hk.2) (.int .u64 t603)) (fun _ hk => hk.2) (.int .i64 t604)) (fun _ hk => hk.2) (.slice Ao57 t605.length co57)) (fun _ hk => hk.1.2)⟩
    have n1_ : Aside0 (Kd.R Kd.string 9 (((w52.setCell ⟨gb608, 0, none⟩ (.int .u64 t603)).setCell ⟨gb608, 1, none⟩ (.int .i64 t604)).setCell ⟨gb608, 2, none⟩ (.slice Ao57 t605.length co57)) w.heap.size (fun _ => True) (.slice Ao57 t605.length co57) t605) := ⟨by (with_reducible repeat (first | apply Kd.R_alloc | apply Kd.R_drewN | apply Kd.R_drew)); exact Kd.R_mono (Kd.R_far (p := ⟨gb608, 2, none⟩) (Kd.R_far (p := ⟨gb608, 1, none⟩) (Kd.R_far (p := ⟨gb608, 0, none⟩) (Kd.R_types HO607.out BK608.out (by decide)) (fun _ hk => hk.2) (.int .u64 t603)) (fun _ hk => hk.2) (.int .i64 t604)) (fun _ hk => hk.2) (.slice Ao57 t605.length co57)) (fun _ hk => trivial)⟩
    have n2_ : Aside0 ((((w52.setCell ⟨gb608, 0, none⟩ (.int .u64 t603)).setCell ⟨gb608, 1, none⟩ (.int .i64 t604)).setCell ⟨gb608, 2, none⟩ (.slice Ao57 t605.length co57)).heap[gb592]? = some (.cells #[.int .i64 a0_0, .int .i64 a0_1] 23 (0, 0))) := ⟨by (with_reducible repeat (first | refine blk_drewN ?_ _ | refine blk_drew ?_ | refine blk_alloc ?_ _)); refine blk_far ?_ NB592_608.out _; (with_reducible repeat (first | refine blk_drewN ?_ _ | refine blk_drew ?_ | refine blk_alloc ?_ _)); refine blk_far ?_ NB592_608.out _; (with_reducible repeat (first | refine blk_drewN ?_ _ | refine blk_drew ?_ | refine blk_alloc ?_ _)); refine blk_far ?_ NB592_608.out _; (with_reducible repeat (first | refine blk_drewN ?_ _ | refine blk_drew ?_ | refine blk_alloc ?_ _)); exact BK592.out⟩
    have n3_ : Aside0 ((((w52.setCell ⟨gb608, 0, none⟩ (.int .u64 t603)).setCell ⟨gb608, 1, none⟩ (.int .i64 t604)).setCell ⟨gb608, 2, none⟩ (.slice Ao57 t605.length co57)).heap[gb601]? = some (.cells #[.int .i64 t594, .int .i64 t595] 27 (0, 0))) := ⟨by (with_reducible repeat (first | refine blk_drewN ?_ _ | refine blk_drew ?_ | refine blk_alloc ?_ _)); refine blk_far ?_ NB601_608.out _; (with_reducible repeat (first | refine blk_drewN ?_ _ | refine blk_drew ?_ | refine blk_alloc ?_ _)); refine blk_far ?_ NB601_608.out _; (with_reducible repeat (first | refine blk_drewN ?_ _ | refine blk_drew ?_ | refine blk_alloc ?_ _)); refine blk_far ?_ NB601_608.out _; (with_reducible repeat (first | refine blk_drewN ?_ _ | refine blk_drew ?_ | refine blk_alloc ?_ _)); exact BK601.out⟩
    have n4_ : Aside0 ((((w52.setCell ⟨gb608, 0, none⟩ (.int .u64 t603)).setCell ⟨gb608, 1, none⟩ (.int .i64 t604)).setCell ⟨gb608, 2, none⟩ (.slice Ao57 t605.length co57)).heap[gb602]? = some (.cells #[.int .i64 t596, .int .i64 t597] 23 (0, 0))) := ⟨by (with_reducible repeat (first | refine blk_drewN ?_ _ | refine blk_drew ?_ | refine blk_alloc ?_ _)); refine blk_far ?_ NB602_608.out _; (with_reducible repeat (first | refine blk_drewN ?_ _ | refine blk_drew ?_ | refine blk_alloc ?_ _)); refine blk_far ?_ NB602_608.out _; (with_reducible repeat (first | refine blk_drewN ?_ _ | refine blk_drew ?_ | refine blk_alloc ?_ _)); refine blk_far ?_ NB602_608.out _; (with_reducible repeat (first | refine blk_drewN ?_ _ | refine blk_drew ?_ | refine blk_alloc ?_ _)); exact BK602.out⟩
    have n5_ : Aside0 ((((w52.setCell ⟨gb608, 0, none⟩ (.int .u64 t603)).setCell ⟨gb608, 1, none⟩ (.int .i64 t604)).setCell ⟨gb608, 2, none⟩ (.slice Ao57 t605.length co57)).heap[gb608]? = some (.cells #[.int .u64 t603, .int .i64 t604, .slice Ao57 t605.length co57] 33 (0, 0))) := ⟨by (with_reducible repeat (first | refine blk_drewN ?_ _ | refine blk_drew ?_ | refine blk_alloc ?_ _)); refine blk_put (cs := #[.int .u64 t603, .int .i64 t604, .slice none 0 0]) ?_ 2 _ rfl; (with_reducible repeat (first | refine blk_drewN ?_ _ | refine blk_drew ?_ | refine blk_alloc ?_ _)); refine blk_put (cs := #[.int .u64 t603, .int .i64 0, .slice none 0 0]) ?_ 1 _ rfl; (with_reducible repeat (first | refine blk_drewN ?_ _ | refine blk_drew ?_ | refine blk_alloc ?_ _)); refine blk_put (cs := #[.int .u64 0, .int .i64 0, .slice none 0 0]) ?_ 0 _ rfl; (with_reducible repeat (first | refine blk_drewN ?_ _ | refine blk_drew ?_ | refine blk_alloc ?_ _)); exact BK608.out⟩
    have n6_ : Aside0 (Below w.heap.size w (((w52.setCell ⟨gb608, 0, none⟩ (.int .u64 t603)).setCell ⟨gb608, 1, none⟩ (.int .i64 t604)).setCell ⟨gb608, 2, none⟩ (.slice Ao57 t605.length co57))) := ⟨by repeat (first | (with_reducible first | exact HB.out | apply below_alloc | apply pw_below_drewN | apply below_drew1 | refine below_set ?_ GE592.out | refine below_set ?_ GE601.out | refine below_set ?_ GE602.out | refine below_set ?_ GE608.out) | exact HB.out)⟩
    (try clear HO600)
    (try clear HO607)
    (try clear BK592)
    (try clear BK601)
    (try clear BK602)
    (try clear BK608)
    (try clear HB)
    generalize (((w52.setCell ⟨gb608, 0, none⟩ (.int .u64 t603)).setCell ⟨gb608, 1, none⟩ (.int .i64 t604)).setCell ⟨gb608, 2, none⟩ (.slice Ao57 t605.length co57)) = w58 at n0_ n1_ n2_ n3_ n4_ n5_ n6_ ⊢
    have HO600 := n0_
    have HO607 := n1_
    have BK592 := n2_
    have BK601 := n3_
    have BK602 := n4_
    have BK608 := n5_
    have HB := n6_
    clear n0_ n1_ n2_ n3_ n4_ n5_ n6_
    have n0_ := Aside0.mk (Kd.S_drew HO600.out)
    have n1_ := Aside0.mk (Kd.R_drew HO607.out)
    have n2_ := Aside0.mk (blk_drew BK592.out)
    have n3_ := Aside0.mk (blk_drew BK601.out)
    have n4_ := Aside0.mk (blk_drew BK602.out)
    have n5_ := Aside0.mk (blk_drew BK608.out)
    have n6_ := Aside0.mk (below_drew1 HB.out)
    clear HO600
    clear HO607
    clear BK592
    clear BK601
    clear BK602
    clear BK608
    clear HB
    have HO600 := n0_
    have HO607 := n1_
    have BK592 := n2_
    have BK601 := n3_
    have BK602 := n4_
    have BK608 := n5_
    have HB := n6_
    clear n0_ n1_ n2_ n3_ n4_ n5_ n6_
    refine start_ (n := 18) (S := fun w' => w'.cell? ⟨gb601, 0, none⟩ = some (.int .i64 t594) ∧ w'.cell? ⟨gb601, 1, none⟩ = some (.int .i64 t595) ∧ w'.cell? ⟨gb602, 0, none⟩ = some (.int .i64 t596) ∧ w'.cell? ⟨gb602, 1, none⟩ = some (.int .i64 t597) ∧ w'.cell? ⟨gb608, 0, none⟩ = some (.int .u64 t603) ∧ w'.cell? ⟨gb608, 1, none⟩ = some (.int .i64 t604) ∧ w'.cell? ⟨gb608, 2, none⟩ = some (.slice Ao57 t605.length co57)) (ds := []) #[false, false, false, false, false, false, false, false, false, false, false, false, false, false, false, false, false, false] (by kernel_rfl) rfl rfl ⟨(blk_cell BK601.out 0).trans rfl, (blk_cell BK601.out 1).trans rfl, (blk_cell BK602.out 0).trans rfl, (blk_cell BK602.out 1).trans rfl, (blk_cell BK608.out 0).trans rfl, (blk_cell BK608.out 1).trans rfl, (blk_cell BK608.out 2).trans rfl⟩ (fun hHeld => ?_); refine with_tabW gristmilllaw06_AggMay.tab6 gristmilllaw06_AggMay.bits6 (fun HT_ HW_ => ?_)
    generalize w58.drew = w59 at HO600 HO607 BK592 BK601 BK602 BK608 HB hHeld ⊢
    refine take_ (i := 0) (N := some 23) (v := ?_) (a' := ?_) #[true, false, false, false, false, false, false, false, false, false, false, false, false, false, false, false, false, false] rfl rfl (take_ofW HT_.out HW_.out (by kernel_rfl)) (fun _ _ _ h => h) (Or.inl ⟨by rfl, ?_⟩) hHeld ?_ ?_
    rotate_left
    ·rintro w' ⟨s0, s1, s2, s3, s4, s5, s6⟩
     go_simp
     with_reducible rfl
    rotate_left
    ·simp only [Act.put, q1_, q2_, q3_, i64_w, i32_w]
     rfl
    refine take_ (i := 1) (N := some 24) (v := ?_) (a' := ?_) #[true, true, false, false, false, false, false, false, false, false, false, false, false, false, false, false, false, false] rfl rfl (take_ofW HT_.out HW_.out (by kernel_rfl)) (fun _ _ _ h => h) (Or.inl ⟨by rfl, ?_⟩) hHeld ?_ ?_
    rotate_left
    ·rintro w' ⟨s0, s1, s2, s3, s4, s5, s6⟩
     go_simp
     with_reducible rfl
    rotate_left
    ·simp only [Act.put, q1_, q2_, q3_, i64_w, i32_w]
     rfl
    refine take_ (i := 2) (N := some 25) (v := ?_) (a' := ?_) #[true, true, true, false, false, false, false, false, false, false, false, false, false, false, false, false, false, false] rfl rfl (take_ofW HT_.out HW_.out (by kernel_rfl)) (fun _ _ _ h => h) (Or.inl ⟨by rfl, ?_⟩) hHeld ?_ ?_
    rotate_left
    ·rintro w' ⟨s0, s1, s2, s3, s4, s5, s6⟩
     go_simp
     with_reducible rfl
    rotate_left
    ·simp only [Act.put, q1_, q2_, q3_, i64_w, i32_w]
     rfl
    refine one_ (i := 3) (N := some 26) #[true, true, true, true, false, false, false, false, false, false, false, false, false, false, false, false, false, false] rfl rfl (one_of HT_.out (by kernel_rfl)) (by decide) (fun K hK => ?_)
    refine goes_ Try.func23 (by kernel_rfl) rfl #[.agg #[.int .i64 t594, .int .i64 t595], .agg #[.int .i64 t596, .int .i64 t597], .agg #[.int .u64 t603, .int .i64 t604, .slice Ao57 t605.length co57]] (by rfl) rfl rfl (by (try simp only [List.map_toArray, List.map_cons, List.map_nil]); first | done | rfl | (simp only [List.length_drop, List.length_take]; rfl)) ?_
    with_reducible refine (agg_May.calls k t594 t595 t596 t597 t603 t604 _ _ t605 true _ ?side1 ?side2 A7.out).mono ?_
    (case side1 => repeat (first | exact (Kd.R_reads' HO607.out).2.2 | (with_reducible refine Kd.C_alloc ?_ _) | (with_reducible refine Kd.C_drewN ?_ _) | (with_reducible refine Kd.C_drew ?_)))
    (case side2 => exact (Kd.R_reads' HO607.out).2.1)
    rintro e w60 ⟨rfl, hb⟩
    refine ⟨_, rfl, ?_⟩
    have n0_ := Aside0.mk (Kd.S_below (by (with_reducible repeat (first | apply Kd.S_alloc | apply Kd.S_drewN | apply Kd.S_drew)); exact HO600.out) hb)
    have n1_ := Aside0.mk (Kd.R_below (by (with_reducible repeat (first | apply Kd.R_alloc | apply Kd.R_drewN | apply Kd.R_drew)); exact HO607.out) hb)
    have n2_ := Aside0.mk (blk_below (bk_ BK592.out) hb)
    have n3_ := Aside0.mk (blk_below (bk_ BK601.out) hb)
    have n4_ := Aside0.mk (blk_below (bk_ BK602.out) hb)
    have n5_ := Aside0.mk (blk_below (bk_ BK608.out) hb)
    have n6_ := Aside0.mk (below_step (bw_ HB.out) hb)
    clear HO600
    clear HO607
    clear BK592
    clear BK601
    clear BK602
    clear BK608
    clear HB
    have HO600 := n0_
    have HO607 := n1_
    have BK592 := n2_
    have BK601 := n3_
    have BK602 := n4_
    have BK608 := n5_
    have HB := n6_
    clear n0_ n1_ n2_ n3_ n4_ n5_ n6_
    (try clear hb)
    (try clear hb2)
    (try clear hk)
    (try clear hi)
    refine hK.out _ _ ⟨(blk_cell BK601.out 0).trans rfl, (blk_cell BK601.out 1).trans rfl, (blk_cell BK602.out 0).trans rfl, (blk_cell BK602.out 1).trans rfl, (blk_cell BK608.out 0).trans rfl, (blk_cell BK608.out 1).trans rfl, (blk_cell BK608.out 2).trans rfl⟩ (fun hHeld => ?_)
    clear hK K
    refine norm_ (a' := ?_) ?_ ?_
    rotate_left
    ·show Act.put _ (some 26) _ = _
     simp only [Act.put, q1_, q2_, q3_, i64_w, i32_w]
     rfl
    refine pure_ (i := 4) (N := some 27) (v := ?_) (a' := ?_) #[true, true, true, true, true, false, false, false, false, false, false, false, false, false, false, false, false, false] rfl rfl (any_of HT_.out (by kernel_rfl)) (fun _ _ _ h => h) (Or.inl ⟨by rfl, ?_⟩) ?_ ?_
    rotate_left
    ·intro w'
     go_simp
     with_reducible rfl
    rotate_left
    ·simp only [Act.put, q1_, q2_, q3_, i64_w, i32_w]
     rfl
    refine take_ (i := 5) (N := some 28) (v := ?_) (a' := ?_) #[true, true, true, true, true, true, false, false, false, false, false, false, false, false, false, false, false, false] rfl rfl (take_ofW HT_.out HW_.out (by kernel_rfl)) (fun _ _ _ h => h) (Or.inl ⟨by rfl, ?_⟩) hHeld ?_ ?_
    rotate_left
    ·rintro w' ⟨s0, s1, s2, s3, s4, s5, s6⟩
     go_simp
     with_reducible rfl
    rotate_left
    ·simp only [Act.put, q1_, q2_, q3_, i64_w, i32_w]
     rfl
    refine take_ (i := 6) (N := some 29) (v := ?_) (a' := ?_) #[true, true, true, true, true, true, true, false, false, false, false, false, false, false, false, false, false, false] rfl rfl (take_ofW HT_.out HW_.out (by kernel_rfl)) (fun _ _ _ h => h) (Or.inl ⟨by rfl, ?_⟩) hHeld ?_ ?_
    rotate_left
    ·rintro w' ⟨s0, s1, s2, s3, s4, s5, s6⟩
     go_simp
     with_reducible rfl
    rotate_left
    ·simp only [Act.put, q1_, q2_, q3_, i64_w, i32_w]
     rfl
    refine take_ (i := 7) (N := some 30) (v := ?_) (a' := ?_) #[true, true, true, true, true, true, true, true, false, false, false, false, false, false, false, false, false, false] rfl rfl (take_ofW HT_.out HW_.out (by kernel_rfl)) (fun _ _ _ h => h) (Or.inl ⟨by rfl, ?_⟩) hHeld ?_ ?_
    rotate_left
    ·rintro w' ⟨s0, s1, s2, s3, s4, s5, s6⟩
     go_simp
     with_reducible rfl
    rotate_left
    ·simp only [Act.put, q1_, q2_, q3_, i64_w, i32_w]
     rfl
    refine one_ (i := 8) (N := some 31) #[true, true, true, true, true, true, true, true, true, false, false, false, false, false, false, false, false, false] rfl rfl (one_of HT_.out (by kernel_rfl)) (by decide) (fun K hK => ?_)
    refine goes_ Try.func18 (by kernel_rfl) rfl #[.agg #[.int .i64 t596, .int .i64 t597]] (by rfl) rfl rfl (by (try simp only [List.map_toArray, List.map_cons, List.map_nil]); first | done | rfl | (simp only [List.length_drop, List.length_take]; rfl)) ?_
    with_reducible refine (agg_Start.calls t596 t597 t610 t611 t612 _ A9.out).mono ?_
    rintro e w61 ⟨v613, rfl, ho0, hb⟩
    refine ⟨_, rfl, ?_⟩
    have n0_ := Aside0.mk (Kd.S_elder' (by (with_reducible repeat (first | apply Kd.S_alloc | apply Kd.S_drewN | apply Kd.S_drew)); exact HO600.out) (Kd.R_base ho0) hb)
    have n1_ := Aside0.mk (Kd.R_elder' (by (with_reducible repeat (first | apply Kd.R_alloc | apply Kd.R_drewN | apply Kd.R_drew)); exact HO607.out) (Kd.R_base ho0) hb)
    have n2_ := Aside0.mk (Kd.R_lower (Kd.R_new' ho0 (Kd.R_lt (by (with_reducible repeat (first | apply Kd.R_alloc | apply Kd.R_drewN | apply Kd.R_drew)); exact HO607.out))) (below_size (bw_ HB.out)))
    have n3_ := Aside0.mk (blk_below (bk_ BK592.out) hb)
    have n4_ := Aside0.mk (blk_below (bk_ BK601.out) hb)
    have n5_ := Aside0.mk (blk_below (bk_ BK602.out) hb)
    have n6_ := Aside0.mk (blk_below (bk_ BK608.out) hb)
    have n7_ := Aside0.mk (below_step (bw_ HB.out) hb)
    clear HO600
    clear HO607
    clear BK592
    clear BK601
    clear BK602
    clear BK608
    clear HB
    have HO600 := n0_
    have HO607 := n1_
    have HO614 := n2_
    have BK592 := n3_
    have BK601 := n4_
    have BK602 := n5_
    have BK608 := n6_
    have HB := n7_
    clear n0_ n1_ n2_ n3_ n4_ n5_ n6_ n7_
    (try clear hb)
    (try clear hb2)
    (try clear hk)
    (try clear hi)
    (try clear ho0)
    obtain ⟨Ao62, co62, eo62⟩ := Kd.R_slice HO614.out
    (first | subst eo62 | (injection eo62 with f1_ f2_ f3_; have f4_ := f1_.symm; have f5_ := f3_.symm; clear f1_ f2_ f3_; subst f4_; subst f5_))
    refine hK.out _ _ ⟨(blk_cell BK601.out 0).trans rfl, (blk_cell BK601.out 1).trans rfl, (blk_cell BK602.out 0).trans rfl, (blk_cell BK602.out 1).trans rfl, (blk_cell BK608.out 0).trans rfl, (blk_cell BK608.out 1).trans rfl, (blk_cell BK608.out 2).trans rfl⟩ (fun hHeld => ?_)
    clear hK K
    refine norm_ (a' := ?_) ?_ ?_
    rotate_left
    ·show Act.put _ (some 31) _ = _
     simp only [Act.put, q1_, q2_, q3_, i64_w, i32_w]
     rfl
    refine one_ (i := 9) (N := some 32) #[true, true, true, true, true, true, true, true, true, true, false, false, false, false, false, false, false, false] rfl rfl (one_of HT_.out (by kernel_rfl)) (by decide) (fun K hK => ?_)
    refine goes_ Try.func23 (by kernel_rfl) rfl #[.agg #[.int .i64 t594, .int .i64 t595], .agg #[.int .i64 t596, .int .i64 t597], .agg #[.int .u64 t610, .int .i64 t611, .slice Ao62 t612.length co62]] (by rfl) rfl rfl (by (try simp only [List.map_toArray, List.map_cons, List.map_nil]); first | done | rfl | (simp only [List.length_drop, List.length_take]; rfl)) ?_
    with_reducible refine (agg_May.calls k t594 t595 t596 t597 t610 t611 _ _ t612 false _ ?side1 ?side2 A10.out).mono ?_
    (case side1 => repeat (first | exact (Kd.R_reads' HO614.out).2.2 | (with_reducible refine Kd.C_alloc ?_ _) | (with_reducible refine Kd.C_drewN ?_ _) | (with_reducible refine Kd.C_drew ?_)))
    (case side2 => exact (Kd.R_reads' HO614.out).2.1)
    rintro e w63 ⟨rfl, hb⟩
    refine ⟨_, rfl, ?_⟩
    have n0_ := Aside0.mk (Kd.S_below (by (with_reducible repeat (first | apply Kd.S_alloc | apply Kd.S_drewN | apply Kd.S_drew)); exact HO600.out) hb)
    have n1_ := Aside0.mk (Kd.R_below (by (with_reducible repeat (first | apply Kd.R_alloc | apply Kd.R_drewN | apply Kd.R_drew)); exact HO607.out) hb)
    have n2_ := Aside0.mk (Kd.R_below (by (with_reducible repeat (first | apply Kd.R_alloc | apply Kd.R_drewN | apply Kd.R_drew)); exact HO614.out) hb)
    have n3_ := Aside0.mk (blk_below (bk_ BK592.out) hb)
    have n4_ := Aside0.mk (blk_below (bk_ BK601.out) hb)
    have n5_ := Aside0.mk (blk_below (bk_ BK602.out) hb)
    have n6_ := Aside0.mk (blk_below (bk_ BK608.out) hb)
    have n7_ := Aside0.mk (below_step (bw_ HB.out) hb)
    clear HO600
    clear HO607
    clear HO614
    clear BK592
    clear BK601
    clear BK602
    clear BK608
    clear HB
    have HO600 := n0_
    have HO607 := n1_
    have HO614 := n2_
    have BK592 := n3_
    have BK601 := n4_
    have BK602 := n5_
    have BK608 := n6_
    have HB := n7_
    clear n0_ n1_ n2_ n3_ n4_ n5_ n6_ n7_
    (try clear hb)
    (try clear hb2)
    (try clear hk)
    (try clear hi)
    refine hK.out _ _ ⟨(blk_cell BK601.out 0).trans rfl, (blk_cell BK601.out 1).trans rfl, (blk_cell BK602.out 0).trans rfl, (blk_cell BK602.out 1).trans rfl, (blk_cell BK608.out 0).trans rfl, (blk_cell BK608.out 1).trans rfl, (blk_cell BK608.out 2).trans rfl⟩ (fun hHeld => ?_)
    clear hK K
    refine norm_ (a' := ?_) ?_ ?_
    rotate_left
    ·show Act.put _ (some 32) _ = _
     simp only [Act.put, q1_, q2_, q3_, i64_w, i32_w]
     rfl
    refine pure_ (i := 10) (N := some 33) (v := ?_) (a' := ?_) #[true, true, true, true, true, true, true, true, true, true, true, false, false, false, false, false, false, false] rfl rfl (any_of HT_.out (by kernel_rfl)) (fun _ _ _ h => h) (Or.inl ⟨by rfl, ?_⟩) ?_ ?_
    rotate_left
    ·intro w'
     go_simp
     with_reducible rfl
    rotate_left
    ·simp only [Act.put, q1_, q2_, q3_, i64_w, i32_w]
     rfl
    refine pure_ (i := 11) (N := some 34) (v := ?_) (a' := ?_) #[true, true, true, true, true, true, true, true, true, true, true, true, false, false, false, false, false, false] rfl rfl (any_of HT_.out (by kernel_rfl)) (fun _ _ _ h => h) (Or.inl ⟨by rfl, ?_⟩) ?_ ?_
    rotate_left
    ·intro w'
     go_simp
     with_reducible rfl
    rotate_left
    ·simp only [Act.put, q1_, q2_, q3_, i64_w, i32_w]
     rfl
    refine pure_ (i := 12) (N := some 35) (v := undef) (a' := ?_) #[true, true, true, true, true, true, true, true, true, true, true, true, true, false, false, false, false, false] rfl rfl (any_of HT_.out (by kernel_rfl)) (fun _ _ _ h => h) (Or.inr ⟨by rfl, rfl⟩) ?_ ?_
    rotate_left
    ·simp only [Act.put, q1_, q2_, q3_, i64_w, i32_w]
     rfl
    refine pure_ (i := 13) (N := some 36) (v := undef) (a' := ?_) #[true, true, true, true, true, true, true, true, true, true, true, true, true, true, false, false, false, false] rfl rfl (any_of HT_.out (by kernel_rfl)) (fun _ _ _ h => h) (Or.inr ⟨by rfl, rfl⟩) ?_ ?_
    rotate_left
    ·simp only [Act.put, q1_, q2_, q3_, i64_w, i32_w]
     rfl
    refine pure_ (i := 14) (N := some 37) (v := undef) (a' := ?_) #[true, true, true, true, true, true, true, true, true, true, true, true, true, true, true, false, false, false] rfl rfl (any_of HT_.out (by kernel_rfl)) (fun _ _ _ h => h) (Or.inr ⟨by rfl, rfl⟩) ?_ ?_
    rotate_left
    ·simp only [Act.put, q1_, q2_, q3_, i64_w, i32_w]
     rfl
    refine pure_ (i := 15) (N := some 38) (v := undef) (a' := ?_) #[true, true, true, true, true, true, true, true, true, true, true, true, true, true, true, true, false, false] rfl rfl (any_of HT_.out (by kernel_rfl)) (fun _ _ _ h => h) (Or.inr ⟨by rfl, rfl⟩) ?_ ?_
    rotate_left
    ·simp only [Act.put, q1_, q2_, q3_, i64_w, i32_w]
     rfl
    refine pure_ (i := 16) (N := some 39) (v := ?_) (a' := ?_) #[true, true, true, true, true, true, true, true, true, true, true, true, true, true, true, true, true, false] rfl rfl (any_of HT_.out (by kernel_rfl)) (fun _ _ _ h => h) (Or.inl ⟨by rfl, ?_⟩) ?_ ?_
    rotate_left
    ·intro w'
     go_simp
     with_reducible rfl
    rotate_left
    ·simp only [Act.put, q1_, q2_, q3_, i64_w, i32_w]
     rfl
    refine pure_ (i := 17) (N := some 4) (v := ?_) (a' := ?_) #[true, true, true, true, true, true, true, true, true, true, true, true, true, true, true, true, true, true] rfl rfl (any_of HT_.out (by kernel_rfl)) (fun _ _ _ h => h) (Or.inl ⟨by rfl, ?_⟩) ?_ ?_
    rotate_left
    ·intro w'
     go_simp
     with_reducible rfl
    rotate_left
    ·simp only [Act.put, q1_, q2_, q3_, i64_w, i32_w]
     rfl
    refine done_ (done_of HT_.out (by kernel_rfl)) ?_
    try go_wp2
    go_ret
    exact ⟨by first | rfl | (simp [errW_none, errW_some] <;> rfl) | (simp [*, errW_none, errW_some] <;> rfl), by repeat (first | (with_reducible first | exact HB.out | apply below_alloc | apply pw_below_drewN | apply below_drew1 | refine below_set ?_ GE592.out | refine below_set ?_ GE601.out | refine below_set ?_ GE602.out | refine below_set ?_ GE608.out) | exact HB.out)⟩
  ·replace c8 := Bool.eq_false_iff.mpr c8
   subst c8
   have H1 : (some false) = some r := by rw [if_neg (show ¬ (false = true) by decide)] at H; exact H
   clear H
   have H := H1
   clear H1
   obtain rfl := Option.some.inj H
   go_enter Try.func9, Try.ntmps9
   try go_wp2_with (first | ((with_reducible refine gate_dst (N := 2) rfl ?_); refine bx_ (N := 2) (cs := #[.int .i64 a0_0, .int .i64 a0_1]) (t := 23) ?_; intro gb592 hg w64 hbox hb; have n0_ := Aside0.mk (below_step (bw_ HB.out) hb); have n1_ := Aside0.mk (hbox); have n2_ := Aside0.mk (sz_ hg (bw_ HB.out)); have n3_ := n2_; clear HB; have HB := n0_; have BK592 := n1_; have GW592 := n2_; have GE592 := n3_; clear n0_ n1_ n2_ n3_; clear hb hbox hg) | ((with_reducible refine gate_callee (f := 10) rfl ?_); refine goesL_ (some 10) rfl rfl Try.func10 (by kernel_rfl) rfl #[] rfl (by (try simp only [List.map_toArray, List.map_cons, List.map_nil]); first | done | rfl | (simp only [List.length_drop, List.length_take]; rfl)) ?_; (with_reducible refine (gristmilllaw06_awake.calls  true _ A3.out).mono ?_); rintro e w65 ⟨rfl, hb⟩; refine ⟨_, rfl, ?_⟩; have n0_ := Aside0.mk (blk_below (bk_ BK592.out) hb); have n1_ := Aside0.mk (below_step (bw_ HB.out) hb); clear BK592 HB; have BK592 := n0_; have HB := n1_; clear n0_ n1_; (try clear hb); (try clear hb2); (try clear hk); (try clear hi); have hcz66_0 : w65.cell? ⟨gb592, 0, none⟩ = some (.int .i64 a0_0) := (blk_cell BK592.out 0).trans rfl; have hcz66_1 : w65.cell? ⟨gb592, 1, none⟩ = some (.int .i64 a0_1) := (blk_cell BK592.out 1).trans rfl; have hfz66_0 := blk_frozen BK592.out 0; have hfz66_1 := blk_frozen BK592.out 1) | ((with_reducible refine gate_callee (f := 11) rfl ?_); refine goesL_ (some 16) rfl rfl Try.func11 (by kernel_rfl) rfl #[.agg #[.int .i64 a0_0, .int .i64 a0_1], .slice A1 l1.length c1] rfl (by (try simp only [List.map_toArray, List.map_cons, List.map_nil]); first | done | rfl | (simp only [List.length_drop, List.length_take]; rfl)) ?_; (with_reducible refine (gristmilllaw06_right.calls k a0_0 a0_1 _ _ l1 t594 t595 t596 t597 t598 _ ?side1 ?side2 A5.out).mono ?_); (case side1 => repeat (first | exact (Kd.C_below HR1.out HB.out) | (with_reducible refine Kd.C_alloc ?_ _) | (with_reducible refine Kd.C_drewN ?_ _) | (with_reducible refine Kd.C_drew ?_))); (case side2 => exact HC1.out); rintro e w67 ⟨v599, rfl, ho0, hb⟩; refine ⟨_, rfl, ?_⟩; have n0_ := Aside0.mk (Kd.S_lower ho0 (below_size (bw_ HB.out))); have n1_ := Aside0.mk (blk_below (bk_ BK592.out) hb); have n2_ := Aside0.mk (below_step (bw_ HB.out) hb); clear BK592 HB; have HO600 := n0_; have BK592 := n1_; have HB := n2_; clear n0_ n1_ n2_; (try clear hb); (try clear hb2); (try clear hk); (try clear hi); (try clear ho0)) | ((with_reducible refine gate_dst (N := 6) rfl ?_); refine bx_ (N := 6) (cs := #[.int .i64 0, .int .i64 0]) (t := 27) ?_; intro gb601 hg w68 hbox hb; have n0_ := Aside0.mk (Kd.S_below (by (with_reducible repeat (first | apply Kd.S_alloc | apply Kd.S_drewN | apply Kd.S_drew)); exact HO600.out) hb); have n1_ := Aside0.mk (blk_below (bk_ BK592.out) hb); have n2_ := Aside0.mk (below_step (bw_ HB.out) hb); have n3_ := Aside0.mk (hbox); have n4_ := Aside0.mk (sz_ hg (bw_ HB.out)); have n5_ := n4_; have n6_ := Aside0.mk (ne_ hg (blk_lt (bk_ BK592.out))); have n7_ := Aside0.mk n6_.out.symm; clear HO600 BK592 HB; have HO600 := n0_; have BK592 := n1_; have HB := n2_; have BK601 := n3_; have GW601 := n4_; have GE601 := n5_; have NB592_601 := n6_; have NB601_592 := n7_; clear n0_ n1_ n2_ n3_ n4_ n5_ n6_ n7_; clear hb hbox hg) | ((with_reducible refine gate_dst (N := 7) rfl ?_); refine bx_ (N := 7) (cs := #[.int .i64 0, .int .i64 0]) (t := 23) ?_; intro gb602 hg w69 hbox hb; have n0_ := Aside0.mk (Kd.S_below (by (with_reducible repeat (first | apply Kd.S_alloc | apply Kd.S_drewN | apply Kd.S_drew)); exact HO600.out) hb); have n1_ := Aside0.mk (blk_below (bk_ BK592.out) hb); have n2_ := Aside0.mk (blk_below (bk_ BK601.out) hb); have n3_ := Aside0.mk (below_step (bw_ HB.out) hb); have n4_ := Aside0.mk (hbox); have n5_ := Aside0.mk (sz_ hg (bw_ HB.out)); have n6_ := n5_; have n7_ := Aside0.mk (ne_ hg (blk_lt (bk_ BK592.out))); have n8_ := Aside0.mk n7_.out.symm; have n9_ := Aside0.mk (ne_ hg (blk_lt (bk_ BK601.out))); have n10_ := Aside0.mk n9_.out.symm; clear HO600 BK592 BK601 HB; have HO600 := n0_; have BK592 := n1_; have BK601 := n2_; have HB := n3_; have BK602 := n4_; have GW602 := n5_; have GE602 := n6_; have NB592_602 := n7_; have NB602_592 := n8_; have NB601_602 := n9_; have NB602_601 := n10_; clear n0_ n1_ n2_ n3_ n4_ n5_ n6_ n7_ n8_ n9_ n10_; clear hb hbox hg; have hnb70 := NB601_592.out; have hnc70 := NB592_601.out; have hnb71 := NB601_602.out; have hnc71 := NB602_601.out; have hcz72_0 : w69.cell? ⟨gb601, 0, none⟩ = some (.int .i64 0) := (blk_cell BK601.out 0).trans rfl; have hcz72_1 : w69.cell? ⟨gb601, 1, none⟩ = some (.int .i64 0) := (blk_cell BK601.out 1).trans rfl; have hfz72_0 := blk_frozen BK601.out 0; have hfz72_1 := blk_frozen BK601.out 1; have hnb73 := NB602_592.out; have hnc73 := NB592_602.out; have hcz74_0 : w69.cell? ⟨gb602, 0, none⟩ = some (.int .i64 0) := (blk_cell BK602.out 0).trans rfl; have hcz74_1 : w69.cell? ⟨gb602, 1, none⟩ = some (.int .i64 0) := (blk_cell BK602.out 1).trans rfl; have hfz74_0 := blk_frozen BK602.out 0; have hfz74_1 := blk_frozen BK602.out 1; obtain ⟨Ao75, co75, eo75⟩ := Kd.S_slice HO600.out; subst eo75) | ((with_reducible refine gate_callee (f := 12) rfl ?_); refine goesL_ (some 22) rfl rfl Try.func12 (by kernel_rfl) rfl #[.agg #[.int .i64 t596, .int .i64 t597], .slice Ao75 t598.length co75] rfl (by (try simp only [List.map_toArray, List.map_cons, List.map_nil]); first | done | rfl | (simp only [List.length_drop, List.length_take]; rfl)) ?_; (with_reducible refine (gristmilllaw06_of.calls k t596 t597 _ _ t598 t603 t604 t605 _ ?side1 ?side2 A6.out).mono ?_); (case side1 => refine (Kd.S_reads' (e := 44) (base := w.heap.size) (ok := fun k_ => True) (n := t598.length) (c := co75) ?_).2.2; exact (by (with_reducible repeat (first | apply Kd.S_alloc | apply Kd.S_drewN | apply Kd.S_drew)); exact (Kd.S_mono (Kd.S_mono (Kd.S_far (p := ⟨gb602, 1, none⟩) (Kd.S_far (p := ⟨gb602, 0, none⟩) (Kd.S_far (p := ⟨gb601, 1, none⟩) (Kd.S_far (p := ⟨gb601, 0, none⟩) (Kd.S_types (Kd.S_types HO600.out BK601.out (by decide)) BK602.out (by decide)) (fun _ hk => hk.1.2) (.int .i64 t594)) (fun _ hk => hk.1.2) (.int .i64 t595)) (fun _ hk => hk.2) (.int .i64 t596)) (fun _ hk => hk.2) (.int .i64 t597)) (fun _ h_ => h_.1)) (fun _ h_ => h_.1)))); (case side2 => exact (Kd.S_reads' HO600.out).2.1); rintro e w76 ⟨v606, rfl, ho0, hb⟩; refine ⟨_, rfl, ?_⟩; have n0_ := Aside0.mk (Kd.S_elder' (by (with_reducible repeat (first | apply Kd.S_alloc | apply Kd.S_drewN | apply Kd.S_drew)); exact (Kd.S_mono (Kd.S_mono (Kd.S_far (p := ⟨gb602, 1, none⟩) (Kd.S_far (p := ⟨gb602, 0, none⟩) (Kd.S_far (p := ⟨gb601, 1, none⟩) (Kd.S_far (p := ⟨gb601, 0, none⟩) (Kd.S_types (Kd.S_types HO600.out BK601.out (by decide)) BK602.out (by decide)) (fun _ hk => hk.1.2) (.int .i64 t594)) (fun _ hk => hk.1.2) (.int .i64 t595)) (fun _ hk => hk.2) (.int .i64 t596)) (fun _ hk => hk.2) (.int .i64 t597)) (fun _ h_ => h_.1)) (fun _ h_ => h_.1))) (Kd.R_base ho0) hb); have n1_ := Aside0.mk (Kd.R_lower ho0 (below_size (bw_ HB.out))); have n2_ := Aside0.mk (blk_below (g := gb592) (o := .cells #[.int .i64 a0_0, .int .i64 a0_1] 23 (0, 0)) (by (with_reducible repeat (first | refine blk_drewN ?_ _ | refine blk_drew ?_ | refine blk_alloc ?_ _)); refine blk_far ?_ NB592_602.out _; (with_reducible repeat (first | refine blk_drewN ?_ _ | refine blk_drew ?_ | refine blk_alloc ?_ _)); refine blk_far ?_ NB592_602.out _; (with_reducible repeat (first | refine blk_drewN ?_ _ | refine blk_drew ?_ | refine blk_alloc ?_ _)); refine blk_far ?_ NB592_601.out _; (with_reducible repeat (first | refine blk_drewN ?_ _ | refine blk_drew ?_ | refine blk_alloc ?_ _)); refine blk_far ?_ NB592_601.out _; (with_reducible repeat (first | refine blk_drewN ?_ _ | refine blk_drew ?_ | refine blk_alloc ?_ _)); exact BK592.out) hb); have n3_ := Aside0.mk (blk_below (g := gb601) (o := .cells #[.int .i64 t594, .int .i64 t595] 27 (0, 0)) (by (with_reducible repeat (first | refine blk_drewN ?_ _ | refine blk_drew ?_ | refine blk_alloc ?_ _)); refine blk_far ?_ NB601_602.out _; (with_reducible repeat (first | refine blk_drewN ?_ _ | refine blk_drew ?_ | refine blk_alloc ?_ _)); refine blk_far ?_ NB601_602.out _; (with_reducible repeat (first | refine blk_drewN ?_ _ | refine blk_drew ?_ | refine blk_alloc ?_ _)); refine blk_put (cs := #[.int .i64 t594, .int .i64 0]) ?_ 1 _ rfl; (with_reducible repeat (first | refine blk_drewN ?_ _ | refine blk_drew ?_ | refine blk_alloc ?_ _)); refine blk_put (cs := #[.int .i64 0, .int .i64 0]) ?_ 0 _ rfl; (with_reducible repeat (first | refine blk_drewN ?_ _ | refine blk_drew ?_ | refine blk_alloc ?_ _)); exact BK601.out) hb); have n4_ := Aside0.mk (blk_below (g := gb602) (o := .cells #[.int .i64 t596, .int .i64 t597] 23 (0, 0)) (by (with_reducible repeat (first | refine blk_drewN ?_ _ | refine blk_drew ?_ | refine blk_alloc ?_ _)); refine blk_put (cs := #[.int .i64 t596, .int .i64 0]) ?_ 1 _ rfl; (with_reducible repeat (first | refine blk_drewN ?_ _ | refine blk_drew ?_ | refine blk_alloc ?_ _)); refine blk_put (cs := #[.int .i64 0, .int .i64 0]) ?_ 0 _ rfl; (with_reducible repeat (first | refine blk_drewN ?_ _ | refine blk_drew ?_ | refine blk_alloc ?_ _)); refine blk_far ?_ NB602_601.out _; (with_reducible repeat (first | refine blk_drewN ?_ _ | refine blk_drew ?_ | refine blk_alloc ?_ _)); refine blk_far ?_ NB602_601.out _; (with_reducible repeat (first | refine blk_drewN ?_ _ | refine blk_drew ?_ | refine blk_alloc ?_ _)); exact BK602.out) hb); have n5_ := Aside0.mk (below_step (bw_ HB.out) hb); clear HO600 BK592 BK601 BK602 HB; have HO600 := n0_; have HO607 := n1_; have BK592 := n2_; have BK601 := n3_; have BK602 := n4_; have HB := n5_; clear n0_ n1_ n2_ n3_ n4_ n5_; (try clear hb); (try clear hb2); (try clear hk); (try clear hi); (try clear ho0)) | ((with_reducible refine gate_dst (N := 9) rfl ?_); refine bx_ (N := 9) (cs := #[.int .u64 0, .int .i64 0, .slice none 0 0]) (t := 33) ?_; intro gb608 hg w77 hbox hb; have n0_ := Aside0.mk (Kd.S_below (by (with_reducible repeat (first | apply Kd.S_alloc | apply Kd.S_drewN | apply Kd.S_drew)); exact HO600.out) hb); have n1_ := Aside0.mk (Kd.R_below (by (with_reducible repeat (first | apply Kd.R_alloc | apply Kd.R_drewN | apply Kd.R_drew)); exact HO607.out) hb); have n2_ := Aside0.mk (blk_below (bk_ BK592.out) hb); have n3_ := Aside0.mk (blk_below (bk_ BK601.out) hb); have n4_ := Aside0.mk (blk_below (bk_ BK602.out) hb); have n5_ := Aside0.mk (below_step (bw_ HB.out) hb); have n6_ := Aside0.mk (hbox); have n7_ := Aside0.mk (sz_ hg (bw_ HB.out)); have n8_ := n7_; have n9_ := Aside0.mk (ne_ hg (blk_lt (bk_ BK592.out))); have n10_ := Aside0.mk n9_.out.symm; have n11_ := Aside0.mk (ne_ hg (blk_lt (bk_ BK601.out))); have n12_ := Aside0.mk n11_.out.symm; have n13_ := Aside0.mk (ne_ hg (blk_lt (bk_ BK602.out))); have n14_ := Aside0.mk n13_.out.symm; clear HO600 HO607 BK592 BK601 BK602 HB; have HO600 := n0_; have HO607 := n1_; have BK592 := n2_; have BK601 := n3_; have BK602 := n4_; have HB := n5_; have BK608 := n6_; have GW608 := n7_; have GE608 := n8_; have NB592_608 := n9_; have NB608_592 := n10_; have NB601_608 := n11_; have NB608_601 := n12_; have NB602_608 := n13_; have NB608_602 := n14_; clear n0_ n1_ n2_ n3_ n4_ n5_ n6_ n7_ n8_ n9_ n10_ n11_ n12_ n13_ n14_; clear hb hbox hg; have hnb78 := NB608_592.out; have hnc78 := NB592_608.out; have hnb79 := NB608_601.out; have hnc79 := NB601_608.out; have hnb80 := NB608_602.out; have hnc80 := NB602_608.out; have hcz81_0 : w77.cell? ⟨gb608, 0, none⟩ = some (.int .u64 0) := (blk_cell BK608.out 0).trans rfl; have hcz81_1 : w77.cell? ⟨gb608, 1, none⟩ = some (.int .i64 0) := (blk_cell BK608.out 1).trans rfl; have hcz81_2 : w77.cell? ⟨gb608, 2, none⟩ = some (.slice none 0 0) := (blk_cell BK608.out 2).trans rfl; have hfz81_0 := blk_frozen BK608.out 0; have hfz81_1 := blk_frozen BK608.out 1; have hfz81_2 := blk_frozen BK608.out 2; obtain ⟨Ao82, co82, eo82⟩ := Kd.R_slice HO607.out; subst eo82))
   have n0_ : Aside0 (Kd.S k44 44 (((w77.setCell ⟨gb608, 0, none⟩ (.int .u64 t603)).setCell ⟨gb608, 1, none⟩ (.int .i64 t604)).setCell ⟨gb608, 2, none⟩ (.slice Ao82 t605.length co82)) w.heap.size (fun k_ => some k_ ≠ (.slice Ao82 t605.length co82 : Value).ownBlock) (.slice Ao75 t598.length co75) t598) := ⟨by (with_reducible repeat (first | apply Kd.S_alloc | apply Kd.S_drewN | apply Kd.S_drew)); exact Kd.S_mono (Kd.S_far (p := ⟨gb608, 2, none⟩) (Kd.S_far (p := ⟨gb608, 1, none⟩) (Kd.S_far (p := ⟨gb608, 0, none⟩) (Kd.S_types HO600.out BK608.out (by decide)) (fun _ hk => hk.2) (.int .u64 t603)) (fun _ hk => hk.2) (.int .i64 t604)) (fun _ hk => hk.2) (.slice Ao82 t605.length co82)) (fun _ hk => hk.1.2)⟩
   have n1_ : Aside0 (Kd.R Kd.string 9 (((w77.setCell ⟨gb608, 0, none⟩ (.int .u64 t603)).setCell ⟨gb608, 1, none⟩ (.int .i64 t604)).setCell ⟨gb608, 2, none⟩ (.slice Ao82 t605.length co82)) w.heap.size (fun _ => True) (.slice Ao82 t605.length co82) t605) := ⟨by (with_reducible repeat (first | apply Kd.R_alloc | apply Kd.R_drewN | apply Kd.R_drew)); exact Kd.R_mono (Kd.R_far (p := ⟨gb608, 2, none⟩) (Kd.R_far (p := ⟨gb608, 1, none⟩) (Kd.R_far (p := ⟨gb608, 0, none⟩) (Kd.R_types HO607.out BK608.out (by decide)) (fun _ hk => hk.2) (.int .u64 t603)) (fun _ hk => hk.2) (.int .i64 t604)) (fun _ hk => hk.2) (.slice Ao82 t605.length co82)) (fun _ hk => trivial)⟩
   have n2_ : Aside0 ((((w77.setCell ⟨gb608, 0, none⟩ (.int .u64 t603)).setCell ⟨gb608, 1, none⟩ (.int .i64 t604)).setCell ⟨gb608, 2, none⟩ (.slice Ao82 t605.length co82)).heap[gb592]? = some (.cells #[.int .i64 a0_0, .int .i64 a0_1] 23 (0, 0))) := ⟨by (with_reducible repeat (first | refine blk_drewN ?_ _ | refine blk_drew ?_ | refine blk_alloc ?_ _)); refine blk_far ?_ NB592_608.out _; (with_reducible repeat (first | refine blk_drewN ?_ _ | refine blk_drew ?_ | refine blk_alloc ?_ _)); refine blk_far ?_ NB592_608.out _; (with_reducible repeat (first | refine blk_drewN ?_ _ | refine blk_drew ?_ | refine blk_alloc ?_ _)); refine blk_far ?_ NB592_608.out _; (with_reducible repeat (first | refine blk_drewN ?_ _ | refine blk_drew ?_ | refine blk_alloc ?_ _)); exact BK592.out⟩
   have n3_ : Aside0 ((((w77.setCell ⟨gb608, 0, none⟩ (.int .u64 t603)).setCell ⟨gb608, 1, none⟩ (.int .i64 t604)).setCell ⟨gb608, 2, none⟩ (.slice Ao82 t605.length co82)).heap[gb601]? = some (.cells #[.int .i64 t594, .int .i64 t595] 27 (0, 0))) := ⟨by (with_reducible repeat (first | refine blk_drewN ?_ _ | refine blk_drew ?_ | refine blk_alloc ?_ _)); refine blk_far ?_ NB601_608.out _; (with_reducible repeat (first | refine blk_drewN ?_ _ | refine blk_drew ?_ | refine blk_alloc ?_ _)); refine blk_far ?_ NB601_608.out _; (with_reducible repeat (first | refine blk_drewN ?_ _ | refine blk_drew ?_ | refine blk_alloc ?_ _)); refine blk_far ?_ NB601_608.out _; (with_reducible repeat (first | refine blk_drewN ?_ _ | refine blk_drew ?_ | refine blk_alloc ?_ _)); exact BK601.out⟩
   have n4_ : Aside0 ((((w77.setCell ⟨gb608, 0, none⟩ (.int .u64 t603)).setCell ⟨gb608, 1, none⟩ (.int .i64 t604)).setCell ⟨gb608, 2, none⟩ (.slice Ao82 t605.length co82)).heap[gb602]? = some (.cells #[.int .i64 t596, .int .i64 t597] 23 (0, 0))) := ⟨by (with_reducible repeat (first | refine blk_drewN ?_ _ | refine blk_drew ?_ | refine blk_alloc ?_ _)); refine blk_far ?_ NB602_608.out _; (with_reducible repeat (first | refine blk_drewN ?_ _ | refine blk_drew ?_ | refine blk_alloc ?_ _)); refine blk_far ?_ NB602_608.out _; (with_reducible repeat (first | refine blk_drewN ?_ _ | refine blk_drew ?_ | refine blk_alloc ?_ _)); refine blk_far ?_ NB602_608.out _; (with_reducible repeat (first | refine blk_drewN ?_ _ | refine blk_drew ?_ | refine blk_alloc ?_ _)); exact BK602.out⟩
   have n5_ : Aside0 ((((w77.setCell ⟨gb608, 0, none⟩ (.int .u64 t603)).setCell ⟨gb608, 1, none⟩ (.int .i64 t604)).setCell ⟨gb608, 2, none⟩ (.slice Ao82 t605.length co82)).heap[gb608]? = some (.cells #[.int .u64 t603, .int .i64 t604, .slice Ao82 t605.length co82] 33 (0, 0))) := ⟨by (with_reducible repeat (first | refine blk_drewN ?_ _ | refine blk_drew ?_ | refine blk_alloc ?_ _)); refine blk_put (cs := #[.int .u64 t603, .int .i64 t604, .slice none 0 0]) ?_ 2 _ rfl; (with_reducible repeat (first | refine blk_drewN ?_ _ | refine blk_drew ?_ | refine blk_alloc ?_ _)); refine blk_put (cs := #[.int .u64 t603, .int .i64 0, .slice none 0 0]) ?_ 1 _ rfl; (with_reducible repeat (first | refine blk_drewN ?_ _ | refine blk_drew ?_ | refine blk_alloc ?_ _)); refine blk_put (cs := #[.int .u64 0, .int .i64 0, .slice none 0 0]) ?_ 0 _ rfl; (with_reducible repeat (first | refine blk_drewN ?_ _ | refine blk_drew ?_ | refine blk_alloc ?_ _)); exact BK608.out⟩
   have n6_ : Aside0 (Below w.heap.size w (((w77.setCell ⟨gb608, 0, none⟩ (.int .u64 t603)).setCell ⟨gb608, 1, none⟩ (.int .i64 t604)).setCell ⟨gb608, 2, none⟩ (.slice Ao82 t605.length co82))) := ⟨by repeat (first | (with_reducible first | exact HB.out | apply below_alloc | apply pw_below_drewN | apply below_drew1 | refine below_set ?_ GE592.out | refine below_set ?_ GE601.out | refine below_set ?_ GE602.out | refine below_set ?_ GE608.out) | exact HB.out)⟩
   (try clear HO600)
   (try clear HO607)
   (try clear BK592)
   (try clear BK601)
   (try clear BK602)
   (try clear BK608)
   (try clear HB)
   generalize (((w77.setCell ⟨gb608, 0, none⟩ (.int .u64 t603)).setCell ⟨gb608, 1, none⟩ (.int .i64 t604)).setCell ⟨gb608, 2, none⟩ (.slice Ao82 t605.length co82)) = w83 at n0_ n1_ n2_ n3_ n4_ n5_ n6_ ⊢
   have HO600 := n0_
   have HO607 := n1_
   have BK592 := n2_
   have BK601 := n3_
   have BK602 := n4_
   have BK608 := n5_
   have HB := n6_
   clear n0_ n1_ n2_ n3_ n4_ n5_ n6_
   have n0_ := Aside0.mk (Kd.S_drew HO600.out)
   have n1_ := Aside0.mk (Kd.R_drew HO607.out)
   have n2_ := Aside0.mk (blk_drew BK592.out)
   have n3_ := Aside0.mk (blk_drew BK601.out)
   have n4_ := Aside0.mk (blk_drew BK602.out)
   have n5_ := Aside0.mk (blk_drew BK608.out)
   have n6_ := Aside0.mk (below_drew1 HB.out)
   clear HO600
   clear HO607
   clear BK592
   clear BK601
   clear BK602
   clear BK608
   clear HB
   have HO600 := n0_
   have HO607 := n1_
   have BK592 := n2_
   have BK601 := n3_
   have BK602 := n4_
   have BK608 := n5_
   have HB := n6_
   clear n0_ n1_ n2_ n3_ n4_ n5_ n6_
   refine start_ (n := 18) (S := fun w' => w'.cell? ⟨gb601, 0, none⟩ = some (.int .i64 t594) ∧ w'.cell? ⟨gb601, 1, none⟩ = some (.int .i64 t595) ∧ w'.cell? ⟨gb602, 0, none⟩ = some (.int .i64 t596) ∧ w'.cell? ⟨gb602, 1, none⟩ = some (.int .i64 t597) ∧ w'.cell? ⟨gb608, 0, none⟩ = some (.int .u64 t603) ∧ w'.cell? ⟨gb608, 1, none⟩ = some (.int .i64 t604) ∧ w'.cell? ⟨gb608, 2, none⟩ = some (.slice Ao82 t605.length co82)) (ds := []) #[false, false, false, false, false, false, false, false, false, false, false, false, false, false, false, false, false, false] (by kernel_rfl) rfl rfl ⟨(blk_cell BK601.out 0).trans rfl, (blk_cell BK601.out 1).trans rfl, (blk_cell BK602.out 0).trans rfl, (blk_cell BK602.out 1).trans rfl, (blk_cell BK608.out 0).trans rfl, (blk_cell BK608.out 1).trans rfl, (blk_cell BK608.out 2).trans rfl⟩ (fun hHeld => ?_); refine with_tabW gristmilllaw06_AggMay.tab6 gristmilllaw06_AggMay.bits6 (fun HT_ HW_ => ?_)
   generalize w83.drew = w84 at HO600 HO607 BK592 BK601 BK602 BK608 HB hHeld ⊢
   refine take_ (i := 0) (N := some 23) (v := ?_) (a' := ?_) #[true, false, false, false, false, false, false, false, false, false, false, false, false, false, false, false, false, false] rfl rfl (take_ofW HT_.out HW_.out (by kernel_rfl)) (fun _ _ _ h => h) (Or.inl ⟨by rfl, ?_⟩) hHeld ?_ ?_
   rotate_left
   ·rintro w' ⟨s0, s1, s2, s3, s4, s5, s6⟩
    go_simp
    with_reducible rfl
   rotate_left
   ·simp only [Act.put, q1_, q2_, q3_, i64_w, i32_w]
    rfl
   refine take_ (i := 1) (N := some 24) (v := ?_) (a' := ?_) #[true, true, false, false, false, false, false, false, false, false, false, false, false, false, false, false, false, false] rfl rfl (take_ofW HT_.out HW_.out (by kernel_rfl)) (fun _ _ _ h => h) (Or.inl ⟨by rfl, ?_⟩) hHeld ?_ ?_
   rotate_left
   ·rintro w' ⟨s0, s1, s2, s3, s4, s5, s6⟩
    go_simp
    with_reducible rfl
   rotate_left
   ·simp only [Act.put, q1_, q2_, q3_, i64_w, i32_w]
    rfl
   refine take_ (i := 2) (N := some 25) (v := ?_) (a' := ?_) #[true, true, true, false, false, false, false, false, false, false, false, false, false, false, false, false, false, false] rfl rfl (take_ofW HT_.out HW_.out (by kernel_rfl)) (fun _ _ _ h => h) (Or.inl ⟨by rfl, ?_⟩) hHeld ?_ ?_
   rotate_left
   ·rintro w' ⟨s0, s1, s2, s3, s4, s5, s6⟩
    go_simp
    with_reducible rfl
   rotate_left
   ·simp only [Act.put, q1_, q2_, q3_, i64_w, i32_w]
    rfl
   refine one_ (i := 3) (N := some 26) #[true, true, true, true, false, false, false, false, false, false, false, false, false, false, false, false, false, false] rfl rfl (one_of HT_.out (by kernel_rfl)) (by decide) (fun K hK => ?_)
   refine goes_ Try.func23 (by kernel_rfl) rfl #[.agg #[.int .i64 t594, .int .i64 t595], .agg #[.int .i64 t596, .int .i64 t597], .agg #[.int .u64 t603, .int .i64 t604, .slice Ao82 t605.length co82]] (by rfl) rfl rfl (by (try simp only [List.map_toArray, List.map_cons, List.map_nil]); first | done | rfl | (simp only [List.length_drop, List.length_take]; rfl)) ?_
   with_reducible refine (agg_May.calls k t594 t595 t596 t597 t603 t604 _ _ t605 false _ ?side1 ?side2 A7.out).mono ?_
   (case side1 => repeat (first | exact (Kd.R_reads' HO607.out).2.2 | (with_reducible refine Kd.C_alloc ?_ _) | (with_reducible refine Kd.C_drewN ?_ _) | (with_reducible refine Kd.C_drew ?_)))
   (case side2 => exact (Kd.R_reads' HO607.out).2.1)
   rintro e w85 ⟨rfl, hb⟩
   refine ⟨_, rfl, ?_⟩
   have n0_ := Aside0.mk (Kd.S_below (by (with_reducible repeat (first | apply Kd.S_alloc | apply Kd.S_drewN | apply Kd.S_drew)); exact HO600.out) hb)
   have n1_ := Aside0.mk (Kd.R_below (by (with_reducible repeat (first | apply Kd.R_alloc | apply Kd.R_drewN | apply Kd.R_drew)); exact HO607.out) hb)
   have n2_ := Aside0.mk (blk_below (bk_ BK592.out) hb)
   have n3_ := Aside0.mk (blk_below (bk_ BK601.out) hb)
   have n4_ := Aside0.mk (blk_below (bk_ BK602.out) hb)
   have n5_ := Aside0.mk (blk_below (bk_ BK608.out) hb)
   have n6_ := Aside0.mk (below_step (bw_ HB.out) hb)
   clear HO600
   clear HO607
   clear BK592
   clear BK601
   clear BK602
   clear BK608
   clear HB
   have HO600 := n0_
   have HO607 := n1_
   have BK592 := n2_
   have BK601 := n3_
   have BK602 := n4_
   have BK608 := n5_
   have HB := n6_
   clear n0_ n1_ n2_ n3_ n4_ n5_ n6_
   (try clear hb)
   (try clear hb2)
   (try clear hk)
   (try clear hi)
   refine hK.out _ _ ⟨(blk_cell BK601.out 0).trans rfl, (blk_cell BK601.out 1).trans rfl, (blk_cell BK602.out 0).trans rfl, (blk_cell BK602.out 1).trans rfl, (blk_cell BK608.out 0).trans rfl, (blk_cell BK608.out 1).trans rfl, (blk_cell BK608.out 2).trans rfl⟩ (fun hHeld => ?_)
   clear hK K
   refine norm_ (a' := ?_) ?_ ?_
   rotate_left
   ·show Act.put _ (some 26) _ = _
    simp only [Act.put, q1_, q2_, q3_, i64_w, i32_w]
    rfl
   refine pure_ (i := 4) (N := some 27) (v := ?_) (a' := ?_) #[true, true, true, true, true, false, false, false, false, false, false, false, false, false, false, false, false, false] rfl rfl (any_of HT_.out (by kernel_rfl)) (fun _ _ _ h => h) (Or.inl ⟨by rfl, ?_⟩) ?_ ?_
   rotate_left
   ·intro w'
    go_simp
    with_reducible rfl
   rotate_left
   ·simp only [Act.put, q1_, q2_, q3_, i64_w, i32_w]
    rfl
   refine pure_ (i := 5) (N := some 28) (v := undef) (a' := ?_) #[true, true, true, true, true, true, false, false, false, false, false, false, false, false, false, false, false, false] rfl rfl (any_of HT_.out (by kernel_rfl)) (fun _ _ _ h => h) (Or.inr ⟨by rfl, rfl⟩) ?_ ?_
   rotate_left
   ·simp only [Act.put, q1_, q2_, q3_, i64_w, i32_w]
    rfl
   refine pure_ (i := 6) (N := some 29) (v := undef) (a' := ?_) #[true, true, true, true, true, true, true, false, false, false, false, false, false, false, false, false, false, false] rfl rfl (any_of HT_.out (by kernel_rfl)) (fun _ _ _ h => h) (Or.inr ⟨by rfl, rfl⟩) ?_ ?_
   rotate_left
   ·simp only [Act.put, q1_, q2_, q3_, i64_w, i32_w]
    rfl
   refine pure_ (i := 7) (N := some 30) (v := undef) (a' := ?_) #[true, true, true, true, true, true, true, true, false, false, false, false, false, false, false, false, false, false] rfl rfl (any_of HT_.out (by kernel_rfl)) (fun _ _ _ h => h) (Or.inr ⟨by rfl, rfl⟩) ?_ ?_
   rotate_left
   ·simp only [Act.put, q1_, q2_, q3_, i64_w, i32_w]
    rfl
   refine pure_ (i := 8) (N := some 31) (v := undef) (a' := ?_) #[true, true, true, true, true, true, true, true, true, false, false, false, false, false, false, false, false, false] rfl rfl (any_of HT_.out (by kernel_rfl)) (fun _ _ _ h => h) (Or.inr ⟨by rfl, rfl⟩) ?_ ?_
   rotate_left
   ·simp only [Act.put, q1_, q2_, q3_, i64_w, i32_w]
    rfl
   refine pure_ (i := 9) (N := some 32) (v := undef) (a' := ?_) #[true, true, true, true, true, true, true, true, true, true, false, false, false, false, false, false, false, false] rfl rfl (any_of HT_.out (by kernel_rfl)) (fun _ _ _ h => h) (Or.inr ⟨by rfl, rfl⟩) ?_ ?_
   rotate_left
   ·simp only [Act.put, q1_, q2_, q3_, i64_w, i32_w]
    rfl
   refine pure_ (i := 10) (N := some 33) (v := ?_) (a' := ?_) #[true, true, true, true, true, true, true, true, true, true, true, false, false, false, false, false, false, false] rfl rfl (any_of HT_.out (by kernel_rfl)) (fun _ _ _ h => h) (Or.inl ⟨by rfl, ?_⟩) ?_ ?_
   rotate_left
   ·intro w'
    go_simp
    with_reducible rfl
   rotate_left
   ·simp only [Act.put, q1_, q2_, q3_, i64_w, i32_w]
    rfl
   refine pure_ (i := 11) (N := some 34) (v := ?_) (a' := ?_) #[true, true, true, true, true, true, true, true, true, true, true, true, false, false, false, false, false, false] rfl rfl (any_of HT_.out (by kernel_rfl)) (fun _ _ _ h => h) (Or.inl ⟨by rfl, ?_⟩) ?_ ?_
   rotate_left
   ·intro w'
    go_simp
    with_reducible rfl
   rotate_left
   ·simp only [Act.put, q1_, q2_, q3_, i64_w, i32_w]
    rfl
   refine pure_ (i := 12) (N := some 35) (v := undef) (a' := ?_) #[true, true, true, true, true, true, true, true, true, true, true, true, true, false, false, false, false, false] rfl rfl (any_of HT_.out (by kernel_rfl)) (fun _ _ _ h => h) (Or.inr ⟨by rfl, rfl⟩) ?_ ?_
   rotate_left
   ·simp only [Act.put, q1_, q2_, q3_, i64_w, i32_w]
    rfl
   refine pure_ (i := 13) (N := some 36) (v := undef) (a' := ?_) #[true, true, true, true, true, true, true, true, true, true, true, true, true, true, false, false, false, false] rfl rfl (any_of HT_.out (by kernel_rfl)) (fun _ _ _ h => h) (Or.inr ⟨by rfl, rfl⟩) ?_ ?_
   rotate_left
   ·simp only [Act.put, q1_, q2_, q3_, i64_w, i32_w]
    rfl
   refine pure_ (i := 14) (N := some 37) (v := undef) (a' := ?_) #[true, true, true, true, true, true, true, true, true, true, true, true, true, true, true, false, false, false] rfl rfl (any_of HT_.out (by kernel_rfl)) (fun _ _ _ h => h) (Or.inr ⟨by rfl, rfl⟩) ?_ ?_
   rotate_left
   ·simp only [Act.put, q1_, q2_, q3_, i64_w, i32_w]
    rfl
   refine pure_ (i := 15) (N := some 38) (v := undef) (a' := ?_) #[true, true, true, true, true, true, true, true, true, true, true, true, true, true, true, true, false, false] rfl rfl (any_of HT_.out (by kernel_rfl)) (fun _ _ _ h => h) (Or.inr ⟨by rfl, rfl⟩) ?_ ?_
   rotate_left
   ·simp only [Act.put, q1_, q2_, q3_, i64_w, i32_w]
    rfl
   refine pure_ (i := 16) (N := some 39) (v := ?_) (a' := ?_) #[true, true, true, true, true, true, true, true, true, true, true, true, true, true, true, true, true, false] rfl rfl (any_of HT_.out (by kernel_rfl)) (fun _ _ _ h => h) (Or.inl ⟨by rfl, ?_⟩) ?_ ?_
   rotate_left
   ·intro w'
    go_simp
    with_reducible rfl
   rotate_left
   ·simp only [Act.put, q1_, q2_, q3_, i64_w, i32_w]
    rfl
   refine pure_ (i := 17) (N := some 4) (v := ?_) (a' := ?_) #[true, true, true, true, true, true, true, true, true, true, true, true, true, true, true, true, true, true] rfl rfl (any_of HT_.out (by kernel_rfl)) (fun _ _ _ h => h) (Or.inl ⟨by rfl, ?_⟩) ?_ ?_
   rotate_left
   ·intro w'
    go_simp
    with_reducible rfl
   rotate_left
   ·simp only [Act.put, q1_, q2_, q3_, i64_w, i32_w]
    rfl
   refine done_ (done_of HT_.out (by kernel_rfl)) ?_
   try go_wp2
   go_ret
   exact ⟨by first | rfl | (simp [errW_none, errW_some] <;> rfl) | (simp [*, errW_none, errW_some] <;> rfl), by repeat (first | (with_reducible first | exact HB.out | apply below_alloc | apply pw_below_drewN | apply below_drew1 | refine below_set ?_ GE592.out | refine below_set ?_ GE601.out | refine below_set ?_ GE602.out | refine below_set ?_ GE608.out) | exact HB.out)⟩
 ·replace c4 := Bool.eq_false_iff.mpr c4
  subst c4
  have H1 : (some false) = some r := by rw [if_neg (show ¬ (false = true) by decide)] at H; exact H
  clear H
  have H := H1
  clear H1
  obtain rfl := Option.some.inj H
  go_enter Try.func9, Try.ntmps9
  go_wp2_with (first | ((with_reducible refine gate_dst (N := 2) rfl ?_); refine bx_ (N := 2) (cs := #[.int .i64 a0_0, .int .i64 a0_1]) (t := 23) ?_; intro gb592 hg w86 hbox hb; have n0_ := Aside0.mk (below_step (bw_ HB.out) hb); have n1_ := Aside0.mk (hbox); have n2_ := Aside0.mk (sz_ hg (bw_ HB.out)); have n3_ := n2_; clear HB; have HB := n0_; have BK592 := n1_; have GW592 := n2_; have GE592 := n3_; clear n0_ n1_ n2_ n3_; clear hb hbox hg) | ((with_reducible refine gate_callee (f := 10) rfl ?_); refine goesL_ (some 10) rfl rfl Try.func10 (by kernel_rfl) rfl #[] rfl (by (try simp only [List.map_toArray, List.map_cons, List.map_nil]); first | done | rfl | (simp only [List.length_drop, List.length_take]; rfl)) ?_; (with_reducible refine (gristmilllaw06_awake.calls  false _ A3.out).mono ?_); rintro e w87 ⟨rfl, hb⟩; refine ⟨_, rfl, ?_⟩; have n0_ := Aside0.mk (blk_below (bk_ BK592.out) hb); have n1_ := Aside0.mk (below_step (bw_ HB.out) hb); clear BK592 HB; have BK592 := n0_; have HB := n1_; clear n0_ n1_; (try clear hb); (try clear hb2); (try clear hk); (try clear hi)))
  go_ret
  exact ⟨by first | rfl | (simp [errW_none, errW_some] <;> rfl) | (simp [*, errW_none, errW_some] <;> rfl), by repeat (first | (with_reducible first | exact HB.out | apply below_alloc | apply pw_below_drewN | apply below_drew1 | refine below_set ?_ GE592.out) | exact HB.out)⟩
end Go.Proofs.Ytmjhgeinhhhodaa.P
end

section
namespace Go.Proofs.Ytmjhgeinhhhodaa.P
open Go.RowKit Go.Proofs.YtmjhgeinhhhodaaW.PrintWords Go.Proofs.YtmjhgeinhhhodaaW.PrintLast Go.Proofs.YtmjhgeinhhhodaaW.PrintMore
attribute [local go_sem] max2_int min2_int max_two min_two max_three min_three max_four min_four   -- for this text's walks alone
set_option linter.unusedVariables false
set_option linter.unusedSimpArgs false
open Go.Proofs.Ytmjhgeinhhhodaa.Ext (q1_ q2_ q3_ bk_ bw_ sz_ ne_ bx_)
attribute [local go_sem high] Go.Proofs.Ytmjhgeinhhhodaa.Ext.gtr_str Go.Proofs.Ytmjhgeinhhhodaa.Ext.leq_str Go.Proofs.Ytmjhgeinhhhodaa.Ext.geq_str
def gristmillref06_Fine.j0 : Nat → Int → Bool → Int → Int → Int → Int → Option (Bool)
 | 0, _, _, _, _, _, _ => none
 | k + 1, x6, x9, x552000, x552001, x553000, x553001 => if x9 = true then (if x553001 ≥ 0 then (some (decide (x553001 < x552001))) else (some false)) else (if x6 = 5 then (if x553001 ≥ 0 then (some (decide (x553001 < x552000))) else (some false)) else (some false))
def gristmillref06_Fine.f (k : Nat) (a0_0 : Int) (a0_1 : Int) (a1_0 : Int) (a1_1 : Int) : Option (Bool) := if a1_0 = 1 then (some true) else (if a1_0 = 2 then (gristmillref06_Fine.j0 k a1_0 (a1_0 == 2) a0_0 a0_1 a1_0 a1_1) else (if a1_0 = 3 then (gristmillref06_Fine.j0 k a1_0 (a1_0 == 3) a0_0 a0_1 a1_0 a1_1) else (gristmillref06_Fine.j0 k a1_0 (a1_0 == 4) a0_0 a0_1 a1_0 a1_1)))
end Go.Proofs.Ytmjhgeinhhhodaa.P
end

section
namespace Go.Proofs.Ytmjhgeinhhhodaa.P
open Go.RowKit Go.Proofs.YtmjhgeinhhhodaaW.PrintWords Go.Proofs.YtmjhgeinhhhodaaW.PrintLast Go.Proofs.YtmjhgeinhhhodaaW.PrintMore
attribute [local go_sem] max2_int min2_int max_two min_two max_three min_three max_four min_four   -- for this text's walks alone
set_option linter.unusedVariables false
set_option linter.unusedSimpArgs false
open Go.Proofs.Ytmjhgeinhhhodaa.Ext (q1_ q2_ q3_ bk_ bw_ sz_ ne_ bx_)
attribute [local go_sem high] Go.Proofs.Ytmjhgeinhhhodaa.Ext.gtr_str Go.Proofs.Ytmjhgeinhhhodaa.Ext.leq_str Go.Proofs.Ytmjhgeinhhhodaa.Ext.geq_str
def gristmillref06_May.l0 : Nat → Int → Int → Int → List ByteArray → Option (Bool)
 | 0, _, _, _, _ => none
 | k + 1, x8, x580000, x580001, x580002 => if x8 < (x580002.length : Int) then (if 0 ≤ x8 then (if ((rdOf ByteArray.empty x580002 x8).size : Int) > 64 then (some false) else (if x8 > 0 then (if 0 ≤ (wrap64 (x8 - 1)) then (if (wrap64 (x8 - 1)) < (x580002.length : Int) then (if ((Op.bytesLess ((rdOf ByteArray.empty x580002 (wrap64 (x8 - 1))).toList) ((rdOf ByteArray.empty x580002 x8).toList)) = true) then (gristmillref06_May.l0 k (wrap64 (x8 + 1)) x580000 x580001 x580002) else (some false)) else (none)) else (none)) else (gristmillref06_May.l0 k (wrap64 (x8 + 1)) x580000 x580001 x580002))) else (none)) else (if x580000 = 0 then (if x580001 = 0 then (some ((x580002.length : Int) == 0)) else (some false)) else (if x580001 = 0 then (if (x580002.length : Int) > 0 then (some (decide ((IntKind.u64.wrap ((x580002.length : Int))) ≤ x580000))) else (some false)) else (some false)))
def gristmillref06_May.f (k : Nat) (a0_0 : Int) (a0_1 : Int) (a1_0 : Int) (a1_1 : Int) (a2_0 : Int) (a2_1 : Int) (l2_2 : List ByteArray) : Option (Bool) := (gristmillref06_Fine.f k a0_0 a0_1 a1_0 a1_1).bind fun t580 => (if t580 = true then (if a1_0 = 5 then (gristmillref06_May.l0 k 0 a2_0 a2_1 l2_2) else (if (l2_2.length : Int) = 0 then (if a2_0 = 0 then (some (a2_1 == 0)) else (if a1_0 = 1 then (some (a2_1 == 0)) else (some true))) else (some false))) else (some false))
end Go.Proofs.Ytmjhgeinhhhodaa.P
end

section
namespace Go.Proofs.Ytmjhgeinhhhodaa.Ext
set_option linter.unusedVariables false
set_option linter.unusedSimpArgs false
open Go.RowKit Go.Proofs.YtmjhgeinhhhodaaW.PrintWords Go.Proofs.Ytmjhgeinhhhodaa.P Go.Proofs.Ytmjhgeinhhhodaa.Txt
theorem fine_is (k : Nat) (d m c0 c1 : Int) : gristmillref06_Fine.f (k + 1) d m c0 c1 = some (!wrongB d m c0 c1) := by
  unfold gristmillref06_Fine.f wrongB
  simp only [gristmillref06_Fine.j0, ge_iff_le]
  by_cases h1 : c0 = 1
  · subst h1; simp
  by_cases h2 : c0 = 2
  · subst h2; by_cases hc : 0 ≤ c1 <;> by_cases hm : c1 < m <;> simp [hc, hm] <;> omega
  by_cases h3 : c0 = 3
  · subst h3; by_cases hc : 0 ≤ c1 <;> by_cases hm : c1 < m <;> simp [hc, hm] <;> omega
  by_cases h4 : c0 = 4
  · subst h4; by_cases hc : 0 ≤ c1 <;> by_cases hm : c1 < m <;> simp [hc, hm] <;> omega
  by_cases h5 : c0 = 5
  · subst h5; by_cases hc : 0 ≤ c1 <;> by_cases hm : c1 < d <;> simp [hc, hm] <;> omega
  · have : c0 < 1 ∨ 5 < c0 := by omega
    simp [h1, h2, h3, h4, h5, this]
def tx (l : List ByteArray) (i : Nat) : T := (l.getD i ByteArray.empty).data.toList
theorem rd_tx (l : List ByteArray) (i : Nat) : (rdOf ByteArray.empty l (i : Int)).data.toList = tx l i := by unfold rdOf tx; rw [Int.toNat_natCast]
theorem rd_size (l : List ByteArray) (i : Nat) : (rdOf ByteArray.empty l (i : Int)).size = (tx l i).length := by rw [← rd_tx]; rfl
theorem less_rd (l : List ByteArray) (i j : Nat) : Op.bytesLess (rdOf ByteArray.empty l (i : Int)).toList (rdOf ByteArray.empty l (j : Int)).toList = decide (tx l i < tx l j) := by rw [less_is, rd_tx, rd_tx]
theorem less_f (a b : ByteArray) : cmp_Less_string.f a b = some (Op.bytesLess a.toList b.toList) := by
  unfold cmp_Less_string.f cmp_isNaN_string.f
  simp
def SortedTo (l : List ByteArray) (n : Nat) : Prop := ∀ i, 0 < i → i ≤ n → ¬ tx l i < tx l (i - 1)
noncomputable instance (l : List ByteArray) (n : Nat) : Decidable (SortedTo l n) := Classical.propDecidable _
theorem sorted_loop (l : List ByteArray) (hl : l.length < 4611686018427387904) : ∀ (j : Nat), j < l.length → ∀ k, slices_IsSorted_string_string.l0 (k + j + 1) l (j : Int) = some (decide (SortedTo l j))
  | 0, hj, k => by
    simp only [slices_IsSorted_string_string.l0]
    rw [if_neg (by omega)]
    refine congrArg some (decide_eq_true ?_).symm
    intro i h1 h2; omega
  | j + 1, hj, k => by
    have e : wrap64 (((j + 1 : Nat) : Int) - 1) = (j : Int) := by unfold wrap64; omega
    rw [show k + (j + 1) + 1 = (k + j + 1) + 1 by omega, slices_IsSorted_string_string.l0]
    rw [if_pos (by omega), if_pos (by omega), if_pos (by omega), e, if_pos (by omega), if_pos (by omega), less_f, less_rd]
    simp only [Option.bind_some, decide_eq_true_eq]
    rw [sorted_loop l hl j (by omega) k]
    by_cases h : tx l (j + 1) < tx l j
    · rw [if_pos h]
      refine congrArg some (decide_eq_false ?_).symm
      intro hs
      exact hs (j + 1) (by omega) (Nat.le_refl _) h
    · rw [if_neg h]
      congr 1
      refine decide_eq_decide.2 ⟨fun hs i h1 h2 => ?_, fun hs i h1 h2 => hs i h1 (by omega)⟩
      by_cases hi : i = j + 1
      · subst hi; exact h
      · exact hs i h1 (by omega)
theorem sorted_is (l : List ByteArray) (hl : l.length < 4611686018427387904) (k : Nat) : slices_IsSorted_string_string.f (k + l.length + 1) l = some (decide (SortedTo l (l.length - 1))) := by
  unfold slices_IsSorted_string_string.f
  by_cases h : l.length = 0
  · rw [h]
    have e : wrap64 (((0 : Nat) : Int) - 1) = -1 := by unfold wrap64; omega
    rw [e, show k + 0 + 1 = k + 1 by omega]
    simp only [slices_IsSorted_string_string.l0]
    rw [if_neg (by omega)]
    refine congrArg some (decide_eq_true ?_).symm
    intro i h1 h2; omega
  · have e : wrap64 ((l.length : Int) - 1) = ((l.length - 1 : Nat) : Int) := by unfold wrap64; omega
    rw [e, show k + l.length + 1 = (k + 1) + (l.length - 1) + 1 by omega]
    exact sorted_loop l hl _ (by omega) _
theorem compact_all (l : List ByteArray) : (compactB l).length = l.length ↔ ∀ i, 0 < i → i < l.length → tx l i ≠ tx l (i - 1) := by
  unfold compactB
  rw [strs_length]
  unfold Go.Lib.compact Go.Lib.compactUpTo
  rw [List.length_map, txts_length]
  have e : l.length = (List.range l.length).length := by simp
  have hx : ∀ i, i < l.length → (txts l).toArray[i]! = tx l i := by
    intro i hi
    rw [getElem!_pos _ i (by simpa [txts_length] using hi)]
    unfold txts tx
    simp [hi]
  constructor
  · intro h i h0 hi he
    have h2 : (List.filter (Go.Lib.keeps (txts l).toArray) (List.range l.length)).length = (List.range l.length).length := by rw [h, List.length_range]
    have := List.length_filter_eq_length_iff.1 h2 i (by simpa using hi)
    have := of_decide_eq_true this
    rw [hx i hi, hx (i - 1) (by omega)] at this
    rcases this with h1 | h1
    · omega
    · exact h1 he
  · intro h
    rw [show (List.filter (Go.Lib.keeps (txts l).toArray) (List.range l.length)).length = (List.range l.length).length from ?_, List.length_range]
    refine List.length_filter_eq_length_iff.2 (fun i hi => ?_)
    have hi : i < l.length := by simpa using hi
    refine decide_eq_true ?_
    by_cases h0 : i = 0
    · exact .inl h0
    · refine .inr ?_
      rw [hx i hi, hx (i - 1) (by omega)]
      exact h i (by omega) hi
def Good (l : List ByteArray) (i : Nat) : Prop := (tx l i).length ≤ 64 ∧ (0 < i → tx l (i - 1) < tx l i)
def AllGood (l : List ByteArray) (j : Nat) : Prop := ∀ i, j ≤ i → i < l.length → Good l i
noncomputable instance (l : List ByteArray) (n : Nat) : Decidable (AllGood l n) := Classical.propDecidable _
def mayEnd (N V : Int) (l : List ByteArray) : Bool := if N = 0 then (if V = 0 then (l.length : Int) == 0 else false) else if V = 0 then (if (l.length : Int) > 0 then decide (IntKind.u64.wrap (l.length : Int) ≤ N) else false) else false
theorem may_loop (N V : Int) (l : List ByteArray) (hl : l.length < 4611686018427387904) : ∀ (n j : Nat), j + n = l.length → ∀ k, gristmillref06_May.l0 (k + n + 1) (j : Int) N V l = some (decide (AllGood l j) && mayEnd N V l)
  | 0, j, hj, k => by
    have : AllGood l j := fun i h1 h2 => by omega
    rw [decide_eq_true this, Bool.true_and]
    simp only [gristmillref06_May.l0]
    rw [if_neg (by omega)]
    unfold mayEnd
    split
    · split <;> rfl
    · split
      · split <;> rfl
      · rfl
  | n + 1, j, hj, k => by
    have e : wrap64 ((j : Int) + 1) = ((j + 1 : Nat) : Int) := by unfold wrap64; omega
    have ih := may_loop N V l hl n (j + 1) (by omega) k
    rw [show k + (n + 1) + 1 = (k + n + 1) + 1 by omega, gristmillref06_May.l0]
    rw [if_pos (by omega), if_pos (by omega), rd_size, e, ih]
    by_cases h64 : (tx l j).length ≤ 64
    · rw [if_neg (by omega)]
      by_cases h0 : j = 0
      · subst h0
        rw [if_neg (by omega)]
        congr 2
        refine decide_eq_decide.2 ⟨fun h i h1 h2 => ?_, fun h i h1 h2 => h i (by omega) h2⟩
        by_cases hi : i = 0
        · subst hi; exact ⟨h64, fun h => by omega⟩
        · exact h i (by omega) h2
      · have e1 : wrap64 ((j : Int) - 1) = ((j - 1 : Nat) : Int) := by unfold wrap64; omega
        rw [if_pos (by omega), e1, if_pos (by omega), if_pos (by omega), less_rd]
        by_cases hlt : tx l (j - 1) < tx l j
        · rw [if_pos (decide_eq_true hlt)]
          congr 2
          refine decide_eq_decide.2 ⟨fun h i h1 h2 => ?_, fun h i h1 h2 => h i (by omega) h2⟩
          by_cases hi : i = j
          · subst hi; exact ⟨h64, fun _ => hlt⟩
          · exact h i (by omega) h2
        · rw [if_neg (by simpa using hlt)]
          rw [decide_eq_false (fun h => hlt ((h j (Nat.le_refl _) (by omega)).2 (by omega)))]
          rfl
    · rw [if_pos (by omega)]
      rw [decide_eq_false (fun h => h64 (h j (Nat.le_refl _) (by omega)).1)]
      rfl
theorem tooLong_iff (l : List ByteArray) : tooLong l = false ↔ ∀ i, i < l.length → (tx l i).length ≤ 64 := by
  unfold tooLong
  rw [List.any_eq_false]
  constructor
  · intro h i hi
    have := h l[i] (List.getElem_mem hi)
    simp only [decide_eq_true_eq] at this
    unfold tx
    rw [List.getD_eq_getElem?_getD, List.getElem?_eq_getElem hi]
    show l[i].size ≤ 64
    omega
  · intro h x hx
    obtain ⟨i, hi, rfl⟩ := List.getElem_of_mem hx
    have := h i hi
    unfold tx at this
    rw [List.getD_eq_getElem?_getD, List.getElem?_eq_getElem hi] at this
    have h2 : l[i].size ≤ 64 := this
    simp only [decide_eq_true_eq]
    omega
theorem allGood_iff (l : List ByteArray) : AllGood l 0 ↔ SortedTo l (l.length - 1) ∧ (compactB l).length = l.length ∧ tooLong l = false := by
  rw [compact_all, tooLong_iff]
  constructor
  · intro h
    refine ⟨fun i h0 hi hlt => ?_, fun i h0 hi he => ?_, fun i hi => (h i (by omega) hi).1⟩
    · exact lt_irrefl _ (lt_trans hlt ((h i (by omega) (by omega)).2 h0))
    · have := (h i (by omega) hi).2 h0
      rw [he] at this
      exact lt_irrefl _ this
  · rintro ⟨h1, h2, h3⟩ i _ hi
    refine ⟨h3 i hi, fun h0 => ?_⟩
    rcases lt_or (tx l (i - 1)) (tx l i) with h | h | h
    · exact h
    · exact absurd h.symm (h2 i h0 hi)
    · exact absurd h (h1 i h0 (by omega))
theorem may_is (d m c0 c1 N V : Int) (l : List ByteArray) (hl : l.length ≤ 8796093022208) (hN : 0 ≤ N) (k : Nat) :
    ∃ b, agg_May.f (k + l.length + 1) d m c0 c1 N V l = some b ∧ gristmillref06_May.f (k + l.length + 1) d m c0 c1 N V l = some b := by
  have hc : agg_Check.f d m [(⟨c0, c1⟩ : S23)] = some (if wrongB d m c0 c1 then 1 else 0) := by
    unfold agg_Check.f
    rw [if_neg (by simp)]
    simp [anyWrong]
  unfold agg_May.f gristmillref06_May.f
  rw [hc, show k + l.length + 1 = (k + l.length) + 1 from rfl, fine_is, show (k + l.length) + 1 = k + l.length + 1 from rfl]
  simp only [Option.bind_some]
  cases hw : wrongB d m c0 c1
  · simp only [Bool.not_false, if_true, Bool.false_eq_true, if_false]
    by_cases h5 : c0 = 5
    · have hm : gristmillref06_May.l0 (k + l.length + 1) 0 N V l = some (decide (AllGood l 0) && mayEnd N V l) := may_loop N V l (by omega) l.length 0 (by omega) k
      rw [if_pos h5, if_pos h5, sorted_is l (by omega), hm]
      simp only [Option.bind_some, decide_eq_true_eq, slices_Clone_string_string.f, slices_Compact_string_string.f, slices_ContainsFunc_string_string_at_agg_May_1.f, if_pos hl]
      refine ⟨_, ?_, rfl⟩
      have hg := allGood_iff l
      have hu : IntKind.u64.wrap (l.length : Int) = (l.length : Int) := by
        show (l.length : Int) % 18446744073709551616 = _
        omega
      unfold mayEnd
      rw [hu]
      by_cases h1 : SortedTo l (l.length - 1)
      · rw [if_pos h1]
        by_cases hV : V = 0
        · rw [if_pos (by simpa using hV)]
          by_cases h2 : (compactB l).length = l.length
          · rw [if_pos (by omega)]
            cases h3 : tooLong l
            · have : AllGood l 0 := hg.2 ⟨h1, h2, h3⟩
              rw [decide_eq_true this]
              by_cases hz : N = 0
              · subst hz
                by_cases hlz : l.length = 0
                · simp [hlz, hV]
                · have : 0 < l.length := by omega
                  have hne : l ≠ [] := fun h => by rw [h] at hlz; exact hlz rfl
                  simp [hne, hV]
              · by_cases hlz : l.length = 0
                · have he : l = [] := List.length_eq_zero_iff.1 hlz
                  have hNp : 0 < N := by omega
                  subst he
                  simp [hV, hz, hN, hNp]
                · have : 0 < l.length := by omega
                  have : 0 < N := by omega
                  have hne : l ≠ [] := fun h => by rw [h] at hlz; exact hlz rfl
                  by_cases hle : (l.length : Int) ≤ N
                  · simp [hne, hV, hz, hle, this]
                  · simp [hne, hV, hz, hle]
            · rw [decide_eq_false (p := AllGood l 0) (fun h => by have := (hg.1 h).2.2; rw [h3] at this; cases this)]
              simp
          · rw [if_neg (by omega), decide_eq_false (p := AllGood l 0) (fun h => h2 (hg.1 h).2.1)]
            simp
        · rw [if_neg (by simpa using hV)]
          have : (if N = 0 then (if V = 0 then (l.length : Int) == 0 else false) else if V = 0 then (if (l.length : Int) > 0 then decide ((l.length : Int) ≤ N) else false) else false) = false := by
            rw [if_neg hV, if_neg hV]
            split <;> rfl
          rw [this, Bool.and_false]
      · rw [if_neg h1, decide_eq_false (p := AllGood l 0) (fun h => h1 (hg.1 h).1)]
        simp
    · rw [if_neg h5, if_neg h5]
      by_cases hlz : (l.length : Int) = 0
      · rw [if_pos hlz, if_pos hlz]
        by_cases hV : V = 0 <;> by_cases hz : N = 0 <;> by_cases h1 : c0 = 1 <;> simp [hV, hz, h1]
      · rw [if_neg hlz, if_neg hlz]
        exact ⟨_, rfl, rfl⟩
  · simp
end Go.Proofs.Ytmjhgeinhhhodaa.Ext
end

section
namespace Go.Proofs.Ytmjhgeinhhhodaa.Ext
set_option linter.unusedVariables false
set_option linter.unusedSimpArgs false
open Go.RowKit Go.Proofs.YtmjhgeinhhhodaaW.PrintWords Go.Proofs.Ytmjhgeinhhhodaa.P Go.Proofs.Ytmjhgeinhhhodaa.Txt
theorem mem_built (a : List ByteArray) (y : ByteArray) : y ∈ builtB a ↔ y ∈ a := by
  unfold builtB strs
  rw [List.mem_map]
  constructor
  · rintro ⟨t, ht, rfl⟩
    rw [built_mem] at ht
    unfold txts at ht
    obtain ⟨z, hz, rfl⟩ := List.mem_map.1 ht
    have e : Txt.bs z.data.toList = z := bs_of z
    rw [e]; exact hz
  · intro h
    exact ⟨y.data.toList, (built_mem _ _).2 (List.mem_map.2 ⟨y, h, rfl⟩), bs_of y⟩
theorem built_ext {a b : List ByteArray} (h : ∀ y, y ∈ a ↔ y ∈ b) : builtB a = builtB b := by
  unfold builtB
  congr 1
  refine rises_same (built_rises _) (built_rises _) (fun y => ?_)
  rw [built_mem, built_mem]
  unfold txts
  rw [List.mem_map, List.mem_map]
  constructor
  · rintro ⟨z, hz, rfl⟩; exact ⟨z, (h z).1 hz, rfl⟩
  · rintro ⟨z, hz, rfl⟩; exact ⟨z, (h z).2 hz, rfl⟩
theorem built_twice (a : List ByteArray) : builtB (builtB a) = builtB a := built_ext (fun y => mem_built a y)
theorem built_length (a : List ByteArray) : (builtB a).length ≤ a.length := by
  unfold builtB
  rw [strs_length]
  exact Nat.le_trans (built_le _) (by rw [txts_length]; exact Nat.le_refl _)
structure Pt where
  n : Int
  v : Int
  t : List ByteArray
def Pt.z : Pt := ⟨0, 0, []⟩
def mg (c : Int) (p q : Pt) : Pt :=
  if p.n = 0 then (if q.n = 0 then ⟨0, 0, []⟩ else ⟨q.n, q.v, builtB q.t⟩) else if q.n = 0 then ⟨p.n, p.v, builtB p.t⟩ else ⟨IntKind.u64.wrap (p.n + q.n), mergeV c p.v q.v, builtB (p.t ++ q.t)⟩
structure Fit (c : Int) (b : Int) (p : Pt) : Prop where
  lo : 0 ≤ p.n
  hi : p.n ≤ b
  zv : p.n = 0 → p.v = 0
  zt : p.n = 0 → p.t = []
  bt : builtB p.t = p.t
  len : (p.t.length : Int) ≤ p.n
  tx : c ≠ 5 → p.t = []
  vz : c = 1 ∨ c = 5 → p.v = 0
  sz : ∀ s ∈ p.t, s.size ≤ 64
  tn : c = 5 → p.n ≠ 0 → p.t ≠ []
theorem u64_small {n : Int} (h0 : 0 ≤ n) (h : n < 18446744073709551616) : IntKind.u64.wrap n = n := by
  show n % 18446744073709551616 = n
  omega
theorem fit_z (c b : Int) (hb : 0 ≤ b) : Fit c b Pt.z := ⟨Int.le_refl _, hb, fun _ => rfl, fun _ => rfl, builtB_nil, Int.le_refl _, fun _ => rfl, fun _ => rfl, fun s h => (by cases h), fun _ h => absurd rfl h⟩
theorem mg_fit {c b b' : Int} {p q : Pt} (hp : Fit c b p) (hq : Fit c b' q) (hb : b + b' < 4611686018427387904) (hb0 : 0 ≤ b) (hb1 : 0 ≤ b') : Fit c (b + b') (mg c p q) := by
  have h1 := hp.lo; have h2 := hp.hi; have h3 := hq.lo; have h4 := hq.hi
  unfold mg
  by_cases hpz : p.n = 0
  · rw [if_pos hpz]
    by_cases hqz : q.n = 0
    · rw [if_pos hqz]
      exact fit_z c _ (by omega)
    · rw [if_neg hqz, hq.bt]
      exact ⟨h3, by show q.n ≤ _; omega, hq.zv, hq.zt, hq.bt, hq.len, hq.tx, hq.vz, hq.sz, hq.tn⟩
  · rw [if_neg hpz]
    by_cases hqz : q.n = 0
    · rw [if_pos hqz, hp.bt]
      exact ⟨h1, by show p.n ≤ _; omega, hp.zv, hp.zt, hp.bt, hp.len, hp.tx, hp.vz, hp.sz, hp.tn⟩
    · rw [if_neg hqz, u64_small (by omega) (by omega)]
      refine ⟨by show (0 : Int) ≤ p.n + q.n; omega, by show p.n + q.n ≤ _; omega, fun h => ?_, fun h => ?_, built_twice _, ?_, fun h => ?_, fun h => ?_, fun s hs => ?_, fun h5 _ he => ?_⟩
      · have : p.n + q.n = 0 := h
        omega
      · have : p.n + q.n = 0 := h
        omega
      · have := built_length (p.t ++ q.t)
        rw [List.length_append] at this
        have h5 := hp.len
        have h6 := hq.len
        show ((builtB (p.t ++ q.t)).length : Int) ≤ p.n + q.n
        omega
      · show builtB (p.t ++ q.t) = []
        rw [hp.tx h, hq.tx h]
        exact builtB_nil
      · show mergeV c p.v q.v = 0
        rw [hp.vz h, hq.vz h]
        unfold mergeV
        rcases h with rfl | rfl <;> simp
      · have := (mem_built _ _).1 hs
        rcases List.mem_append.1 this with h | h
        · exact hp.sz s h
        · exact hq.sz s h
      · have he' : builtB (p.t ++ q.t) = [] := he
        refine hp.tn h5 hpz (List.eq_nil_iff_forall_not_mem.2 (fun y hy => ?_))
        have := (mem_built (p.t ++ q.t) y).2 (List.mem_append_left _ hy)
        rw [he'] at this
        cases this
theorem merge_is {c c1 b b' : Int} {p q : Pt} (hc : 1 ≤ c ∧ c ≤ 5) (hp : Fit c b p) (hq : Fit c b' q) (hl : p.t.length + q.t.length < 8796093022208) : agg_Merge.f c c1 p.n p.v p.t q.n q.v q.t = some ((mg c p q).n, (mg c p q).v, (mg c p q).t) := by
  unfold agg_Merge.f mg mfin
  rw [if_neg (by omega)]
  by_cases hpz : p.n = 0
  · by_cases hqz : q.n = 0
    · simp only [if_pos hpz, if_pos hqz]
    · simp only [if_pos hpz, if_neg hqz]
      rw [if_pos (by omega)]
  · by_cases hqz : q.n = 0
    · simp only [if_neg hpz, if_pos hqz]
      rw [if_pos (by omega)]
    · simp only [if_neg hpz, if_neg hqz]
      rw [if_pos (by rw [List.length_append]; omega)]
structure FitM (m : S44) : Prop where
  n0 : 0 ≤ m.f1
  n1 : m.f1 < 1125899906842624
  d : m.f0.f1.length = 2
  e : m.f0.f2.length = 2
  s : ∀ x ∈ m.f0.f1, x.size ≤ 64
def unit (c c1 : Int) (m : S44) : Pt :=
  if m.f1 = 0 then Pt.z else if c = 1 then ⟨m.f1, 0, []⟩ else if c = 5 then ⟨m.f1, 0, [m.f0.f1.getD c1.toNat ⟨#[]⟩]⟩ else ⟨m.f1, manyV c (rd m.f0.f2 c1) m.f1, []⟩
theorem unit_fit {c c1 : Int} {m : S44} (hc : 1 ≤ c ∧ c ≤ 5) (h1 : 0 ≤ c1 ∧ c1 < 2) (hm : FitM m) : Fit c 1125899906842624 (unit c c1 m) := by
  have h2 := hm.n0; have h3 := hm.n1
  unfold unit
  by_cases hz : m.f1 = 0
  · rw [if_pos hz]; exact fit_z _ _ (by omega)
  rw [if_neg hz]
  by_cases hc1 : c = 1
  · rw [if_pos hc1]
    exact ⟨h2, by show m.f1 ≤ _; omega, fun _ => rfl, fun _ => rfl, builtB_nil, h2, fun _ => rfl, fun _ => rfl, fun s h => (by cases h), fun h _ => by omega⟩
  rw [if_neg hc1]
  by_cases hc5 : c = 5
  · rw [if_pos hc5]
    refine ⟨h2, by show m.f1 ≤ _; omega, fun _ => rfl, fun h => absurd h hz, builtB_one _, by show (1 : Int) ≤ m.f1; omega, fun h => absurd hc5 h, fun _ => rfl, fun s hs => ?_, fun _ _ h => by cases h⟩
    have e := List.mem_singleton.1 hs
    subst e
    have hlt : c1.toNat < m.f0.f1.length := by have := hm.d; omega
    rw [List.getD_eq_getElem?_getD, List.getElem?_eq_getElem hlt]
    exact hm.s _ (List.getElem_mem hlt)
  · rw [if_neg hc5]
    exact ⟨h2, by show m.f1 ≤ _; omega, fun h => absurd h hz, fun _ => rfl, builtB_nil, h2, fun _ => rfl, fun h => (by omega), fun s h => (by cases h), fun h => absurd h hc5⟩
theorem add_is {c c1 b : Int} {p : Pt} {m : S44} (hc : 1 ≤ c ∧ c ≤ 5) (h1 : 0 ≤ c1 ∧ c1 < 2) (hp : Fit c b p) (hm : FitM m) (hl : p.t.length + 1 < 8796093022208) :
    agg_Add.f c c1 p.n p.v p.t m.f0.f0 m.f0.f1 m.f0.f2 m.f1 = some ((mg c p (unit c c1 m)).n, (mg c p (unit c c1 m)).v, (mg c p (unit c c1 m)).t) := by
  have hu := unit_fit hc h1 hm
  have key : agg_Add.f c c1 p.n p.v p.t m.f0.f0 m.f0.f1 m.f0.f2 m.f1 = agg_Merge.f c c1 p.n p.v p.t (unit c c1 m).n (unit c c1 m).v (unit c c1 m).t := by
    have hd := hm.d; have he := hm.e
    unfold agg_Add.f unit
    rw [if_neg (by omega)]
    by_cases hz : m.f1 = 0
    · rw [if_pos hz, if_pos hz]; rfl
    rw [if_neg hz, if_neg hz]
    by_cases hc1 : c = 1
    · rw [if_pos hc1, if_pos hc1]
    rw [if_neg hc1, if_neg hc1]
    by_cases hc5 : c = 5
    · rw [if_pos hc5, if_pos hc5, if_pos (by omega)]
    · rw [if_neg hc5, if_neg hc5, if_pos (by omega)]
  rw [key]
  refine merge_is hc hp hu ?_
  have : (unit c c1 m).t.length ≤ 1 := by
    unfold unit
    split
    · exact Nat.zero_le _
    · split
      · exact Nat.zero_le _
      · split
        · exact Nat.le_refl _
        · exact Nat.zero_le _
  omega
def sp (c c1 : Int) (l : List S44) : Pt := l.foldl (fun p m => mg c p (unit c c1 m)) Pt.z
theorem sp_snoc (c c1 : Int) (l : List S44) (m : S44) : sp c c1 (l ++ [m]) = mg c (sp c c1 l) (unit c c1 m) := by
  unfold sp; rw [List.foldl_append]; rfl
def FitL (l : List S44) : Prop := ∀ m ∈ l, FitM m
theorem snoc_ind {P : List S44 → Prop} (h0 : P []) (h : ∀ l m, P l → P (l ++ [m])) (l : List S44) : P l := by
  rw [← List.reverse_reverse l]
  induction l.reverse with
  | nil => exact h0
  | cons m r ih => rw [List.reverse_cons]; exact h _ _ ih
theorem sp_fit {c c1 : Int} (hc : 1 ≤ c ∧ c ≤ 5) (h1 : 0 ≤ c1 ∧ c1 < 2) (l : List S44) : FitL l → l.length ≤ 1000 → Fit c (1125899906842624 * (l.length : Int)) (sp c c1 l) := by
  refine snoc_ind (P := fun l => FitL l → l.length ≤ 1000 → Fit c (1125899906842624 * (l.length : Int)) (sp c c1 l)) (fun _ _ => fit_z _ _ (by simp)) (fun l m ih hf hl => ?_) l
  rw [List.length_append, List.length_singleton] at hl ⊢
  rw [sp_snoc]
  have := mg_fit (ih (fun x hx => hf x (by simp [hx])) (by omega)) (unit_fit hc h1 (hf m (by simp))) (by omega) (by omega) (by omega)
  refine ⟨this.lo, Int.le_trans this.hi (by omega), this.zv, this.zt, this.bt, this.len, this.tx, this.vz, this.sz, this.tn⟩
end Go.Proofs.Ytmjhgeinhhhodaa.Ext
end

section
namespace Go.Proofs.Ytmjhgeinhhhodaa.Ext
set_option linter.unusedVariables false
set_option linter.unusedSimpArgs false
open Go.RowKit Go.Proofs.YtmjhgeinhhhodaaW.PrintWords Go.Proofs.Ytmjhgeinhhhodaa.P Go.Proofs.Ytmjhgeinhhhodaa.Txt
theorem rd44 (l : List S44) (j : Nat) (hj : j < l.length) : rd_T44 l (j : Int) = l[j] := by unfold rd_T44; simp [hj]
theorem sp_t_len {c c1 : Int} (hc : 1 ≤ c ∧ c ≤ 5) (h1 : 0 ≤ c1 ∧ c1 < 2) (l : List S44) : FitL l → l.length ≤ 1000 → (sp c c1 l).t.length ≤ l.length := by
  refine snoc_ind (P := fun l => FitL l → l.length ≤ 1000 → (sp c c1 l).t.length ≤ l.length) (fun _ _ => Nat.le_refl _) (fun l m ih hf hl => ?_) l
  rw [List.length_append, List.length_singleton] at hl ⊢
  have hf' : FitL l := fun z hz => hf z (by simp [hz])
  have hm := hf m (by simp)
  have h := ih hf' (by omega)
  have hs := sp_fit hc h1 l hf' (by omega)
  have hu := unit_fit hc h1 hm
  have hul : (unit c c1 m).t.length ≤ 1 := by
    unfold unit
    split
    · exact Nat.zero_le _
    · split
      · exact Nat.zero_le _
      · split
        · exact Nat.le_refl _
        · exact Nat.zero_le _
  rw [sp_snoc]
  unfold mg
  by_cases hpz : (sp c c1 l).n = 0
  · by_cases hqz : (unit c c1 m).n = 0
    · rw [if_pos hpz, if_pos hqz]; exact Nat.zero_le _
    · rw [if_pos hpz, if_neg hqz]
      show (builtB (unit c c1 m).t).length ≤ _
      rw [hu.bt]; omega
  · by_cases hqz : (unit c c1 m).n = 0
    · rw [if_neg hpz, if_pos hqz]
      show (builtB (sp c c1 l).t).length ≤ _
      rw [hs.bt]; omega
    · rw [if_neg hpz, if_neg hqz]
      have := built_length ((sp c c1 l).t ++ (unit c c1 m).t)
      rw [List.length_append] at this
      show (builtB ((sp c c1 l).t ++ (unit c c1 m).t)).length ≤ _
      omega
theorem take_snoc (l : List S44) (j : Nat) (hj : j < l.length) : l.take (j + 1) = l.take j ++ [l[j]] := List.take_succ_eq_append_getElem hj
theorem FitL.take {l : List S44} (h : FitL l) (j : Nat) : FitL (l.take j) := fun m hm => h m (List.mem_of_mem_take hm)
theorem of_step {c c1 b : Int} (hc : 1 ≤ c ∧ c ≤ 5) (h1 : 0 ≤ c1 ∧ c1 < 2) (l : List S44) (hf : FitL l) (hl : l.length ≤ 1000) (j k : Nat) (hj : j < l.length) (p : Pt) (hp : Fit c b p) (ht : p.t.length ≤ 1000) :
    gristmilllaw06_of.l0 (k + 1) l (j : Int) c c1 p.n p.v p.t = gristmilllaw06_of.l0 k l ((j + 1 : Nat) : Int) c c1 (mg c p (unit c c1 l[j])).n (mg c p (unit c c1 l[j])).v (mg c p (unit c c1 l[j])).t := by
  have e : wrap64 ((j : Int) + 1) = ((j + 1 : Nat) : Int) := by unfold wrap64; omega
  have ha := add_is hc h1 hp (hf _ (List.getElem_mem hj)) (Nat.lt_of_le_of_lt (Nat.succ_le_succ ht) (by decide))
  have hi : (j : Int) < (l.length : Int) := Int.ofNat_lt.2 hj
  rw [gristmilllaw06_of.l0, if_pos hi, if_pos (Int.natCast_nonneg j), rd44 l j hj, ha, e]
  rfl
theorem of_end {c c1 : Int} (l : List S44) (k : Nat) (p : Pt) : gristmilllaw06_of.l0 (k + 1) l ((l.length : Nat) : Int) c c1 p.n p.v p.t = some (p.n, p.v, p.t) := by
  rw [gristmilllaw06_of.l0, if_neg (Int.lt_irrefl _)]
theorem of_loop {c c1 : Int} (hc : 1 ≤ c ∧ c ≤ 5) (h1 : 0 ≤ c1 ∧ c1 < 2) (l : List S44) (hf : FitL l) (hl : l.length ≤ 1000) : ∀ (n j : Nat), j + n = l.length → ∀ (k : Nat) (p : Pt), p = sp c c1 (l.take j) →
    gristmilllaw06_of.l0 (k + n + 1) l (j : Int) c c1 p.n p.v p.t = some ((sp c c1 l).n, (sp c c1 l).v, (sp c c1 l).t) := by
  intro n
  induction n with
  | zero =>
    intro j hj k p hp
    have e : l.take j = l := List.take_of_length_le (by omega)
    rw [e] at hp
    have hj' : j = l.length := by omega
    subst hj'
    rw [← hp]
    exact of_end l k p
  | succ n ih =>
    intro j hj k p hp
    have hjl : j < l.length := by omega
    have hlt : (l.take j).length ≤ 1000 := by rw [List.length_take]; omega
    have ht : p.t.length ≤ 1000 := by rw [hp]; exact Nat.le_trans (sp_t_len hc h1 (l.take j) (hf.take j) hlt) hlt
    have hfp := sp_fit hc h1 (l.take j) (hf.take j) hlt
    rw [← hp] at hfp
    have hs := of_step hc h1 l hf hl j (k + n + 1) hjl p hfp ht
    rw [show k + (n + 1) + 1 = (k + n + 1) + 1 by omega, hs]
    exact ih (j + 1) (by omega) k _ (by rw [take_snoc l j hjl, sp_snoc, hp])
theorem of_is {c c1 : Int} (hc : 1 ≤ c ∧ c ≤ 5) (h1 : 0 ≤ c1 ∧ c1 < 2) (l : List S44) (hf : FitL l) (hl : l.length ≤ 1000) (k : Nat) (hk : 1001 ≤ k) : gristmilllaw06_of.f k c c1 l = some ((sp c c1 l).n, (sp c c1 l).v, (sp c c1 l).t) := by
  have := of_loop hc h1 l hf hl l.length 0 (by omega) (k - l.length - 1) Pt.z rfl
  rw [show k - l.length - 1 + l.length + 1 = k by omega] at this
  unfold gristmilllaw06_of.f agg_Start.f
  exact this
theorem abs_is (n : Int) (h : (Lit.int .i64 n).wf = true) : ∃ m : Int, gristmilllaw06_abs.f n = some m ∧ 0 ≤ m := by
  simp only [Lit.wf, Bool.and_eq_true, decide_eq_true_eq] at h
  have h1 : -9223372036854775808 ≤ n := h.1
  have h2 : n ≤ 9223372036854775807 := by have := h.2; exact this
  unfold gristmilllaw06_abs.f
  by_cases hn : n < 0
  · rw [if_pos hn]
    refine ⟨_, rfl, ?_⟩
    unfold wrap64; omega
  · rw [if_neg hn]
    exact ⟨n, rfl, by omega⟩
theorem up_ {α : Type} (g : Nat → Option α) (h : ∀ k, LeO (g k) (g (k + 1))) {k0 k : Nat} {r : α} (h0 : g k0 = some r) (hk : k0 ≤ k) : g k = some r := by
  obtain ⟨d, rfl⟩ : ∃ d, k = k0 + d := ⟨k - k0, by omega⟩
  clear hk
  induction d with
  | zero => exact h0
  | succ d ih => exact h _ r ih
def DimsFit (D : List ByteArray) : Prop := D.length = 2 ∧ ∀ s ∈ D, s.size ≤ 64
theorem dims_set {D : List ByteArray} (h : DimsFit D) (i : Nat) (x : ByteArray) (hx : x.size ≤ 64) : DimsFit (D.set i x) := by
  refine ⟨by rw [List.length_set]; exact h.1, fun s hs => ?_⟩
  rcases List.mem_or_eq_of_mem_set hs with h1 | h1
  · exact h.2 s h1
  · rw [h1]; exact hx
theorem right_inner (l acc : List S44) (i : Nat) (hi : i < l.length) (c0 c1 : Int) (t : Int) (D : List ByteArray) (M : List Int) (hD : DimsFit D) (hM : M.length = 2) (x : Nat) (hx : x < 2) (k : Nat) :
    ∃ D' M', DimsFit D' ∧ M'.length = 2 ∧ gristmilllaw06_right.l1 (k + 2) l acc (i : Int) (x : Int) c0 c1 2 2 t D M = gristmilllaw06_right.l1 k l acc (i : Int) ((x + 1 : Nat) : Int) c0 c1 2 2 t D' M' := by
  have e : wrap64 ((x : Int) + 1) = ((x + 1 : Nat) : Int) := by unfold wrap64; omega
  have hi' : (i : Int) < (l.length : Int) := Int.ofNat_lt.2 hi
  have hi0 : 0 ≤ (i : Int) := Int.natCast_nonneg i
  have hx0 : 0 ≤ (x : Int) := Int.natCast_nonneg x
  have hx2 : (x : Int) < 2 := by omega
  have hD1 := hD.1
  obtain ⟨m, hm⟩ : ∃ m, rd_T44 l (i : Int) = m := ⟨_, rfl⟩
  rw [show k + 2 = (k + 1) + 1 from rfl, gristmilllaw06_right.l1, if_pos hx2, if_pos hi0, if_pos hi', hm]
  -- what is done for the numbers
  have meas : ∀ (D2 : List ByteArray), DimsFit D2 → ∃ D' M', DimsFit D' ∧ M'.length = 2 ∧
      (if (x : Int) < ((m.f0.f2).length : Int) then (if (x : Int) < (M.length : Int) then (gristmilllaw06_right.l1 k l acc (i : Int) (wrap64 ((x : Int) + 1)) c0 c1 2 2 t D2 (M.set (x : Int).toNat (rd (m.f0.f2) (x : Int)))) else none) else (gristmilllaw06_right.l1 k l acc (i : Int) (wrap64 ((x : Int) + 1)) c0 c1 2 2 t D2 M)) =
      gristmilllaw06_right.l1 k l acc (i : Int) ((x + 1 : Nat) : Int) c0 c1 2 2 t D' M' := by
    intro D2 hD2
    rw [e]
    by_cases h : (x : Int) < ((m.f0.f2).length : Int)
    · rw [if_pos h, if_pos (by omega)]
      exact ⟨D2, _, hD2, by rw [List.length_set]; exact hM, rfl⟩
    · rw [if_neg h]
      exact ⟨D2, M, hD2, hM, rfl⟩
  have noth : ∃ D' M', DimsFit D' ∧ M'.length = 2 ∧ gristmilllaw06_right.j3 (k + 1) l acc (i : Int) (x : Int) false c0 c1 2 2 t D M = gristmilllaw06_right.l1 k l acc (i : Int) ((x + 1 : Nat) : Int) c0 c1 2 2 t D' M' := by
    rw [gristmilllaw06_right.j3, if_neg (by simp), if_pos hi0, if_pos hi', hm]
    obtain ⟨D', M', h1, h2, h3⟩ := meas D hD
    refine ⟨D', M', h1, h2, ?_⟩
    rw [← h3]
    split
    · first | rfl | rw [if_pos hx0]
    · rfl
  by_cases hd : (x : Int) < ((m.f0.f1).length : Int)
  · rw [if_pos hd, if_pos hx0]
    by_cases h64 : ((rdOf ByteArray.empty (m.f0.f1) (x : Int)).size : Int) ≤ 64
    · rw [decide_eq_true h64]
      obtain ⟨D', M', h1, h2, h3⟩ := meas (D.set (x : Int).toNat (rdOf ByteArray.empty (m.f0.f1) (x : Int))) (dims_set hD _ _ (by omega))
      refine ⟨D', M', h1, h2, ?_⟩
      rw [gristmilllaw06_right.j3, if_pos rfl, if_pos hi0, if_pos hi', if_pos hx0, hm, if_pos hd, if_pos (show (x : Int) < (D.length : Int) by omega), Option.bind_some]
      exact h3
    · rw [decide_eq_false h64]
      exact noth
  · rw [if_neg hd]
    exact noth
theorem right_one (l acc : List S44) (i : Nat) (hi : i < l.length) (hi40 : i < 40) (hn : 0 ≤ l[i].f1) (ha : acc.length ≤ 40) (c0 c1 : Int) (k : Nat) :
    ∃ m, FitM m ∧ gristmilllaw06_right.l0 (k + 7) l acc (i : Int) c0 c1 2 2 = gristmilllaw06_right.l0 k l (acc ++ [m]) ((i + 1 : Nat) : Int) c0 c1 2 2 := by
  have e : wrap64 ((i : Int) + 1) = ((i + 1 : Nat) : Int) := by unfold wrap64; omega
  have hi' : (i : Int) < (l.length : Int) := Int.ofNat_lt.2 hi
  have hi0 : 0 ≤ (i : Int) := Int.natCast_nonneg i
  have hr := rd44 l i hi
  have h0 : DimsFit [(⟨#[]⟩ : ByteArray), (⟨#[]⟩ : ByteArray)] := ⟨rfl, fun s hs => by
    simp only [List.mem_cons, List.not_mem_nil, or_false, or_self] at hs
    subst hs; decide⟩
  obtain ⟨D1, M1, hD1, hM1, e1⟩ := right_inner l acc i hi c0 c1 (l[i].f0.f0) _ [0, 0] h0 rfl 0 (by omega) (k + 3)
  obtain ⟨D2, M2, hD2, hM2, e2⟩ := right_inner l acc i hi c0 c1 (l[i].f0.f0) D1 M1 hD1 hM1 1 (by omega) (k + 1)
  refine ⟨⟨⟨l[i].f0.f0, D2, M2⟩, Int.tmod l[i].f1 1125899906842624⟩, ⟨Int.tmod_nonneg _ hn, Int.tmod_lt_of_pos _ (by omega), hD2.1, hM2, hD2.2⟩, ?_⟩
  rw [show k + 7 = (k + 6) + 1 from rfl, gristmilllaw06_right.l0, if_pos hi', decide_eq_true (show (i : Int) < 40 by omega), show k + 6 = (k + 5) + 1 from rfl, gristmilllaw06_right.j1, if_pos rfl, if_pos hi0, if_pos hi', hr]
  have e1' : gristmilllaw06_right.l1 (k + 5) l acc (i : Int) 0 c0 c1 2 2 (l[i].f0.f0) [(⟨#[]⟩ : ByteArray), (⟨#[]⟩ : ByteArray)] [0, 0] = gristmilllaw06_right.l1 (k + 3) l acc (i : Int) ((1 : Nat) : Int) c0 c1 2 2 (l[i].f0.f0) D1 M1 := e1
  have e2' : gristmilllaw06_right.l1 (k + 3) l acc (i : Int) ((1 : Nat) : Int) c0 c1 2 2 (l[i].f0.f0) D1 M1 = gristmilllaw06_right.l1 (k + 1) l acc (i : Int) ((2 : Nat) : Int) c0 c1 2 2 (l[i].f0.f0) D2 M2 := e2
  rw [e1', e2', gristmilllaw06_right.l1, if_neg (by omega), if_pos hi0, if_pos hi', if_pos (by omega), hr, e]
theorem right_loop (l : List S44) (hn : ∀ m ∈ l, 0 ≤ m.f1) (c0 c1 : Int) : ∀ (n i : Nat), i + n = min l.length 40 → ∀ (acc : List S44) (k : Nat), acc.length = i → FitL acc →
    ∃ r, FitL r ∧ r.length ≤ 40 ∧ gristmilllaw06_right.l0 (k + 7 * n + 2) l acc (i : Int) c0 c1 2 2 = some (2, 2, c0, c1, r) := by
  intro n
  induction n with
  | zero =>
    intro i hi acc k ha hf
    refine ⟨acc, hf, by omega, ?_⟩
    rw [show k + 7 * 0 + 2 = (k + 1) + 1 from rfl, gristmilllaw06_right.l0]
    by_cases h : (i : Int) < (l.length : Int)
    · rw [if_pos h, decide_eq_false (show ¬ (i : Int) < 40 by omega), gristmilllaw06_right.j1, if_neg (by simp)]
    · rw [if_neg h, gristmilllaw06_right.j1, if_neg (by simp)]
  | succ n ih =>
    intro i hi acc k ha hf
    have hil : i < l.length := by omega
    obtain ⟨m, hm, e⟩ := right_one l acc i hil (by omega) (hn _ (List.getElem_mem hil)) (by omega) c0 c1 (k + 7 * n + 2)
    rw [show k + 7 * (n + 1) + 2 = k + 7 * n + 2 + 7 by omega, e]
    exact ih (i + 1) (by omega) (acc ++ [m]) k (by simp [ha]) (fun x hx => by
      rcases List.mem_append.1 hx with h | h
      · exact hf x h
      · rw [List.mem_singleton.1 h]; exact hm)
theorem right_is (a0 a1 : Int) (h0 : (Lit.int .i64 a0).wf = true) (h1 : (Lit.int .i64 a1).wf = true) : ∃ c0 c1 : Int, (1 ≤ c0 ∧ c0 ≤ 5) ∧ (0 ≤ c1 ∧ c1 < 2) ∧
    ∀ (l : List S44), (∀ m ∈ l, 0 ≤ m.f1) → ∃ r, FitL r ∧ r.length ≤ 40 ∧ ∀ k, 300 ≤ k → gristmilllaw06_right.f k a0 a1 l = some (2, 2, c0, c1, r) := by
  obtain ⟨m0, e0, hm0⟩ := abs_is a0 h0
  obtain ⟨m1, e1, hm1⟩ := abs_is a1 h1
  have h5 : 0 ≤ Int.tmod m0 5 ∧ Int.tmod m0 5 < 5 := ⟨Int.tmod_nonneg _ hm0, Int.tmod_lt_of_pos _ (by omega)⟩
  have h2 : 0 ≤ Int.tmod m1 2 ∧ Int.tmod m1 2 < 2 := ⟨Int.tmod_nonneg _ hm1, Int.tmod_lt_of_pos _ (by omega)⟩
  refine ⟨wrap64 (1 + Int.tmod m0 5), Int.tmod m1 2, by unfold wrap64; omega, h2, fun l hl => ?_⟩
  obtain ⟨r, h3, h4, _⟩ := right_loop l hl (wrap64 (1 + Int.tmod m0 5)) (Int.tmod m1 2) (min l.length 40) 0 (by omega) [] 0 rfl (fun x hx => by cases hx)
  refine ⟨r, h3, h4, fun k hk => ?_⟩
  have hb : gristmilllaw06_right.f (0 + 7 * (min l.length 40) + 2) a0 a1 l = some (2, 2, wrap64 (1 + Int.tmod m0 5), Int.tmod m1 2, r) := by
    unfold gristmilllaw06_right.f
    rw [e0, e1]
    assumption
  exact up_ (fun k => gristmilllaw06_right.f k a0 a1 l) (fun k => gristmilllaw06_right.mono a0 a1 l k) hb (by omega)
end Go.Proofs.Ytmjhgeinhhhodaa.Ext
end

section
namespace Go.Proofs.Ytmjhgeinhhhodaa.Ext
set_option linter.unusedVariables false
set_option linter.unusedSimpArgs false
open Go.RowKit Go.Proofs.YtmjhgeinhhhodaaW.PrintWords
open Go.ChangeShapes Go.WideShapes Go.ChangeAt Go.Deep
def Opens (P : Program) {α : Type} (d : Kd α) (t : TypeId) (Q : α → Prop) : Prop :=
  ∀ (H : Type) (enc : TypeId × Value → H) (W : World) (base : Nat) (held : Bool) (fuel : Nat) (cs : List Value) (x : DataW H × List MemPlace),
    DataW.trod enc P W base (fun _ => true) held fuel t cs = some x → (∀ n ∈ x.1.weights P t, n ≤ reachBytes) → ∃ v, d.K W v cs ∧ Q v
def OpensF (P : Program) {α : Type} (d : Kd α) (o : Nat) (fs : List Field) (Q : α → Prop) : Prop :=
  ∀ (H : Type) (enc : TypeId × Value → H) (W : World) (base : Nat) (held : Bool) (n : Nat) (cs : List Value) (xs : List (DataW H × List MemPlace)),
    cs.length = o + d.sz → xs.length = fs.length →
    (∀ (i : Nat) (f : Field), fs[i]? = some f → DataW.trod enc P W base (fun _ => true) held n f.type ((cs.drop f.offset).take (P.cellsOf f.type)) = xs[i]?) →
    (∀ n ∈ DataW.weightsEach P (fs.map (·.type)) (xs.map (·.1)), n ≤ reachBytes) → ∃ v, d.K W v (cs.drop o) ∧ Q v
theorem opens_int {P : Program} {t : TypeId} {k : IntKind} (ht : P.underlying t = some (.int k)) : Opens P (Kd.int k) t (fun n => (Lit.int k n).wf = true) := by
  intro H enc W base held fuel cs x h _
  obtain ⟨n, rfl, _, hw⟩ := DataW.trod_int ht h
  exact ⟨n, rfl, hw⟩
theorem opens_string {P : Program} {t : TypeId} (ht : P.underlying t = some .string) : Opens P Kd.string t (fun s => s.size ≤ reachBytes) := by
  intro H enc W base held fuel cs x h hw
  obtain ⟨s, rfl, rfl, _⟩ := DataW.trod_string ht h
  refine ⟨s, rfl, ?_⟩
  have := hw s.data.toList.length (by simp [DataW.weights])
  simpa using this
theorem weights_all {H : Type} {P : Program} {e : TypeId} {d : DataW H} : ∀ {ds : List (DataW H)}, d ∈ ds → ∀ n ∈ d.weights P e, n ∈ DataW.weightsAll P e ds
  | [], h, _, _ => by cases h
  | d0 :: ds, h, n, hn => by
    simp only [DataW.weightsAll, List.mem_append]
    rcases List.mem_cons.1 h with rfl | h
    · exact .inl hn
    · exact .inr (weights_all h n hn)
theorem opens_slice {P : Program} {α : Type} {d : Kd α} {t e : TypeId} {ek : Nat} {Q : α → Prop} (ht : P.underlying t = some (.slice e)) (hd : Opens P d e Q) (hc : P.cellsOf e = d.sz) :
    Opens P (Kd.slice ek d) t (fun l => (∀ x ∈ l, Q x) ∧ l.length * P.bytesOf e ≤ reachBytes) := by
  intro H enc W base held fuel cs x h hw
  rcases open_slice ht h with ⟨rfl, _⟩ | ⟨a, len, cap, m, n, D, Pl, rfl, hb, hl, hm, hmm, rfl, hx⟩
  · exact ⟨[], ⟨none, 0, rfl, Nat.le_refl _, Kd.C_nil _ _⟩, by simp, by simp⟩
  have hml : len ≤ m := by rw [hmm]; simpa using hl
  have hat : ∀ i, i < len → ∃ v cs', d.K W v cs' ∧ Q v ∧ W.cells? base (a.add (i * P.cellsOf e)) (P.cellsOf e) = some cs' := by
    intro i hi
    obtain ⟨cs', h1, h2⟩ := hx i (Nat.lt_of_lt_of_le hi hml)
    obtain ⟨v, hv, hq⟩ := hd H enc W base held n cs' _ h2 (fun n hn => hw n (by
      simp only [DataW.weights, ht, List.mem_cons, List.mem_append]
      exact .inr (.inl (weights_all (List.mem_map.2 ⟨i, by simpa using hi, rfl⟩) n hn))))
    exact ⟨v, cs', hv, hq, h1⟩
  have hl2 : ∃ l : List α, l.length = len ∧ ∀ i v, l[i]? = some v → ∃ cs', d.K W v cs' ∧ Q v ∧ W.cells? base (a.add (i * P.cellsOf e)) (P.cellsOf e) = some cs' := by
    clear hw hx hmm hml hm hl h
    induction len with
    | zero => exact ⟨[], rfl, fun i v h => by simp at h⟩
    | succ k ih =>
      obtain ⟨l, hl, hr⟩ := ih (fun i hi => hat i (by omega))
      obtain ⟨v, cs', h1, h2, h3⟩ := hat k (by omega)
      refine ⟨l ++ [v], by simp [hl], fun i u hu => ?_⟩
      by_cases hi : i < l.length
      · rw [List.getElem?_append_left hi] at hu
        exact hr i u hu
      · rw [List.getElem?_append_right (by omega)] at hu
        have hi0 : i - l.length = 0 := by
          rcases hz : i - l.length with _ | q
          · rfl
          · rw [hz] at hu; simp at hu
        rw [hi0] at hu
        simp only [List.getElem?_cons_zero, Option.some.injEq] at hu
        subst hu
        have : i = k := by omega
        subst this
        exact ⟨cs', h1, h2, h3⟩
  obtain ⟨l, rfl, hr⟩ := hl2
  refine ⟨l, ⟨some a, cap, rfl, hl, rfl, Nat.le_trans hl (by simpa [maxLen] using hm), fun _ => ⟨a, rfl, fun j p hj => ?_⟩⟩, ?_, ?_⟩
  · obtain ⟨cs', h1, _, h3⟩ := hr j p hj
    obtain ⟨_, hlen, hcell⟩ := World.cells?_some h3
    refine ⟨cs', d.K_len h1, h1, fun i u hu => ?_⟩
    have hi : i < P.cellsOf e := by have := (List.getElem?_eq_some_iff.1 hu).1; omega
    have := hcell i hi
    rw [Go.Deep.add_add, hu, hc] at this
    exact this
  · intro y hy
    obtain ⟨i, hi⟩ := List.mem_iff_getElem?.1 hy
    obtain ⟨_, _, h2, _⟩ := hr i y hi
    exact h2
  · have := hw (((List.range l.length).map D).length + ((List.range (m - l.length)).map fun j => D (l.length + j)).length |> (· * P.bytesOf e)) (by
      simp [DataW.weights, ht])
    simp only [List.length_map, List.length_range] at this
    exact Nat.le_trans (Nat.mul_le_mul_right _ (Nat.le_add_right _ _)) this
theorem opensF_one {P : Program} {α : Type} {d : Kd α} {o : Nat} {f : Field} {Q : α → Prop} (hd : Opens P d f.type Q) (ho : f.offset = o) (hc : P.cellsOf f.type = d.sz) : OpensF P d o [f] Q := by
  intro H enc W base held n cs xs hl hx ht hw
  match xs, hx with
  | [x0], _ =>
    have h0 := ht 0 f rfl
    rw [ho, hc, List.take_of_length_le (by rw [List.length_drop]; omega)] at h0
    exact hd H enc W base held n _ x0 h0 (fun n hn => hw n (by simpa [DataW.weightsEach] using hn))
theorem opensF_cons {P : Program} {α β : Type} {d : Kd α} {d1 : Kd β} {o : Nat} {f : Field} {fs : List Field} {Q : α → Prop} {Q1 : β → Prop} (hd : Opens P d f.type Q) (ho : f.offset = o) (hc : P.cellsOf f.type = d.sz)
    (hr : OpensF P d1 (o + d.sz) fs Q1) : OpensF P (Kd.pair d d1) o (f :: fs) (fun x => Q x.1 ∧ Q1 x.2) := by
  intro H enc W base held n cs xs hl hx ht hw
  match xs, hx with
  | x0 :: xs, hx =>
    have h0 := ht 0 f rfl
    rw [ho, hc] at h0
    have hlp : cs.length = o + (d.sz + d1.sz) := hl
    obtain ⟨v, hv, hq⟩ := hd H enc W base held n _ x0 h0 (fun n hn => hw n (by
      simp only [List.map_cons, DataW.weightsEach, List.mem_append]; exact .inl hn))
    obtain ⟨v1, hv1, hq1⟩ := hr H enc W base held n cs xs (by omega) (by simpa using hx) (fun i g hg => by simpa using ht (i + 1) g (by simpa using hg)) (fun n hn => hw n (by
      simp only [List.map_cons, DataW.weightsEach, List.mem_append]; exact .inr hn))
    refine ⟨(v, v1), ⟨_, _, ?_, hv, hv1⟩, hq, hq1⟩
    rw [← List.drop_drop, List.take_append_drop]
theorem opens_struct {P : Program} {α : Type} {d : Kd α} {t : TypeId} {fs : Array Field} {Q : α → Prop} (ht : P.underlying t = some (.struct fs)) (hc : P.cellsOf t = d.sz) (hd : OpensF P d 0 fs.toList Q) : Opens P d t Q := by
  intro H enc W base held fuel cs x h hw
  obtain ⟨xs, n, _, rfl, hl, hlen, hf⟩ := DataW.trod_struct ht h
  have := hd H enc W base held n cs xs (by omega) (by simpa using hlen) (fun i f hi => hf i f (by simpa using hi)) (fun n hn => hw n (by simpa [DataW.weights, ht] using hn))
  simpa using this
theorem opens_iso {P : Program} {α β : Type} {d : Kd α} {t : TypeId} {Q : α → Prop} (f : β → α) (g : α → β) (hfg : ∀ a, f (g a) = a) (h : Opens P d t Q) : Opens P (Kd.iso d f) t (fun x => Q (f x)) := by
  intro H enc W base held fuel cs x hx hw
  obtain ⟨v, hv, hq⟩ := h H enc W base held fuel cs x hx hw
  refine ⟨g v, ?_, ?_⟩
  · show d.K W (f (g v)) cs
    rw [hfg]; exact hv
  · show Q (f (g v))
    rw [hfg]; exact hq
theorem opens_mono {P : Program} {α : Type} {d : Kd α} {t : TypeId} {Q Q' : α → Prop} (h : Opens P d t Q) (hq : ∀ a, Q a → Q' a) : Opens P d t Q' := by
  intro H enc W base held fuel cs x hx hw
  obtain ⟨v, hv, h1⟩ := h H enc W base held fuel cs x hx hw
  exact ⟨v, hv, hq v h1⟩
theorem opened {P : Program} {α : Type} {d : Kd α} {t : TypeId} {Q : α → Prop} (h : Opens P d t Q) {H : Type} {enc : TypeId × Value → H} {W : World} {base : Nat} {held : Bool} {v : Value} {x : DataW H} {p : List MemPlace}
    (ht : DataW.Trod enc P W base (fun _ => true) held t v x p) {ts : List TypeId} {ds : List (DataW H)} (hsz : (DataW.weightsEach P ts ds).all (· ≤ reachBytes) = true) (j : Nat) (hj : ts[j]? = some t) (hd : ds[j]? = some x) :
    ∃ a, d.K W a v.cells.toList ∧ Q a := by
  obtain ⟨fuel, hf⟩ := ht
  refine h H enc W base held fuel _ _ hf (fun n hn => ?_)
  have := List.all_eq_true.1 hsz n (DataW.weights_mem_each hj hd n hn)
  simpa using this
theorem open_struct {P : Program} {α : Type} {d : Kd α} {t : TypeId} {Q : α → Prop} (O : Opens P d t Q) {fs : Array Field} (hs : P.underlying t = some (.struct fs)) {H : Type} {enc : TypeId × Value → H} {W : World} {base b0 : Nat} {held : Bool} {r : Reach} {v : Value}
    {x : DataW H} {p : List MemPlace} (hv : Value.okWide P W r b0 t v) (ht : DataW.Trod enc P W base (fun _ => true) held t v x p) {ts : List TypeId} {ds : List (DataW H)} (hsz : (DataW.weightsEach P ts ds).all (· ≤ reachBytes) = true)
    (j : Nat) (hj : ts[j]? = some t) (hd : ds[j]? = some x) : ∃ a cs, v = .agg (List.toArray cs) ∧ d.K W a cs ∧ Q a := by
  obtain ⟨a, hK, hQ⟩ := opened O ht hsz j hj hd
  obtain ⟨cs, rfl, _⟩ := okWide_struct hs hv
  exact ⟨a, cs.toList, by rw [Array.toArray_toList], hK, hQ⟩
theorem open_row {P : Program} {α : Type} {d : Kd α} {t e : TypeId} {Q : α → Prop} (O : Opens P d e Q) (hs : P.underlying t = some (.slice e)) (hc : P.cellsOf e = d.sz) {H : Type} {enc : TypeId × Value → H} {W : World} {base b0 : Nat} {held : Bool} {r : Reach} {v : Value}
    {x : DataW H} {p : List MemPlace} (hv : Value.okWide P W r b0 t v) (ht : DataW.Trod enc P W base (fun _ => true) held t v x p) {ts : List TypeId} {ds : List (DataW H)} (hsz : (DataW.weightsEach P ts ds).all (· ≤ reachBytes) = true)
    (j : Nat) (hj : ts[j]? = some t) (hd : ds[j]? = some x) : ∃ A l c, v = .slice A l.length c ∧ l.length ≤ c ∧ d.C W A l.length l ∧ (∀ y ∈ l, Q y) ∧ l.length * P.bytesOf e ≤ reachBytes := by
  obtain ⟨l, hK, hQ, hb⟩ := opened (opens_slice (ek := 0) hs O hc) ht hsz j hj hd
  obtain ⟨A, len, cap, rfl⟩ := okWide_slice hs hv
  obtain ⟨A', c, hcs, hl, hC⟩ := hK
  have hcs' : [Value.slice A len cap] = [Value.slice A' l.length c] := hcs
  injection hcs' with h1 _
  injection h1 with h2 h3 h4
  subst h2; subst h3; subst h4
  exact ⟨A, l, cap, rfl, hl, hC, hQ, hb⟩
end Go.Proofs.Ytmjhgeinhhhodaa.Ext
end

section
namespace Go.Proofs.Ytmjhgeinhhhodaa.Ext
set_option linter.unusedVariables false
open Go.RowKit Go.Proofs.YtmjhgeinhhhodaaW.PrintWords Go.Proofs.Ytmjhgeinhhhodaa.P
def kTwo : Kd (Int × Int) := Kd.pair (Kd.int .i64) (Kd.int .i64)
theorem opens_agg : Opens Try.prog kTwo 23 (fun x => (Lit.int .i64 x.1).wf = true ∧ (Lit.int .i64 x.2).wf = true) := by
  refine opens_struct Try.underlying23 (by kernel_rfl) ?_
  show OpensF _ (Kd.pair _ _) 0 [_, _] _
  exact (opensF_cons (opens_int (k := .i64) (by kernel_rfl)) (by rfl) (by kernel_rfl) (opensF_one (opens_int (k := .i64) (by kernel_rfl)) (by rfl) (by kernel_rfl)))
theorem two_open {W : World} {x : Int × Int} {cs : List Value} (h : kTwo.K W x cs) : cs = [.int .i64 x.1, .int .i64 x.2] := by
  obtain ⟨_, _, rfl, rfl, rfl⟩ := h; rfl
end Go.Proofs.Ytmjhgeinhhhodaa.Ext
end

section
namespace Go.Proofs.Ytmjhgeinhhhodaa.Ext
set_option linter.unusedVariables false
open Go.RowKit Go.Proofs.YtmjhgeinhhhodaaW.PrintWords Go.Proofs.Ytmjhgeinhhhodaa.P
theorem u64_pos {n : Int} (h : (Lit.int .u64 n).wf = true) : 0 ≤ n := by
  simp only [Lit.wf, Bool.and_eq_true, decide_eq_true_eq] at h
  exact h.1
theorem opens_fact : Opens Try.prog k42 42 (fun _ => True) := by
  refine opens_mono (opens_iso (fun x : S42 => (x.f0, x.f1, x.f2)) (fun p => ⟨p.1, p.2.1, p.2.2⟩) (fun _ => rfl) (Q := fun x => (Lit.int .i64 x.1).wf = true ∧ ((∀ s ∈ x.2.1, s.size ≤ reachBytes) ∧ x.2.1.length * Try.prog.bytesOf 9 ≤ reachBytes) ∧ ((∀ s ∈ x.2.2, (Lit.int .i64 s).wf = true) ∧ x.2.2.length * Try.prog.bytesOf 2 ≤ reachBytes)) ?_) (fun _ _ => trivial)
  refine Ext.opens_struct Try.underlying42 (by kernel_rfl) ?_
  show OpensF _ (Kd.pair _ (Kd.pair _ _)) 0 [_, _, _] _
  exact (opensF_cons (opens_int (k := .i64) (by kernel_rfl)) (by rfl) (by kernel_rfl)
    (opensF_cons (opens_slice (by kernel_rfl) (opens_string (t := 9) (by kernel_rfl)) (by kernel_rfl)) (by rfl) (by kernel_rfl)
      (opensF_one (opens_slice (by kernel_rfl) (opens_int (t := 2) (k := .i64) (by kernel_rfl)) (by kernel_rfl)) (by rfl) (by kernel_rfl))))
theorem opens_many : Opens Try.prog k44 44 (fun x => 0 ≤ x.f1) := by
  refine opens_mono (opens_iso (fun x : S44 => (x.f0, x.f1)) (fun p => ⟨p.1, p.2⟩) (fun _ => rfl) (Q := fun x => True ∧ (Lit.int .u64 x.2).wf = true) ?_) (fun x h => u64_pos h.2)
  refine Ext.opens_struct Try.underlying44 (by kernel_rfl) ?_
  show OpensF _ (Kd.pair _ _) 0 [_, _] _
  refine opensF_cons (Q := fun _ => True) (Q1 := fun n => (Lit.int .u64 n).wf = true) ?_ ?_ ?_ ?_
  · exact opens_fact
  · rfl
  · kernel_rfl
  · refine opensF_one ?_ ?_ ?_
    · exact opens_int (k := .u64) (by kernel_rfl)
    · rfl
    · kernel_rfl
end Go.Proofs.Ytmjhgeinhhhodaa.Ext
end

section
namespace Go.Proofs.Ytmjhgeinhhhodaa.aggMay
set_option linter.unusedVariables false
set_option linter.unusedSimpArgs false
open Go.RowKit Go.Proofs.YtmjhgeinhhhodaaW.PrintWords Go.Proofs.Ytmjhgeinhhhodaa.Lib
open Go.ChangeShapes Go.WideShapes Go.ChangeAt
open Go.ChangeMaps (open_string shut_string)
theorem own : ownKnob Try.prog.godebug = none := by kernel_rfl
theorem laidOut : laidOutB Try.prog = true := by kernel_rfl
open Go.Proofs.Ytmjhgeinhhhodaa.P Go.Proofs.Ytmjhgeinhhhodaa.Ext Go.Proofs.Ytmjhgeinhhhodaa.Txt
theorem tx_txts (t : List ByteArray) (i : Nat) (hi : i < t.length) : tx t i = (txts t).getD i [] := by
  unfold tx txts
  simp [hi]
theorem rises_of {t : List ByteArray} (h : builtB t = t) (i : Nat) (h0 : 0 < i) (hi : i < t.length) : tx t (i - 1) < tx t i := by
  have e : txts t = Txt.built (txts t) := by
    conv => lhs; rw [← h]
    unfold builtB
    rw [txts_strs]
  have hr := built_rises (txts t)
  rw [← e] at hr
  rw [tx_txts t i hi, tx_txts t (i - 1) (by omega)]
  exact rises_at hr (i - 1) i (by omega) (by rw [txts_length]; exact hi)
theorem may_true {c c1 b : Int} {p : Pt} (hc : 1 ≤ c ∧ c ≤ 5) (h1 : 0 ≤ c1 ∧ c1 < 2) (hp : Fit c b p) (ht : p.t.length ≤ 1000) (k : Nat) (hk : 1001 ≤ k) : agg_May.f k 2 2 c c1 p.n p.v p.t = some true := by
  obtain ⟨r, h2, h3⟩ := may_is 2 2 c c1 p.n p.v p.t (by omega) hp.lo (k - p.t.length - 1)
  rw [show k - p.t.length - 1 + p.t.length + 1 = k by omega] at h2 h3
  rw [h2]
  have hw : wrongB 2 2 c c1 = false := by
    unfold wrongB
    rw [if_neg (by omega)]
    by_cases hc1 : c = 1
    · rw [if_pos hc1]
    · rw [if_neg hc1]
      refine decide_eq_false ?_
      split <;> omega
  unfold gristmillref06_May.f at h3
  rw [show k = (k - 1) + 1 by omega, fine_is, hw, show (k - 1) + 1 = k by omega] at h3
  simp only [Option.bind_some, Bool.not_false, if_true] at h3
  by_cases h5 : c = 5
  · have hm : gristmillref06_May.l0 k 0 p.n p.v p.t = some (decide (AllGood p.t 0) && mayEnd p.n p.v p.t) := by
      have := may_loop p.n p.v p.t (by omega) p.t.length 0 (by omega) (k - p.t.length - 1)
      rw [show k - p.t.length - 1 + p.t.length + 1 = k by omega] at this
      exact this
    rw [if_pos h5, hm] at h3
    rw [← h3]
    congr 1
    have hg : AllGood p.t 0 := fun i _ hi => ⟨by
      have := hp.sz p.t[i] (List.getElem_mem hi)
      unfold tx
      rw [List.getD_eq_getElem?_getD, List.getElem?_eq_getElem hi]
      exact this, fun h0 => rises_of hp.bt i h0 hi⟩
    rw [decide_eq_true hg, Bool.true_and]
    unfold mayEnd
    have hv : p.v = 0 := hp.vz (.inr h5)
    by_cases hz : p.n = 0
    · rw [if_pos hz, if_pos hv, hp.zt hz]; rfl
    · have hne := hp.tn h5 hz
      have hl : 0 < p.t.length := List.length_pos_iff.2 hne
      have hle := hp.len
      rw [if_neg hz, if_pos hv, if_pos (by omega), u64_small (by omega) (by omega)]
      exact decide_eq_true hle
  · have ht0 := hp.tx h5
    rw [if_neg h5, ht0, if_pos (by rfl)] at h3
    rw [← h3]
    by_cases hz : p.n = 0
    · rw [if_pos hz, hp.zv hz]; rfl
    · rw [if_neg hz]
      by_cases hc1 : c = 1
      · rw [if_pos hc1, hp.vz (.inl hc1)]; rfl
      · rw [if_neg hc1]
theorem law_true (a0 a1 : Int) (l : List S44) (h0 : (Lit.int .i64 a0).wf = true) (h1 : (Lit.int .i64 a1).wf = true) (hl : ∀ m ∈ l, 0 ≤ m.f1) : gristmilllaw06_AggMay.f 2000 a0 a1 l = some true := by
  obtain ⟨c0, c1, hc0, hc1, hr⟩ := right_is a0 a1 h0 h1
  obtain ⟨r, hf, hlen, e⟩ := hr l hl
  have hsp := sp_fit hc0 hc1 r hf (by omega)
  have hst := sp_t_len hc0 hc1 r hf (by omega)
  unfold gristmilllaw06_AggMay.f
  rw [show gristmilllaw06_awake.f = some true from rfl, e 2000 (by omega)]
  simp only [Option.bind_some, if_true]
  rw [of_is hc0 hc1 r hf (by omega) 2000 (by omega)]
  simp only [Option.bind_some]
  rw [may_true hc0 hc1 hsp (by omega) 2000 (by omega)]
  unfold agg_Start.f
  simp only [Option.bind_some, if_true]
  have hz := may_true hc0 hc1 (fit_z c0 0 (Int.le_refl _)) (Nat.zero_le _) 2000 (by omega)
  have hz' : agg_May.f 2000 2 2 c0 c1 0 0 [] = some true := hz
  rw [hz']
  rfl
set_option maxRecDepth 100000 in
theorem lifted (os : Os) (started : os.Started) (H : Type) (enc : TypeId × Value → H) :
    ReturnsInHanded {} Try.checked os 9 .any (Rows.aggMaySpec.pre6 enc Try.prog Try.f9 Rows.aggMayRow.domain false) (Rows.aggMaySpec.post enc Try.prog Try.f9 false true false false) := by
  refine returnsInHanded_of_change_sized (C := Try.checked) own started (by kernel_rfl) Try.func9
    (ChangeSpec.witness6 (enc := enc) (C := Try.checked) false ⟨#[], #[.agg #[.int .i64 0, .int .i64 0], .slice none 0 0], []⟩ 8 (by kernel_rfl) (by kernel_rfl) (by kernel_rfl) (by kernel_rfl)) ?_
  intro W base args ds gs before hval0 hW hcnd hsz _
  have hval : ∀ (j : Nat) t v, Try.f9.params[j]? = some t → args[j]? = some v → Value.okWide Try.prog W .any base t v := hval0
  have hW' := hW
  obtain ⟨p, q, hA0, hV, rfl, hfz, hnd⟩ := hW
  have hA : DataW.TrodAll enc Try.prog W 0 (fun _ => true) true Try.f9.params.toList args.toList ds p := hA0
  rw [Try.params9] at hA hval
  obtain ⟨v0, vs0, d0, ds0, p0, q0, hargs, rfl, rfl, h0, r0⟩ := trodAll_cons hA
  obtain ⟨v1, vs1, d1, ds1, p1, q1, rfl, rfl, rfl, h1, r1⟩ := trodAll_cons r0
  obtain ⟨rfl, rfl, rfl⟩ := trodAll_nil r1
  obtain rfl : args = #[v0, v1] := by cases args; simp_all
  obtain ⟨rfl, rfl⟩ := trodVars_none hV
  have k0 := h0
  have lt0 : ∀ x ∈ p0, x.block < W.heap.size := by obtain ⟨m, hm⟩ := k0; exact DataW.trod_lt m _ _ _ hm
  obtain ⟨a0, cs0, rfl, hK0, hQ0⟩ := open_struct opens_agg Try.underlying23 (hval 0 _ v0 rfl rfl) h0 hsz 0 rfl rfl
  obtain rfl := two_open hK0
  have k1 := h1
  have lt1 : ∀ x ∈ p1, x.block < W.heap.size := by obtain ⟨m, hm⟩ := k1; exact DataW.trod_lt m _ _ _ hm
  obtain ⟨A1, l1, c1, rfl, hl1, hC1, hQ1, hb1⟩ := open_row opens_many Try.underlying24 (by kernel_rfl) (hval 1 _ v1 rfl rfl) h1 hsz 1 rfl rfl
  clear hA0 hval0
  refine (gristmilllaw06_AggMay.calls 2000 a0.1 a0.2 A1 c1 l1 true W hC1 hl1 (law_true _ _ _ hQ0.1 hQ0.2 (fun m hm => (hQ1 m hm)))).mono fun e W' ⟨he, bel⟩ => ?_
  subst he
  exact ⟨_, rfl, _, _, _, [], _, [], hW', trodAll_mk1 (shut_bool Try.underlying4 _), (trodAll_cons_mk (Below.trod laidOut (by kernel_rfl) (of_decide_eq_true (by kernel_rfl)) k0 bel lt0) (trodAll_cons_mk (Below.trod laidOut (by kernel_rfl) (of_decide_eq_true (by kernel_rfl)) k1 bel lt1) trodAll_mk0)), rfl, bel.frame _, fun h => by cases h⟩
theorem proved : Rows.AggMaySaid :=
  OpenClaim.holds_of_wide 9 Try.f9 rfl rfl rfl rfl rfl rfl rfl ⟨rfl, rfl, rfl, rfl, rfl⟩ rfl rfl rfl rfl rfl (by kernel_rfl) Try.func9 (by kernel_rfl)
    (of_decide_eq_true (by kernel_rfl)) (by unfold Func.isWrapper; first | (rw [if_pos (by decide +kernel)]; kernel_rfl) | (rw [if_neg (by decide +kernel)]; exact ⟨rfl, rfl⟩))
    (fun os started H enc _ => lifted os started H enc)
end Go.Proofs.Ytmjhgeinhhhodaa.aggMay
end
