/- Texts of this repo, joined, without what this claim does not use: P16, Sp, Of, Put6, Of6, OpenK, OpenMany, LawAggOwn. -/
import Derived.Test.YtmjhgeinhhhodaaDAggOwn1
import Derived.Test.YtmjhgeinhhhodaaDAggOwn2
import Derived.Test.YtmjhgeinhhhodaaDAggOwn3
import Derived.Test.YtmjhgeinhhhodaaDAggOwn4
import Derived.Test.YtmjhgeinhhhodaaDAggOwn5
import Derived.SizedLaws
import Derived.Deep.Slices
import Derived.Test.YtmjhgeinhhhodaaRows
import Derived.ProofKit
import Derived.OpenShut
section
namespace Go.Proofs.Ytmjhgeinhhhodaa.P
open Go.RowKit Go.Proofs.YtmjhgeinhhhodaaW.PrintWords Go.Proofs.YtmjhgeinhhhodaaW.PrintLast Go.Proofs.YtmjhgeinhhhodaaW.PrintMore
attribute [local go_sem] max2_int min2_int max_two min_two max_three min_three max_four min_four   -- for this text's walks alone
set_option linter.unusedVariables false
set_option linter.unusedSimpArgs false
open Go.Proofs.Ytmjhgeinhhhodaa.Ext (q1_ q2_ q3_ bk_ bw_ sz_ ne_ bx_)
attribute [local go_sem high] Go.Proofs.Ytmjhgeinhhhodaa.Ext.gtr_str Go.Proofs.Ytmjhgeinhhhodaa.Ext.leq_str Go.Proofs.Ytmjhgeinhhhodaa.Ext.geq_str
mutual
def gristmilllaw06_AggOwn.l0 : Nat → List (S44) → Int → Int → Int → Int → Int → List ByteArray → Int → Int → List ByteArray → Int → Int → List ByteArray → Option (Bool)
 | 0, _, _, _, _, _, _, _, _, _, _, _, _, _ => none
 | k + 1, x6, x10, x412000, x412001, x418000, x418001, x418002, x429000, x429001, x429002, x438000, x438001, x438002 => if x10 < (x429002.length : Int) then (if 0 ≤ x10 then (gristmilllaw06_AggOwn.l0 k x6 (wrap64 (x10 + 1)) x412000 x412001 x418000 x418001 x418002 x429000 x429001 (x429002.set (x10 : Int).toNat (⟨#[115, 112, 111, 105, 108, 116]⟩ : ByteArray)) x438000 x438001 x438002) else (none)) else (gristmilllaw06_AggOwn.l1 k x6 0 x412000 x412001 x418000 x418001 x418002 x438000 x438001 x438002)
def gristmilllaw06_AggOwn.l1 : Nat → List (S44) → Int → Int → Int → Int → Int → List ByteArray → Int → Int → List ByteArray → Option (Bool)
 | 0, _, _, _, _, _, _, _, _, _, _ => none
 | k + 1, x6, x11, x412000, x412001, x418000, x418001, x418002, x438000, x438001, x438002 => if x11 < (x438002.length : Int) then (if 0 ≤ x11 then (gristmilllaw06_AggOwn.l1 k x6 (wrap64 (x11 + 1)) x412000 x412001 x418000 x418001 x418002 x438000 x438001 (x438002.set (x11 : Int).toNat (⟨#[115, 112, 111, 105, 108, 116]⟩ : ByteArray))) else (none)) else ((gristmillref06_Of.f k x412000 x412001 x6).bind fun bt440 => ((gristmillref06_Same.f k x418000 x418001 x418002 bt440.1 bt440.2.1 bt440.2.2).bind fun t445 => (some t445)))
end
def gristmilllaw06_AggOwn.f (k : Nat) (l0 : List (S44)) : Option (Bool) := (gristmilllaw06_awake.f).bind fun t402 => (if t402 = true then ((gristmilllaw06_right.f k 4 0 l0).bind fun bt403 => ((gristmilllaw06_of.f k bt403.2.2.1 bt403.2.2.2.1 bt403.2.2.2.2).bind fun bt412 => ((agg_Start.f bt403.2.2.1 bt403.2.2.2.1).bind fun bt418 => ((agg_Merge.f bt403.2.2.1 bt403.2.2.2.1 bt412.1 bt412.2.1 bt412.2.2 bt418.1 bt418.2.1 bt418.2.2).bind fun bt423 => ((agg_Add.f bt403.2.2.1 bt403.2.2.2.1 bt412.1 bt412.2.1 bt412.2.2 0 (([(⟨#[97]⟩ : ByteArray), (⟨#[98]⟩ : ByteArray)] : List ByteArray)) ([] : List Int) 0).bind fun bt432 => (gristmilllaw06_AggOwn.l0 k bt403.2.2.2.2 0 bt403.2.2.1 bt403.2.2.2.1 bt412.1 bt412.2.1 bt412.2.2 bt423.1 bt423.2.1 bt423.2.2 bt432.1 bt432.2.1 bt432.2.2)))))) else (some false))
set_option maxHeartbeats 8000000 in
set_option maxRecDepth 100000 in
theorem gristmilllaw06_AggOwn.calls (k : Nat) (A0 : Option Addr) (c0 : Nat) (l0 : List (S44)) (r : Bool) (w : World) (hr0 : Kd.C k44 w A0 l0.length l0) (hc0 : l0.length ≤ c0) (h : gristmilllaw06_AggOwn.f k l0 = some r) :
  Calls Try.prog 6 #[.slice A0 l0.length c0] w fun e w' => e = .returned (.bool r) ∧ Below w.heap.size w w' := by
 have hu23 := Try.underlying23
 have hu27 := Try.underlying27
 have hu33 := Try.underlying33
 have hu42 := Try.underlying42
 have HR0 := Aside0.mk hr0
 have HC0 := Aside0.mk hc0
 clear hr0 hc0
 have HB := Aside0.mk (Below.refl w.heap.size w)
 have H : ((gristmilllaw06_awake.f).bind fun t402 => (if t402 = true then ((gristmilllaw06_right.f k 4 0 l0).bind fun bt403 => ((gristmilllaw06_of.f k bt403.2.2.1 bt403.2.2.2.1 bt403.2.2.2.2).bind fun bt412 => ((agg_Start.f bt403.2.2.1 bt403.2.2.2.1).bind fun bt418 => ((agg_Merge.f bt403.2.2.1 bt403.2.2.2.1 bt412.1 bt412.2.1 bt412.2.2 bt418.1 bt418.2.1 bt418.2.2).bind fun bt423 => ((agg_Add.f bt403.2.2.1 bt403.2.2.2.1 bt412.1 bt412.2.1 bt412.2.2 0 (([(⟨#[97]⟩ : ByteArray), (⟨#[98]⟩ : ByteArray)] : List ByteArray)) ([] : List Int) 0).bind fun bt432 => (gristmilllaw06_AggOwn.l0 k bt403.2.2.2.2 0 bt403.2.2.1 bt403.2.2.2.1 bt412.1 bt412.2.1 bt412.2.2 bt423.1 bt423.2.1 bt423.2.2 bt432.1 bt432.2.1 bt432.2.2)))))) else (some false))) = some r := h
 clear h
 replace H := Option.bind_eq_some_iff.mp H
 obtain ⟨t402, A20, H⟩ := H
 replace H : (if t402 = true then ((gristmilllaw06_right.f k 4 0 l0).bind fun bt403 => ((gristmilllaw06_of.f k bt403.2.2.1 bt403.2.2.2.1 bt403.2.2.2.2).bind fun bt412 => ((agg_Start.f bt403.2.2.1 bt403.2.2.2.1).bind fun bt418 => ((agg_Merge.f bt403.2.2.1 bt403.2.2.2.1 bt412.1 bt412.2.1 bt412.2.2 bt418.1 bt418.2.1 bt418.2.2).bind fun bt423 => ((agg_Add.f bt403.2.2.1 bt403.2.2.2.1 bt412.1 bt412.2.1 bt412.2.2 0 (([(⟨#[97]⟩ : ByteArray), (⟨#[98]⟩ : ByteArray)] : List ByteArray)) ([] : List Int) 0).bind fun bt432 => (gristmilllaw06_AggOwn.l0 k bt403.2.2.2.2 0 bt403.2.2.1 bt403.2.2.2.1 bt412.1 bt412.2.1 bt412.2.2 bt423.1 bt423.2.1 bt423.2.2 bt432.1 bt432.2.1 bt432.2.2)))))) else (some false)) = some r := H
 have A2 := Aside0.mk A20
 clear A20
 by_cases c3 : t402 = true
 ·subst c3
  have H1 : ((gristmilllaw06_right.f k 4 0 l0).bind fun bt403 => ((gristmilllaw06_of.f k bt403.2.2.1 bt403.2.2.2.1 bt403.2.2.2.2).bind fun bt412 => ((agg_Start.f bt403.2.2.1 bt403.2.2.2.1).bind fun bt418 => ((agg_Merge.f bt403.2.2.1 bt403.2.2.2.1 bt412.1 bt412.2.1 bt412.2.2 bt418.1 bt418.2.1 bt418.2.2).bind fun bt423 => ((agg_Add.f bt403.2.2.1 bt403.2.2.2.1 bt412.1 bt412.2.1 bt412.2.2 0 (([(⟨#[97]⟩ : ByteArray), (⟨#[98]⟩ : ByteArray)] : List ByteArray)) ([] : List Int) 0).bind fun bt432 => (gristmilllaw06_AggOwn.l0 k bt403.2.2.2.2 0 bt403.2.2.1 bt403.2.2.2.1 bt412.1 bt412.2.1 bt412.2.2 bt423.1 bt423.2.1 bt423.2.2 bt432.1 bt432.2.1 bt432.2.2)))))) = some r := by rw [if_pos rfl] at H; exact H
  clear H
  have H := H1
  clear H1
  replace H := Option.bind_eq_some_iff.mp H
  obtain ⟨⟨t403, t404, t405, t406, t407⟩, A40, H⟩ := H
  replace H : ((gristmilllaw06_of.f k t405 t406 t407).bind fun bt412 => ((agg_Start.f t405 t406).bind fun bt418 => ((agg_Merge.f t405 t406 bt412.1 bt412.2.1 bt412.2.2 bt418.1 bt418.2.1 bt418.2.2).bind fun bt423 => ((agg_Add.f t405 t406 bt412.1 bt412.2.1 bt412.2.2 0 (([(⟨#[97]⟩ : ByteArray), (⟨#[98]⟩ : ByteArray)] : List ByteArray)) ([] : List Int) 0).bind fun bt432 => (gristmilllaw06_AggOwn.l0 k t407 0 t405 t406 bt412.1 bt412.2.1 bt412.2.2 bt423.1 bt423.2.1 bt423.2.2 bt432.1 bt432.2.1 bt432.2.2))))) = some r := H
  have A4 := Aside0.mk A40
  clear A40
  replace H := Option.bind_eq_some_iff.mp H
  obtain ⟨⟨t412, t413, t414⟩, A50, H⟩ := H
  replace H : ((agg_Start.f t405 t406).bind fun bt418 => ((agg_Merge.f t405 t406 t412 t413 t414 bt418.1 bt418.2.1 bt418.2.2).bind fun bt423 => ((agg_Add.f t405 t406 t412 t413 t414 0 (([(⟨#[97]⟩ : ByteArray), (⟨#[98]⟩ : ByteArray)] : List ByteArray)) ([] : List Int) 0).bind fun bt432 => (gristmilllaw06_AggOwn.l0 k t407 0 t405 t406 t412 t413 t414 bt423.1 bt423.2.1 bt423.2.2 bt432.1 bt432.2.1 bt432.2.2)))) = some r := H
  have A5 := Aside0.mk A50
  clear A50
  replace H := Option.bind_eq_some_iff.mp H
  obtain ⟨⟨t418, t419, t420⟩, A60, H⟩ := H
  replace H : ((agg_Merge.f t405 t406 t412 t413 t414 t418 t419 t420).bind fun bt423 => ((agg_Add.f t405 t406 t412 t413 t414 0 (([(⟨#[97]⟩ : ByteArray), (⟨#[98]⟩ : ByteArray)] : List ByteArray)) ([] : List Int) 0).bind fun bt432 => (gristmilllaw06_AggOwn.l0 k t407 0 t405 t406 t412 t413 t414 bt423.1 bt423.2.1 bt423.2.2 bt432.1 bt432.2.1 bt432.2.2))) = some r := H
  have A6 := Aside0.mk A60
  clear A60
  replace H := Option.bind_eq_some_iff.mp H
  obtain ⟨⟨t423, t424, t425⟩, A70, H⟩ := H
  replace H : ((agg_Add.f t405 t406 t412 t413 t414 0 (([(⟨#[97]⟩ : ByteArray), (⟨#[98]⟩ : ByteArray)] : List ByteArray)) ([] : List Int) 0).bind fun bt432 => (gristmilllaw06_AggOwn.l0 k t407 0 t405 t406 t412 t413 t414 t423 t424 t425 bt432.1 bt432.2.1 bt432.2.2)) = some r := H
  have A7 := Aside0.mk A70
  clear A70
  obtain ⟨y429, hy429⟩ : ∃ y_ : List ByteArray, y_ = (([(⟨#[97]⟩ : ByteArray), (⟨#[98]⟩ : ByteArray)] : List ByteArray)) := ⟨_, rfl⟩
  replace H : ((agg_Add.f t405 t406 t412 t413 t414 0 y429 ([] : List Int) 0).bind fun bt432 => (gristmilllaw06_AggOwn.l0 k t407 0 t405 t406 t412 t413 t414 t423 t424 t425 bt432.1 bt432.2.1 bt432.2.2)) = some r := by first | (rw [hy429]; with_reducible exact H) | (have H2_ := (Option.bind_some _ _).symm.trans H; rw [hy429]; with_reducible exact H2_) | (have H2_ := (Option.bind_some _ _).symm.trans H; with_reducible exact H2_) | with_reducible exact H | (rw [hy429]; exact H) | exact H
  have Ny429 := Aside0.mk hy429
  clear hy429
  replace H := Option.bind_eq_some_iff.mp H
  obtain ⟨⟨t432, t433, t434⟩, A80, H⟩ := H
  replace H : (gristmilllaw06_AggOwn.l0 k t407 0 t405 t406 t412 t413 t414 t423 t424 t425 t432 t433 t434) = some r := H
  have A8 := Aside0.mk A80
  clear A80
  have H' := Aside0.mk H
  clear H
  go_enter Try.func6, Try.ntmps6
  try go_wp2_with (first | ((with_reducible refine gate_callee (f := 10) rfl ?_); refine goesL_ (some 12) rfl rfl Try.func10 (by kernel_rfl) rfl #[] rfl (by (try simp only [List.map_toArray, List.map_cons, List.map_nil]); first | done | rfl | (simp only [List.length_drop, List.length_take]; rfl)) ?_; (with_reducible refine (gristmilllaw06_awake.calls  true _ A2.out).mono ?_); rintro e w9 ⟨rfl, hb⟩; refine ⟨_, rfl, ?_⟩; have n0_ := Aside0.mk (below_step (bw_ HB.out) hb); clear HB; have HB := n0_; clear n0_; (try clear hb); (try clear hb2); (try clear hk); (try clear hi)) | ((with_reducible refine gate_callee (f := 11) rfl ?_); refine goesL_ (some 18) rfl rfl Try.func11 (by kernel_rfl) rfl #[.agg #[.int .i64 4, .int .i64 0], .slice A0 l0.length c0] rfl (by (try simp only [List.map_toArray, List.map_cons, List.map_nil]); first | done | rfl | (simp only [List.length_drop, List.length_take]; rfl)) ?_; (with_reducible refine (gristmilllaw06_right.calls k 4 0 _ _ l0 t403 t404 t405 t406 t407 _ ?side1 ?side2 A4.out).mono ?_); (case side1 => repeat (first | exact (Kd.C_below HR0.out HB.out) | (with_reducible refine Kd.C_alloc ?_ _) | (with_reducible refine Kd.C_drewN ?_ _) | (with_reducible refine Kd.C_drew ?_))); (case side2 => exact HC0.out); rintro e w10 ⟨v408, rfl, ho0, hb⟩; refine ⟨_, rfl, ?_⟩; have n0_ := Aside0.mk (Kd.S_lower ho0 (below_size (bw_ HB.out))); have n1_ := Aside0.mk (below_step (bw_ HB.out) hb); clear HB; have HO409 := n0_; have HB := n1_; clear n0_ n1_; (try clear hb); (try clear hb2); (try clear hk); (try clear hi); (try clear ho0)) | ((with_reducible refine gate_dst (N := 4) rfl ?_); refine bx_ (N := 4) (cs := #[.int .i64 0, .int .i64 0]) (t := 27) ?_; intro gb410 hg w11 hbox hb; have n0_ := Aside0.mk (Kd.S_below (by (with_reducible repeat (first | apply Kd.S_alloc | apply Kd.S_drewN | apply Kd.S_drew)); exact HO409.out) hb); have n1_ := Aside0.mk (below_step (bw_ HB.out) hb); have n2_ := Aside0.mk (hbox); have n3_ := Aside0.mk (sz_ hg (bw_ HB.out)); have n4_ := n3_; clear HO409 HB; have HO409 := n0_; have HB := n1_; have BK410 := n2_; have GW410 := n3_; have GE410 := n4_; clear n0_ n1_ n2_ n3_ n4_; clear hb hbox hg) | ((with_reducible refine gate_dst (N := 5) rfl ?_); refine bx_ (N := 5) (cs := #[.int .i64 0, .int .i64 0]) (t := 23) ?_; intro gb411 hg w12 hbox hb; have n0_ := Aside0.mk (Kd.S_below (by (with_reducible repeat (first | apply Kd.S_alloc | apply Kd.S_drewN | apply Kd.S_drew)); exact HO409.out) hb); have n1_ := Aside0.mk (blk_below (bk_ BK410.out) hb); have n2_ := Aside0.mk (below_step (bw_ HB.out) hb); have n3_ := Aside0.mk (hbox); have n4_ := Aside0.mk (sz_ hg (bw_ HB.out)); have n5_ := n4_; have n6_ := Aside0.mk (ne_ hg (blk_lt (bk_ BK410.out))); have n7_ := Aside0.mk n6_.out.symm; clear HO409 BK410 HB; have HO409 := n0_; have BK410 := n1_; have HB := n2_; have BK411 := n3_; have GW411 := n4_; have GE411 := n5_; have NB410_411 := n6_; have NB411_410 := n7_; clear n0_ n1_ n2_ n3_ n4_ n5_ n6_ n7_; clear hb hbox hg; have hnb13 := NB410_411.out; have hnc13 := NB411_410.out; have hcz14_0 : w12.cell? ⟨gb410, 0, none⟩ = some (.int .i64 0) := (blk_cell BK410.out 0).trans rfl; have hcz14_1 : w12.cell? ⟨gb410, 1, none⟩ = some (.int .i64 0) := (blk_cell BK410.out 1).trans rfl; have hfz14_0 := blk_frozen BK410.out 0; have hfz14_1 := blk_frozen BK410.out 1; have hcz15_0 : w12.cell? ⟨gb411, 0, none⟩ = some (.int .i64 0) := (blk_cell BK411.out 0).trans rfl; have hcz15_1 : w12.cell? ⟨gb411, 1, none⟩ = some (.int .i64 0) := (blk_cell BK411.out 1).trans rfl; have hfz15_0 := blk_frozen BK411.out 0; have hfz15_1 := blk_frozen BK411.out 1; obtain ⟨Ao16, co16, eo16⟩ := Kd.S_slice HO409.out; subst eo16) | ((with_reducible refine gate_callee (f := 12) rfl ?_); refine goesL_ (some 24) rfl rfl Try.func12 (by kernel_rfl) rfl #[.agg #[.int .i64 t405, .int .i64 t406], .slice Ao16 t407.length co16] rfl (by (try simp only [List.map_toArray, List.map_cons, List.map_nil]); first | done | rfl | (simp only [List.length_drop, List.length_take]; rfl)) ?_; (with_reducible refine (gristmilllaw06_of.calls k t405 t406 _ _ t407 t412 t413 t414 _ ?side1 ?side2 A5.out).mono ?_); (case side1 => refine (Kd.S_reads' (e := 44) (base := w.heap.size) (ok := fun k_ => True) (n := t407.length) (c := co16) ?_).2.2; exact (by (with_reducible repeat (first | apply Kd.S_alloc | apply Kd.S_drewN | apply Kd.S_drew)); exact (Kd.S_mono (Kd.S_mono (Kd.S_far (p := ⟨gb411, 1, none⟩) (Kd.S_far (p := ⟨gb411, 0, none⟩) (Kd.S_far (p := ⟨gb410, 1, none⟩) (Kd.S_far (p := ⟨gb410, 0, none⟩) (Kd.S_types (Kd.S_types HO409.out BK410.out (by decide)) BK411.out (by decide)) (fun _ hk => hk.1.2) (.int .i64 t403)) (fun _ hk => hk.1.2) (.int .i64 t404)) (fun _ hk => hk.2) (.int .i64 t405)) (fun _ hk => hk.2) (.int .i64 t406)) (fun _ h_ => h_.1)) (fun _ h_ => h_.1)))); (case side2 => exact (Kd.S_reads' HO409.out).2.1); rintro e w17 ⟨v415, rfl, ho0, hb⟩; refine ⟨_, rfl, ?_⟩; have n0_ := Aside0.mk (Kd.S_elder' (by (with_reducible repeat (first | apply Kd.S_alloc | apply Kd.S_drewN | apply Kd.S_drew)); exact (Kd.S_mono (Kd.S_mono (Kd.S_far (p := ⟨gb411, 1, none⟩) (Kd.S_far (p := ⟨gb411, 0, none⟩) (Kd.S_far (p := ⟨gb410, 1, none⟩) (Kd.S_far (p := ⟨gb410, 0, none⟩) (Kd.S_types (Kd.S_types HO409.out BK410.out (by decide)) BK411.out (by decide)) (fun _ hk => hk.1.2) (.int .i64 t403)) (fun _ hk => hk.1.2) (.int .i64 t404)) (fun _ hk => hk.2) (.int .i64 t405)) (fun _ hk => hk.2) (.int .i64 t406)) (fun _ h_ => h_.1)) (fun _ h_ => h_.1))) (Kd.R_base ho0) hb); have n1_ := Aside0.mk (Kd.R_lower ho0 (below_size (bw_ HB.out))); have n2_ := Aside0.mk (blk_below (g := gb410) (o := .cells #[.int .i64 t403, .int .i64 t404] 27 (0, 0)) (by (with_reducible repeat (first | refine blk_drewN ?_ _ | refine blk_drew ?_ | refine blk_alloc ?_ _)); refine blk_far ?_ NB410_411.out _; (with_reducible repeat (first | refine blk_drewN ?_ _ | refine blk_drew ?_ | refine blk_alloc ?_ _)); refine blk_far ?_ NB410_411.out _; (with_reducible repeat (first | refine blk_drewN ?_ _ | refine blk_drew ?_ | refine blk_alloc ?_ _)); refine blk_put (cs := #[.int .i64 t403, .int .i64 0]) ?_ 1 _ rfl; (with_reducible repeat (first | refine blk_drewN ?_ _ | refine blk_drew ?_ | refine blk_alloc ?_ _)); refine blk_put (cs := #[.int .i64 0, .int .i64 0]) ?_ 0 _ rfl; (with_reducible repeat (first | refine blk_drewN ?_ _ | refine blk_drew ?_ | refine blk_alloc ?_ _)); exact BK410.out) hb); have n3_ := Aside0.mk (blk_below (g := gb411) (o := .cells #[.int .i64 t405, .int .i64 t406] 23 (0, 0)) (by (with_reducible repeat (first | refine blk_drewN ?_ _ | refine blk_drew ?_ | refine blk_alloc ?_ _)); refine blk_put (cs := #[.int .i64 t405, .int .i64 0]) ?_ 1 _ rfl; (with_reducible repeat (first | refine blk_drewN ?_ _ | refine blk_drew ?_ | refine blk_alloc ?_ _)); refine blk_put (cs := #[.int .i64 0, .int .i64 0]) ?_ 0 _ rfl; (with_reducible repeat (first | refine blk_drewN ?_ _ | refine blk_drew ?_ | refine blk_alloc ?_ _)); refine blk_far ?_ NB411_410.out _; (with_reducible repeat (first | refine blk_drewN ?_ _ | refine blk_drew ?_ | refine blk_alloc ?_ _)); refine blk_far ?_ NB411_410.out _; (with_reducible repeat (first | refine blk_drewN ?_ _ | refine blk_drew ?_ | refine blk_alloc ?_ _)); exact BK411.out) hb); have n4_ := Aside0.mk (below_step (bw_ HB.out) hb); clear HO409 BK410 BK411 HB; have HO409 := n0_; have HO416 := n1_; have BK410 := n2_; have BK411 := n3_; have HB := n4_; clear n0_ n1_ n2_ n3_ n4_; (try clear hb); (try clear hb2); (try clear hk); (try clear hi); (try clear ho0)) | ((with_reducible refine gate_dst (N := 7) rfl ?_); refine bx_ (N := 7) (cs := #[.int .u64 0, .int .i64 0, .slice none 0 0]) (t := 33) ?_; intro gb417 hg w18 hbox hb; have n0_ := Aside0.mk (Kd.S_below (by (with_reducible repeat (first | apply Kd.S_alloc | apply Kd.S_drewN | apply Kd.S_drew)); exact HO409.out) hb); have n1_ := Aside0.mk (Kd.R_below (by (with_reducible repeat (first | apply Kd.R_alloc | apply Kd.R_drewN | apply Kd.R_drew)); exact HO416.out) hb); have n2_ := Aside0.mk (blk_below (bk_ BK410.out) hb); have n3_ := Aside0.mk (blk_below (bk_ BK411.out) hb); have n4_ := Aside0.mk (below_step (bw_ HB.out) hb); have n5_ := Aside0.mk (hbox); have n6_ := Aside0.mk (sz_ hg (bw_ HB.out)); have n7_ := n6_; have n8_ := Aside0.mk (ne_ hg (blk_lt (bk_ BK410.out))); have n9_ := Aside0.mk n8_.out.symm; have n10_ := Aside0.mk (ne_ hg (blk_lt (bk_ BK411.out))); have n11_ := Aside0.mk n10_.out.symm; clear HO409 HO416 BK410 BK411 HB; have HO409 := n0_; have HO416 := n1_; have BK410 := n2_; have BK411 := n3_; have HB := n4_; have BK417 := n5_; have GW417 := n6_; have GE417 := n7_; have NB410_417 := n8_; have NB417_410 := n9_; have NB411_417 := n10_; have NB417_411 := n11_; clear n0_ n1_ n2_ n3_ n4_ n5_ n6_ n7_ n8_ n9_ n10_ n11_; clear hb hbox hg; have hnb19 := NB417_410.out; have hnc19 := NB410_417.out; have hnb20 := NB417_411.out; have hnc20 := NB411_417.out; have hcz21_0 : w18.cell? ⟨gb417, 0, none⟩ = some (.int .u64 0) := (blk_cell BK417.out 0).trans rfl; have hcz21_1 : w18.cell? ⟨gb417, 1, none⟩ = some (.int .i64 0) := (blk_cell BK417.out 1).trans rfl; have hcz21_2 : w18.cell? ⟨gb417, 2, none⟩ = some (.slice none 0 0) := (blk_cell BK417.out 2).trans rfl; have hfz21_0 := blk_frozen BK417.out 0; have hfz21_1 := blk_frozen BK417.out 1; have hfz21_2 := blk_frozen BK417.out 2; obtain ⟨Ao22, co22, eo22⟩ := Kd.R_slice HO416.out; subst eo22))
  have n0_ : Aside0 (Kd.S k44 44 (((w18.setCell ⟨gb417, 0, none⟩ (.int .u64 t412)).setCell ⟨gb417, 1, none⟩ (.int .i64 t413)).setCell ⟨gb417, 2, none⟩ (.slice Ao22 t414.length co22)) w.heap.size (fun k_ => some k_ ≠ (.slice Ao22 t414.length co22 : Value).ownBlock) (.slice Ao16 t407.length co16) t407) := ⟨by (with_reducible repeat (first | apply Kd.S_alloc | apply Kd.S_drewN | apply Kd.S_drew)); exact Kd.S_mono (Kd.S_far (p := ⟨gb417, 2, none⟩) (Kd.S_far (p := ⟨gb417, 1, none⟩) (Kd.S_far (p := ⟨gb417, 0, none⟩) (Kd.S_types HO409.out BK417.out (by decide)) (fun _ hk => hk.2) (.int .u64 t412)) (fun _ hk => hk.2) (.int .i64 t413)) (fun _ hk => hk.2) (.slice Ao22 t414.length co22)) (fun _ hk => hk.1.2)⟩
  have n1_ : Aside0 (Kd.R Kd.string 9 (((w18.setCell ⟨gb417, 0, none⟩ (.int .u64 t412)).setCell ⟨gb417, 1, none⟩ (.int .i64 t413)).setCell ⟨gb417, 2, none⟩ (.slice Ao22 t414.length co22)) w.heap.size (fun _ => True) (.slice Ao22 t414.length co22) t414) := ⟨by (with_reducible repeat (first | apply Kd.R_alloc | apply Kd.R_drewN | apply Kd.R_drew)); exact Kd.R_mono (Kd.R_far (p := ⟨gb417, 2, none⟩) (Kd.R_far (p := ⟨gb417, 1, none⟩) (Kd.R_far (p := ⟨gb417, 0, none⟩) (Kd.R_types HO416.out BK417.out (by decide)) (fun _ hk => hk.2) (.int .u64 t412)) (fun _ hk => hk.2) (.int .i64 t413)) (fun _ hk => hk.2) (.slice Ao22 t414.length co22)) (fun _ hk => trivial)⟩
  have n2_ : Aside0 ((((w18.setCell ⟨gb417, 0, none⟩ (.int .u64 t412)).setCell ⟨gb417, 1, none⟩ (.int .i64 t413)).setCell ⟨gb417, 2, none⟩ (.slice Ao22 t414.length co22)).heap[gb410]? = some (.cells #[.int .i64 t403, .int .i64 t404] 27 (0, 0))) := ⟨by (with_reducible repeat (first | refine blk_drewN ?_ _ | refine blk_drew ?_ | refine blk_alloc ?_ _)); refine blk_far ?_ NB410_417.out _; (with_reducible repeat (first | refine blk_drewN ?_ _ | refine blk_drew ?_ | refine blk_alloc ?_ _)); refine blk_far ?_ NB410_417.out _; (with_reducible repeat (first | refine blk_drewN ?_ _ | refine blk_drew ?_ | refine blk_alloc ?_ _)); refine blk_far ?_ NB410_417.out _; (with_reducible repeat (first | refine blk_drewN ?_ _ | refine blk_drew ?_ | refine blk_alloc ?_ _)); exact BK410.out⟩
  have n3_ : Aside0 ((((w18.setCell ⟨gb417, 0, none⟩ (.int .u64 t412)).setCell ⟨gb417, 1, none⟩ (.int .i64 t413)).setCell ⟨gb417, 2, none⟩ (.slice Ao22 t414.length co22)).heap[gb411]? = some (.cells #[.int .i64 t405, .int .i64 t406] 23 (0, 0))) := ⟨by (with_reducible repeat (first | refine blk_drewN ?_ _ | refine blk_drew ?_ | refine blk_alloc ?_ _)); refine blk_far ?_ NB411_417.out _; (with_reducible repeat (first | refine blk_drewN ?_ _ | refine blk_drew ?_ | refine blk_alloc ?_ _)); refine blk_far ?_ NB411_417.out _; (with_reducible repeat (first | refine blk_drewN ?_ _ | refine blk_drew ?_ | refine blk_alloc ?_ _)); refine blk_far ?_ NB411_417.out _; (with_reducible repeat (first | refine blk_drewN ?_ _ | refine blk_drew ?_ | refine blk_alloc ?_ _)); exact BK411.out⟩
  have n4_ : Aside0 ((((w18.setCell ⟨gb417, 0, none⟩ (.int .u64 t412)).setCell ⟨gb417, 1, none⟩ (.int .i64 t413)).setCell ⟨gb417, 2, none⟩ (.slice Ao22 t414.length co22)).heap[gb417]? = some (.cells #[.int .u64 t412, .int .i64 t413, .slice Ao22 t414.length co22] 33 (0, 0))) := ⟨by (with_reducible repeat (first | refine blk_drewN ?_ _ | refine blk_drew ?_ | refine blk_alloc ?_ _)); refine blk_put (cs := #[.int .u64 t412, .int .i64 t413, .slice none 0 0]) ?_ 2 _ rfl; (with_reducible repeat (first | refine blk_drewN ?_ _ | refine blk_drew ?_ | refine blk_alloc ?_ _)); refine blk_put (cs := #[.int .u64 t412, .int .i64 0, .slice none 0 0]) ?_ 1 _ rfl; (with_reducible repeat (first | refine blk_drewN ?_ _ | refine blk_drew ?_ | refine blk_alloc ?_ _)); refine blk_put (cs := #[.int .u64 0, .int .i64 0, .slice none 0 0]) ?_ 0 _ rfl; (with_reducible repeat (first | refine blk_drewN ?_ _ | refine blk_drew ?_ | refine blk_alloc ?_ _)); exact BK417.out⟩
  have n5_ : Aside0 (Below w.heap.size w (((w18.setCell ⟨gb417, 0, none⟩ (.int .u64 t412)).setCell ⟨gb417, 1, none⟩ (.int .i64 t413)).setCell ⟨gb417, 2, none⟩ (.slice Ao22 t414.length co22))) := ⟨by repeat (first | (with_reducible first | exact HB.out | apply below_alloc | apply pw_below_drewN | apply below_drew1 | refine below_set ?_ GE410.out | refine below_set ?_ GE411.out | refine below_set ?_ GE417.out) | exact HB.out)⟩
  (try clear HO409)
  (try clear HO416)
  (try clear BK410)
  (try clear BK411)
  (try clear BK417)
  (try clear HB)
  generalize (((w18.setCell ⟨gb417, 0, none⟩ (.int .u64 t412)).setCell ⟨gb417, 1, none⟩ (.int .i64 t413)).setCell ⟨gb417, 2, none⟩ (.slice Ao22 t414.length co22)) = w23 at n0_ n1_ n2_ n3_ n4_ n5_ ⊢
  have HO409 := n0_
  have HO416 := n1_
  have BK410 := n2_
  have BK411 := n3_
  have BK417 := n4_
  have HB := n5_
  clear n0_ n1_ n2_ n3_ n4_ n5_
  have n0_ := Aside0.mk (Kd.S_drew HO409.out)
  have n1_ := Aside0.mk (Kd.R_drew HO416.out)
  have n2_ := Aside0.mk (blk_drew BK410.out)
  have n3_ := Aside0.mk (blk_drew BK411.out)
  have n4_ := Aside0.mk (blk_drew BK417.out)
  have n5_ := Aside0.mk (below_drew1 HB.out)
  clear HO409
  clear HO416
  clear BK410
  clear BK411
  clear BK417
  clear HB
  have HO409 := n0_
  have HO416 := n1_
  have BK410 := n2_
  have BK411 := n3_
  have BK417 := n4_
  have HB := n5_
  clear n0_ n1_ n2_ n3_ n4_ n5_
  refine start_ (n := 7) (S := fun w' => w'.cell? ⟨gb411, 0, none⟩ = some (.int .i64 t405) ∧ w'.cell? ⟨gb411, 1, none⟩ = some (.int .i64 t406) ∧ w'.cell? ⟨gb417, 0, none⟩ = some (.int .u64 t412) ∧ w'.cell? ⟨gb417, 1, none⟩ = some (.int .i64 t413) ∧ w'.cell? ⟨gb417, 2, none⟩ = some (.slice Ao22 t414.length co22)) (ds := []) #[false, false, false, false, false, false, false] (by kernel_rfl) rfl rfl ⟨(blk_cell BK411.out 0).trans rfl, (blk_cell BK411.out 1).trans rfl, (blk_cell BK417.out 0).trans rfl, (blk_cell BK417.out 1).trans rfl, (blk_cell BK417.out 2).trans rfl⟩ (fun hHeld => ?_)
  generalize w23.drew = w24 at HO409 HO416 BK410 BK411 BK417 HB hHeld ⊢
  refine take_ (i := 0) (N := some 25) (v := ?_) (a' := ?_) #[true, false, false, false, false, false, false] rfl rfl (by kernel_rfl) (fun _ _ _ h => h) (Or.inl ⟨by rfl, ?_⟩) hHeld ?_ ?_
  rotate_left
  ·rintro w' ⟨s0, s1, s2, s3, s4⟩
   go_simp
   with_reducible rfl
  rotate_left
  ·simp only [Act.put, q1_, q2_, q3_, i64_w, i32_w]
   rfl
  refine take_ (i := 1) (N := some 26) (v := ?_) (a' := ?_) #[true, true, false, false, false, false, false] rfl rfl (by kernel_rfl) (fun _ _ _ h => h) (Or.inl ⟨by rfl, ?_⟩) hHeld ?_ ?_
  rotate_left
  ·rintro w' ⟨s0, s1, s2, s3, s4⟩
   go_simp
   with_reducible rfl
  rotate_left
  ·simp only [Act.put, q1_, q2_, q3_, i64_w, i32_w]
   rfl
  refine take_ (i := 2) (N := some 27) (v := ?_) (a' := ?_) #[true, true, true, false, false, false, false] rfl rfl (by kernel_rfl) (fun _ _ _ h => h) (Or.inl ⟨by rfl, ?_⟩) hHeld ?_ ?_
  rotate_left
  ·rintro w' ⟨s0, s1, s2, s3, s4⟩
   go_simp
   with_reducible rfl
  rotate_left
  ·simp only [Act.put, q1_, q2_, q3_, i64_w, i32_w]
   rfl
  refine join_ (σ := Value × Value × Nat) 1 #[true, true, true, true, true, true, false] (fun s_ => [(28, .agg #[.int .u64 t418, .int .i64 t419, s_.1]), (29, .agg #[.int .u64 t423, .int .i64 t424, s_.2.1]), (8, .pointer (some ⟨s_.2.2, 0, none⟩))]) (fun s_ w' => (w'.cell? ⟨gb411, 0, none⟩ = some (.int .i64 t405) ∧ w'.cell? ⟨gb411, 1, none⟩ = some (.int .i64 t406) ∧ w'.cell? ⟨gb417, 0, none⟩ = some (.int .u64 t412) ∧ w'.cell? ⟨gb417, 1, none⟩ = some (.int .i64 t413) ∧ w'.cell? ⟨gb417, 2, none⟩ = some (.slice Ao22 t414.length co22)) ∧ (Kd.S k44 44 w' w.heap.size (fun k_ => some k_ ≠ (.slice Ao22 t414.length co22 : Value).ownBlock ∧ some k_ ≠ (s_.1 : Value).ownBlock ∧ some k_ ≠ (s_.2.1 : Value).ownBlock) (.slice Ao16 t407.length co16) t407) ∧ (Kd.R Kd.string 9 w' w.heap.size (fun k_ => some k_ ≠ (s_.1 : Value).ownBlock ∧ some k_ ≠ (s_.2.1 : Value).ownBlock) (.slice Ao22 t414.length co22) t414) ∧ (Kd.R Kd.string 9 w' w.heap.size (fun k_ => some k_ ≠ (.slice Ao22 t414.length co22 : Value).ownBlock ∧ some k_ ≠ (s_.2.1 : Value).ownBlock) s_.1 t420) ∧ (Kd.R Kd.string 9 w' w.heap.size (fun k_ => some k_ ≠ (.slice Ao22 t414.length co22 : Value).ownBlock ∧ some k_ ≠ (s_.1 : Value).ownBlock) s_.2.1 t425) ∧ (w'.heap[gb410]? = some (.cells #[.int .i64 t403, .int .i64 t404] 27 (0, 0))) ∧ (w'.heap[gb411]? = some (.cells #[.int .i64 t405, .int .i64 t406] 23 (0, 0))) ∧ (w'.heap[gb417]? = some (.cells #[.int .u64 t412, .int .i64 t413, .slice Ao22 t414.length co22] 33 (0, 0))) ∧ (w'.heap[s_.2.2]? = some (.cells #[.int .u64 0, .int .i64 0, .slice none 0 0] 33 (0, 0))) ∧ (w.heap.size ≤ s_.2.2) ∧ (w.heap.size ≤ s_.2.2) ∧ (gb410 ≠ s_.2.2) ∧ (s_.2.2 ≠ gb410) ∧ (gb411 ≠ s_.2.2) ∧ (s_.2.2 ≠ gb411) ∧ (gb417 ≠ s_.2.2) ∧ (s_.2.2 ≠ gb417) ∧ (Below w.heap.size w w')) ?_ ?_
  rotate_left
  ·intro hCont
   refine two_ (i := 3) (j := 5) (Ni := some 28) (Nj := some 8) #[true, true, true, true, false, false, false] #[true, true, true, false, false, true, false] rfl rfl rfl rfl (by kernel_rfl) (by decide) (by decide) (fun K hK => ?_) (fun K hK => ?_)
   ·skip
    refine goes_ Try.func18 (by kernel_rfl) rfl #[.agg #[.int .i64 t405, .int .i64 t406]] (by rfl) rfl rfl (by (try simp only [List.map_toArray, List.map_cons, List.map_nil]); first | done | rfl | (simp only [List.length_drop, List.length_take]; rfl)) ?_
    with_reducible refine (agg_Start.calls t405 t406 t418 t419 t420 _ A6.out).mono ?_
    rintro e w25 ⟨v421, rfl, ho0, hb⟩
    refine ⟨_, rfl, ?_⟩
    have n0_ := Aside0.mk (Kd.S_elder' (by (with_reducible repeat (first | apply Kd.S_alloc | apply Kd.S_drewN | apply Kd.S_drew)); exact HO409.out) (Kd.R_base ho0) hb)
    have n1_ := Aside0.mk (Kd.R_elder' (by (with_reducible repeat (first | apply Kd.R_alloc | apply Kd.R_drewN | apply Kd.R_drew)); exact HO416.out) (Kd.R_base ho0) hb)
    have n2_ := Aside0.mk (Kd.R_lower (Kd.R_new' ho0 (Kd.R_lt (by (with_reducible repeat (first | apply Kd.R_alloc | apply Kd.R_drewN | apply Kd.R_drew)); exact HO416.out))) (below_size (bw_ HB.out)))
    have n3_ := Aside0.mk (blk_below (bk_ BK410.out) hb)
    have n4_ := Aside0.mk (blk_below (bk_ BK411.out) hb)
    have n5_ := Aside0.mk (blk_below (bk_ BK417.out) hb)
    have n6_ := Aside0.mk (below_step (bw_ HB.out) hb)
    clear HO409
    clear HO416
    clear BK410
    clear BK411
    clear BK417
    clear HB
    have HO409 := n0_
    have HO416 := n1_
    have HO422 := n2_
    have BK410 := n3_
    have BK411 := n4_
    have BK417 := n5_
    have HB := n6_
    clear n0_ n1_ n2_ n3_ n4_ n5_ n6_
    (try clear hb)
    (try clear hb2)
    (try clear hk)
    (try clear hi)
    (try clear ho0)
    obtain ⟨Ao26, co26, eo26⟩ := Kd.R_slice HO422.out
    (first | subst eo26 | (injection eo26 with f1_ f2_ f3_; have f4_ := f1_.symm; have f5_ := f3_.symm; clear f1_ f2_ f3_; subst f4_; subst f5_))
    refine hK.out _ _ ⟨(blk_cell BK411.out 0).trans rfl, (blk_cell BK411.out 1).trans rfl, (blk_cell BK417.out 0).trans rfl, (blk_cell BK417.out 1).trans rfl, (blk_cell BK417.out 2).trans rfl⟩ (fun hHeld => ?_)
    clear hK K
    refine norm_ (a' := ?_) ?_ ?_
    rotate_left
    ·show Act.put _ (some 28) _ = _
     simp only [Act.put, q1_, q2_, q3_, i64_w, i32_w]
     rfl
    refine two_ (i := 4) (j := 5) (Ni := some 29) (Nj := some 8) #[true, true, true, true, true, false, false] #[true, true, true, true, false, true, false] rfl rfl rfl rfl (by kernel_rfl) (by decide) (by decide) (fun K hK => ?_) (fun K hK => ?_)
    ·skip
     refine goes_ Try.func17 (by kernel_rfl) rfl #[.agg #[.int .i64 t405, .int .i64 t406], .agg #[.int .u64 t412, .int .i64 t413, .slice Ao22 t414.length co22], .agg #[.int .u64 t418, .int .i64 t419, .slice Ao26 t420.length co26]] (by rfl) rfl rfl (by (try simp only [List.map_toArray, List.map_cons, List.map_nil]); first | done | rfl | (simp only [List.length_drop, List.length_take]; rfl)) ?_
     with_reducible refine (agg_Merge.calls t405 t406 t412 t413 _ _ t414 t418 t419 _ _ t420 t423 t424 t425 _ ?side1 ?side2 ?side3 ?side4 A7.out).mono ?_
     (case side1 => repeat (first | exact (Kd.R_reads' HO416.out).2.2 | (with_reducible refine Kd.C_alloc ?_ _) | (with_reducible refine Kd.C_drewN ?_ _) | (with_reducible refine Kd.C_drew ?_)))
     (case side2 => exact (Kd.R_reads' HO416.out).2.1)
     (case side3 => repeat (first | exact (Kd.R_reads' HO422.out).2.2 | (with_reducible refine Kd.C_alloc ?_ _) | (with_reducible refine Kd.C_drewN ?_ _) | (with_reducible refine Kd.C_drew ?_)))
     (case side4 => exact (Kd.R_reads' HO422.out).2.1)
     rintro e w27 ⟨v426, rfl, ho0, hb⟩
     refine ⟨_, rfl, ?_⟩
     have n0_ := Aside0.mk (Kd.S_elder' (by (with_reducible repeat (first | apply Kd.S_alloc | apply Kd.S_drewN | apply Kd.S_drew)); exact HO409.out) (Kd.R_base ho0) hb)
     have n1_ := Aside0.mk (Kd.R_elder' (by (with_reducible repeat (first | apply Kd.R_alloc | apply Kd.R_drewN | apply Kd.R_drew)); exact HO416.out) (Kd.R_base ho0) hb)
     have n2_ := Aside0.mk (Kd.R_elder' (by (with_reducible repeat (first | apply Kd.R_alloc | apply Kd.R_drewN | apply Kd.R_drew)); exact HO422.out) (Kd.R_base ho0) hb)
     have n3_ := Aside0.mk (Kd.R_lower (Kd.R_new' (Kd.R_new' ho0 (Kd.R_lt (by (with_reducible repeat (first | apply Kd.R_alloc | apply Kd.R_drewN | apply Kd.R_drew)); exact HO416.out))) (Kd.R_lt (by (with_reducible repeat (first | apply Kd.R_alloc | apply Kd.R_drewN | apply Kd.R_drew)); exact HO422.out))) (below_size (bw_ HB.out)))
     have n4_ := Aside0.mk (blk_below (bk_ BK410.out) hb)
     have n5_ := Aside0.mk (blk_below (bk_ BK411.out) hb)
     have n6_ := Aside0.mk (blk_below (bk_ BK417.out) hb)
     have n7_ := Aside0.mk (below_step (bw_ HB.out) hb)
     clear HO409
     clear HO416
     clear HO422
     clear BK410
     clear BK411
     clear BK417
     clear HB
     have HO409 := n0_
     have HO416 := n1_
     have HO422 := n2_
     have HO427 := n3_
     have BK410 := n4_
     have BK411 := n5_
     have BK417 := n6_
     have HB := n7_
     clear n0_ n1_ n2_ n3_ n4_ n5_ n6_ n7_
     (try clear hb)
     (try clear hb2)
     (try clear hk)
     (try clear hi)
     (try clear ho0)
     refine hK.out _ _ ⟨(blk_cell BK411.out 0).trans rfl, (blk_cell BK411.out 1).trans rfl, (blk_cell BK417.out 0).trans rfl, (blk_cell BK417.out 1).trans rfl, (blk_cell BK417.out 2).trans rfl⟩ (fun hHeld => ?_)
     clear hK K
     refine norm_ (a' := ?_) ?_ ?_
     rotate_left
     ·show Act.put _ (some 29) _ = _
      simp only [Act.put, q1_, q2_, q3_, i64_w, i32_w]
      rfl
     refine one_ (i := 5) (N := some 8) #[true, true, true, true, true, true, false] rfl rfl (by kernel_rfl) (by decide) (fun K hK => ?_)
     refine box_step ?hg (N := 8) ?hd (cs := #[.int .u64 0, .int .i64 0, .slice none 0 0]) (t := 33) ?hr ?_; (case hd => rfl); (case hg => rfl); (case hr => first | (go_simp; done) | (go_simp; rfl))
     intro gb428 hg w28 hbox hb
     have n0_ := Aside0.mk (Kd.S_below (by (with_reducible repeat (first | apply Kd.S_alloc | apply Kd.S_drewN | apply Kd.S_drew)); exact HO409.out) hb)
     have n1_ := Aside0.mk (Kd.R_below (by (with_reducible repeat (first | apply Kd.R_alloc | apply Kd.R_drewN | apply Kd.R_drew)); exact HO416.out) hb)
     have n2_ := Aside0.mk (Kd.R_below (by (with_reducible repeat (first | apply Kd.R_alloc | apply Kd.R_drewN | apply Kd.R_drew)); exact HO422.out) hb)
     have n3_ := Aside0.mk (Kd.R_below (by (with_reducible repeat (first | apply Kd.R_alloc | apply Kd.R_drewN | apply Kd.R_drew)); exact HO427.out) hb)
     have n4_ := Aside0.mk (blk_below (bk_ BK410.out) hb)
     have n5_ := Aside0.mk (blk_below (bk_ BK411.out) hb)
     have n6_ := Aside0.mk (blk_below (bk_ BK417.out) hb)
     have n7_ := Aside0.mk (below_step (bw_ HB.out) hb)
     have n8_ := Aside0.mk (hbox)
     have n9_ := Aside0.mk ((by rw [hg]; exact (below_size (bw_ HB.out)) : w.heap.size ≤ gb428))
     have n10_ := Aside0.mk ((by rw [hg]; exact (below_size (bw_ HB.out)) : w.heap.size ≤ gb428))
     have n11_ := Aside0.mk ((by rw [hg]; exact Nat.ne_of_lt (blk_lt (bk_ BK410.out)) : gb410 ≠ gb428))
     have n12_ := Aside0.mk ((by rw [hg]; exact Nat.ne_of_gt (blk_lt (bk_ BK410.out)) : gb428 ≠ gb410))
     have n13_ := Aside0.mk ((by rw [hg]; exact Nat.ne_of_lt (blk_lt (bk_ BK411.out)) : gb411 ≠ gb428))
     have n14_ := Aside0.mk ((by rw [hg]; exact Nat.ne_of_gt (blk_lt (bk_ BK411.out)) : gb428 ≠ gb411))
     have n15_ := Aside0.mk ((by rw [hg]; exact Nat.ne_of_lt (blk_lt (bk_ BK417.out)) : gb417 ≠ gb428))
     have n16_ := Aside0.mk ((by rw [hg]; exact Nat.ne_of_gt (blk_lt (bk_ BK417.out)) : gb428 ≠ gb417))
     clear HO409
     clear HO416
     clear HO422
     clear HO427
     clear BK410
     clear BK411
     clear BK417
     clear HB
     have HO409 := n0_
     have HO416 := n1_
     have HO422 := n2_
     have HO427 := n3_
     have BK410 := n4_
     have BK411 := n5_
     have BK417 := n6_
     have HB := n7_
     have BK428 := n8_
     have GW428 := n9_
     have GE428 := n10_
     have NB410_428 := n11_
     have NB428_410 := n12_
     have NB411_428 := n13_
     have NB428_411 := n14_
     have NB417_428 := n15_
     have NB428_417 := n16_
     clear n0_ n1_ n2_ n3_ n4_ n5_ n6_ n7_ n8_ n9_ n10_ n11_ n12_ n13_ n14_ n15_ n16_
     clear hb hbox hg
     refine hK.out _ _ ⟨(blk_cell BK411.out 0).trans rfl, (blk_cell BK411.out 1).trans rfl, (blk_cell BK417.out 0).trans rfl, (blk_cell BK417.out 1).trans rfl, (blk_cell BK417.out 2).trans rfl⟩ (fun hHeld => ?_)
     clear hK K
     refine norm_ (a' := ?_) ?_ ?_
     rotate_left
     ·show Act.put _ (some 8) _ = _
      simp only [Act.put, q1_, q2_, q3_, i64_w, i32_w]
      rfl
     exact norm_ (by simp only [putAll, Act.put, q1_, q2_, q3_]) (hCont (.slice Ao26 t420.length co26, v426, gb428) _ ⟨hHeld, (by (with_reducible repeat (first | apply Kd.S_alloc | apply Kd.S_drewN | apply Kd.S_drew)); exact Kd.S_mono HO409.out (fun _ hk => ⟨hk.1.1, ⟨hk.1.2, hk.2⟩⟩)), (by (with_reducible repeat (first | apply Kd.R_alloc | apply Kd.R_drewN | apply Kd.R_drew)); exact Kd.R_mono HO416.out (fun _ hk => ⟨hk.1.2, hk.2⟩)), (by (with_reducible repeat (first | apply Kd.R_alloc | apply Kd.R_drewN | apply Kd.R_drew)); exact Kd.R_mono HO422.out (fun _ hk => ⟨hk.1.2, hk.2⟩)), (by (with_reducible repeat (first | apply Kd.R_alloc | apply Kd.R_drewN | apply Kd.R_drew)); exact Kd.R_mono HO427.out (fun _ hk => ⟨hk.1.2, hk.2⟩)), (bk_ BK410.out), (bk_ BK411.out), (bk_ BK417.out), (bk_ BK428.out), GW428.out, GE428.out, NB410_428.out, NB428_410.out, NB411_428.out, NB428_411.out, NB417_428.out, NB428_417.out, (bw_ HB.out)⟩)
    ·skip
     refine box_step ?hg (N := 8) ?hd (cs := #[.int .u64 0, .int .i64 0, .slice none 0 0]) (t := 33) ?hr ?_; (case hd => rfl); (case hg => rfl); (case hr => first | (go_simp; done) | (go_simp; rfl))
     intro gb428 hg w26 hbox hb
     have n0_ := Aside0.mk (Kd.S_below (by (with_reducible repeat (first | apply Kd.S_alloc | apply Kd.S_drewN | apply Kd.S_drew)); exact HO409.out) hb)
     have n1_ := Aside0.mk (Kd.R_below (by (with_reducible repeat (first | apply Kd.R_alloc | apply Kd.R_drewN | apply Kd.R_drew)); exact HO416.out) hb)
     have n2_ := Aside0.mk (Kd.R_below (by (with_reducible repeat (first | apply Kd.R_alloc | apply Kd.R_drewN | apply Kd.R_drew)); exact HO422.out) hb)
     have n3_ := Aside0.mk (blk_below (bk_ BK410.out) hb)
     have n4_ := Aside0.mk (blk_below (bk_ BK411.out) hb)
     have n5_ := Aside0.mk (blk_below (bk_ BK417.out) hb)
     have n6_ := Aside0.mk (below_step (bw_ HB.out) hb)
     have n7_ := Aside0.mk (hbox)
     have n8_ := Aside0.mk ((by rw [hg]; exact (below_size (bw_ HB.out)) : w.heap.size ≤ gb428))
     have n9_ := Aside0.mk ((by rw [hg]; exact (below_size (bw_ HB.out)) : w.heap.size ≤ gb428))
     have n10_ := Aside0.mk ((by rw [hg]; exact Nat.ne_of_lt (blk_lt (bk_ BK410.out)) : gb410 ≠ gb428))
     have n11_ := Aside0.mk ((by rw [hg]; exact Nat.ne_of_gt (blk_lt (bk_ BK410.out)) : gb428 ≠ gb410))
     have n12_ := Aside0.mk ((by rw [hg]; exact Nat.ne_of_lt (blk_lt (bk_ BK411.out)) : gb411 ≠ gb428))
     have n13_ := Aside0.mk ((by rw [hg]; exact Nat.ne_of_gt (blk_lt (bk_ BK411.out)) : gb428 ≠ gb411))
     have n14_ := Aside0.mk ((by rw [hg]; exact Nat.ne_of_lt (blk_lt (bk_ BK417.out)) : gb417 ≠ gb428))
     have n15_ := Aside0.mk ((by rw [hg]; exact Nat.ne_of_gt (blk_lt (bk_ BK417.out)) : gb428 ≠ gb417))
     clear HO409
     clear HO416
     clear HO422
     clear BK410
     clear BK411
     clear BK417
     clear HB
     have HO409 := n0_
     have HO416 := n1_
     have HO422 := n2_
     have BK410 := n3_
     have BK411 := n4_
     have BK417 := n5_
     have HB := n6_
     have BK428 := n7_
     have GW428 := n8_
     have GE428 := n9_
     have NB410_428 := n10_
     have NB428_410 := n11_
     have NB411_428 := n12_
     have NB428_411 := n13_
     have NB417_428 := n14_
     have NB428_417 := n15_
     clear n0_ n1_ n2_ n3_ n4_ n5_ n6_ n7_ n8_ n9_ n10_ n11_ n12_ n13_ n14_ n15_
     clear hb hbox hg
     obtain ⟨Ao27, co27, eo27⟩ := Kd.R_slice HO422.out
     (first | subst eo27 | (injection eo27 with f1_ f2_ f3_; have f4_ := f1_.symm; have f5_ := f3_.symm; clear f1_ f2_ f3_; subst f4_; subst f5_))
     refine hK.out _ _ ⟨(blk_cell BK411.out 0).trans rfl, (blk_cell BK411.out 1).trans rfl, (blk_cell BK417.out 0).trans rfl, (blk_cell BK417.out 1).trans rfl, (blk_cell BK417.out 2).trans rfl⟩ (fun hHeld => ?_)
     clear hK K
     refine norm_ (a' := ?_) ?_ ?_
     rotate_left
     ·show Act.put _ (some 8) _ = _
      simp only [Act.put, q1_, q2_, q3_, i64_w, i32_w]
      rfl
     refine one_ (i := 4) (N := some 29) #[true, true, true, true, true, true, false] rfl rfl (by kernel_rfl) (by decide) (fun K hK => ?_)
     refine goes_ Try.func17 (by kernel_rfl) rfl #[.agg #[.int .i64 t405, .int .i64 t406], .agg #[.int .u64 t412, .int .i64 t413, .slice Ao22 t414.length co22], .agg #[.int .u64 t418, .int .i64 t419, .slice Ao27 t420.length co27]] (by rfl) rfl rfl (by (try simp only [List.map_toArray, List.map_cons, List.map_nil]); first | done | rfl | (simp only [List.length_drop, List.length_take]; rfl)) ?_
     with_reducible refine (agg_Merge.calls t405 t406 t412 t413 _ _ t414 t418 t419 _ _ t420 t423 t424 t425 _ ?side1 ?side2 ?side3 ?side4 A7.out).mono ?_
     (case side1 => repeat (first | exact (Kd.R_reads' HO416.out).2.2 | (with_reducible refine Kd.C_alloc ?_ _) | (with_reducible refine Kd.C_drewN ?_ _) | (with_reducible refine Kd.C_drew ?_)))
     (case side2 => exact (Kd.R_reads' HO416.out).2.1)
     (case side3 => repeat (first | exact (Kd.R_reads' HO422.out).2.2 | (with_reducible refine Kd.C_alloc ?_ _) | (with_reducible refine Kd.C_drewN ?_ _) | (with_reducible refine Kd.C_drew ?_)))
     (case side4 => exact (Kd.R_reads' HO422.out).2.1)
     rintro e w28 ⟨v426, rfl, ho0, hb⟩
     refine ⟨_, rfl, ?_⟩
     have n0_ := Aside0.mk (Kd.S_elder' (by (with_reducible repeat (first | apply Kd.S_alloc | apply Kd.S_drewN | apply Kd.S_drew)); exact HO409.out) (Kd.R_base ho0) hb)
     have n1_ := Aside0.mk (Kd.R_elder' (by (with_reducible repeat (first | apply Kd.R_alloc | apply Kd.R_drewN | apply Kd.R_drew)); exact HO416.out) (Kd.R_base ho0) hb)
     have n2_ := Aside0.mk (Kd.R_elder' (by (with_reducible repeat (first | apply Kd.R_alloc | apply Kd.R_drewN | apply Kd.R_drew)); exact HO422.out) (Kd.R_base ho0) hb)
     have n3_ := Aside0.mk (Kd.R_lower (Kd.R_new' (Kd.R_new' ho0 (Kd.R_lt (by (with_reducible repeat (first | apply Kd.R_alloc | apply Kd.R_drewN | apply Kd.R_drew)); exact HO416.out))) (Kd.R_lt (by (with_reducible repeat (first | apply Kd.R_alloc | apply Kd.R_drewN | apply Kd.R_drew)); exact HO422.out))) (below_size (bw_ HB.out)))
     have n4_ := Aside0.mk (blk_below (bk_ BK410.out) hb)
     have n5_ := Aside0.mk (blk_below (bk_ BK411.out) hb)
     have n6_ := Aside0.mk (blk_below (bk_ BK417.out) hb)
     have n7_ := Aside0.mk (blk_below (bk_ BK428.out) hb)
     have n8_ := Aside0.mk (below_step (bw_ HB.out) hb)
     clear HO409
     clear HO416
     clear HO422
     clear BK410
     clear BK411
     clear BK417
     clear BK428
     clear HB
     have HO409 := n0_
     have HO416 := n1_
     have HO422 := n2_
     have HO427 := n3_
     have BK410 := n4_
     have BK411 := n5_
     have BK417 := n6_
     have BK428 := n7_
     have HB := n8_
     clear n0_ n1_ n2_ n3_ n4_ n5_ n6_ n7_ n8_
     (try clear hb)
     (try clear hb2)
     (try clear hk)
     (try clear hi)
     (try clear ho0)
     refine hK.out _ _ ⟨(blk_cell BK411.out 0).trans rfl, (blk_cell BK411.out 1).trans rfl, (blk_cell BK417.out 0).trans rfl, (blk_cell BK417.out 1).trans rfl, (blk_cell BK417.out 2).trans rfl⟩ (fun hHeld => ?_)
     clear hK K
     refine norm_ (a' := ?_) ?_ ?_
     rotate_left
     ·show Act.put _ (some 29) _ = _
      simp only [Act.put, q1_, q2_, q3_, i64_w, i32_w]
      rfl
     exact norm_ (by simp only [putAll, Act.put, q1_, q2_, q3_]) (hCont (.slice Ao27 t420.length co27, v426, gb428) _ ⟨hHeld, (by (with_reducible repeat (first | apply Kd.S_alloc | apply Kd.S_drewN | apply Kd.S_drew)); exact Kd.S_mono HO409.out (fun _ hk => ⟨hk.1.1, ⟨hk.1.2, hk.2⟩⟩)), (by (with_reducible repeat (first | apply Kd.R_alloc | apply Kd.R_drewN | apply Kd.R_drew)); exact Kd.R_mono HO416.out (fun _ hk => ⟨hk.1.2, hk.2⟩)), (by (with_reducible repeat (first | apply Kd.R_alloc | apply Kd.R_drewN | apply Kd.R_drew)); exact Kd.R_mono HO422.out (fun _ hk => ⟨hk.1.2, hk.2⟩)), (by (with_reducible repeat (first | apply Kd.R_alloc | apply Kd.R_drewN | apply Kd.R_drew)); exact Kd.R_mono HO427.out (fun _ hk => ⟨hk.1.2, hk.2⟩)), (bk_ BK410.out), (bk_ BK411.out), (bk_ BK417.out), (bk_ BK428.out), GW428.out, GE428.out, NB410_428.out, NB428_410.out, NB411_428.out, NB428_411.out, NB417_428.out, NB428_417.out, (bw_ HB.out)⟩)
   ·skip
    refine box_step ?hg (N := 8) ?hd (cs := #[.int .u64 0, .int .i64 0, .slice none 0 0]) (t := 33) ?hr ?_; (case hd => rfl); (case hg => rfl); (case hr => first | (go_simp; done) | (go_simp; rfl))
    intro gb428 hg w25 hbox hb
    have n0_ := Aside0.mk (Kd.S_below (by (with_reducible repeat (first | apply Kd.S_alloc | apply Kd.S_drewN | apply Kd.S_drew)); exact HO409.out) hb)
    have n1_ := Aside0.mk (Kd.R_below (by (with_reducible repeat (first | apply Kd.R_alloc | apply Kd.R_drewN | apply Kd.R_drew)); exact HO416.out) hb)
    have n2_ := Aside0.mk (blk_below (bk_ BK410.out) hb)
    have n3_ := Aside0.mk (blk_below (bk_ BK411.out) hb)
    have n4_ := Aside0.mk (blk_below (bk_ BK417.out) hb)
    have n5_ := Aside0.mk (below_step (bw_ HB.out) hb)
    have n6_ := Aside0.mk (hbox)
    have n7_ := Aside0.mk ((by rw [hg]; exact (below_size (bw_ HB.out)) : w.heap.size ≤ gb428))
    have n8_ := Aside0.mk ((by rw [hg]; exact (below_size (bw_ HB.out)) : w.heap.size ≤ gb428))
    have n9_ := Aside0.mk ((by rw [hg]; exact Nat.ne_of_lt (blk_lt (bk_ BK410.out)) : gb410 ≠ gb428))
    have n10_ := Aside0.mk ((by rw [hg]; exact Nat.ne_of_gt (blk_lt (bk_ BK410.out)) : gb428 ≠ gb410))
    have n11_ := Aside0.mk ((by rw [hg]; exact Nat.ne_of_lt (blk_lt (bk_ BK411.out)) : gb411 ≠ gb428))
    have n12_ := Aside0.mk ((by rw [hg]; exact Nat.ne_of_gt (blk_lt (bk_ BK411.out)) : gb428 ≠ gb411))
    have n13_ := Aside0.mk ((by rw [hg]; exact Nat.ne_of_lt (blk_lt (bk_ BK417.out)) : gb417 ≠ gb428))
    have n14_ := Aside0.mk ((by rw [hg]; exact Nat.ne_of_gt (blk_lt (bk_ BK417.out)) : gb428 ≠ gb417))
    clear HO409
    clear HO416
    clear BK410
    clear BK411
    clear BK417
    clear HB
    have HO409 := n0_
    have HO416 := n1_
    have BK410 := n2_
    have BK411 := n3_
    have BK417 := n4_
    have HB := n5_
    have BK428 := n6_
    have GW428 := n7_
    have GE428 := n8_
    have NB410_428 := n9_
    have NB428_410 := n10_
    have NB411_428 := n11_
    have NB428_411 := n12_
    have NB417_428 := n13_
    have NB428_417 := n14_
    clear n0_ n1_ n2_ n3_ n4_ n5_ n6_ n7_ n8_ n9_ n10_ n11_ n12_ n13_ n14_
    clear hb hbox hg
    refine hK.out _ _ ⟨(blk_cell BK411.out 0).trans rfl, (blk_cell BK411.out 1).trans rfl, (blk_cell BK417.out 0).trans rfl, (blk_cell BK417.out 1).trans rfl, (blk_cell BK417.out 2).trans rfl⟩ (fun hHeld => ?_)
    clear hK K
    refine norm_ (a' := ?_) ?_ ?_
    rotate_left
    ·show Act.put _ (some 8) _ = _
     simp only [Act.put, q1_, q2_, q3_, i64_w, i32_w]
     rfl
    refine one_ (i := 3) (N := some 28) #[true, true, true, true, false, true, false] rfl rfl (by kernel_rfl) (by decide) (fun K hK => ?_)
    refine goes_ Try.func18 (by kernel_rfl) rfl #[.agg #[.int .i64 t405, .int .i64 t406]] (by rfl) rfl rfl (by (try simp only [List.map_toArray, List.map_cons, List.map_nil]); first | done | rfl | (simp only [List.length_drop, List.length_take]; rfl)) ?_
    with_reducible refine (agg_Start.calls t405 t406 t418 t419 t420 _ A6.out).mono ?_
    rintro e w26 ⟨v421, rfl, ho0, hb⟩
    refine ⟨_, rfl, ?_⟩
    have n0_ := Aside0.mk (Kd.S_elder' (by (with_reducible repeat (first | apply Kd.S_alloc | apply Kd.S_drewN | apply Kd.S_drew)); exact HO409.out) (Kd.R_base ho0) hb)
    have n1_ := Aside0.mk (Kd.R_elder' (by (with_reducible repeat (first | apply Kd.R_alloc | apply Kd.R_drewN | apply Kd.R_drew)); exact HO416.out) (Kd.R_base ho0) hb)
    have n2_ := Aside0.mk (Kd.R_lower (Kd.R_new' ho0 (Kd.R_lt (by (with_reducible repeat (first | apply Kd.R_alloc | apply Kd.R_drewN | apply Kd.R_drew)); exact HO416.out))) (below_size (bw_ HB.out)))
    have n3_ := Aside0.mk (blk_below (bk_ BK410.out) hb)
    have n4_ := Aside0.mk (blk_below (bk_ BK411.out) hb)
    have n5_ := Aside0.mk (blk_below (bk_ BK417.out) hb)
    have n6_ := Aside0.mk (blk_below (bk_ BK428.out) hb)
    have n7_ := Aside0.mk (below_step (bw_ HB.out) hb)
    clear HO409
    clear HO416
    clear BK410
    clear BK411
    clear BK417
    clear BK428
    clear HB
    have HO409 := n0_
    have HO416 := n1_
    have HO422 := n2_
    have BK410 := n3_
    have BK411 := n4_
    have BK417 := n5_
    have BK428 := n6_
    have HB := n7_
    clear n0_ n1_ n2_ n3_ n4_ n5_ n6_ n7_
    (try clear hb)
    (try clear hb2)
    (try clear hk)
    (try clear hi)
    (try clear ho0)
    obtain ⟨Ao27, co27, eo27⟩ := Kd.R_slice HO422.out
    (first | subst eo27 | (injection eo27 with f1_ f2_ f3_; have f4_ := f1_.symm; have f5_ := f3_.symm; clear f1_ f2_ f3_; subst f4_; subst f5_))
    refine hK.out _ _ ⟨(blk_cell BK411.out 0).trans rfl, (blk_cell BK411.out 1).trans rfl, (blk_cell BK417.out 0).trans rfl, (blk_cell BK417.out 1).trans rfl, (blk_cell BK417.out 2).trans rfl⟩ (fun hHeld => ?_)
    clear hK K
    refine norm_ (a' := ?_) ?_ ?_
    rotate_left
    ·show Act.put _ (some 28) _ = _
     simp only [Act.put, q1_, q2_, q3_, i64_w, i32_w]
     rfl
    refine one_ (i := 4) (N := some 29) #[true, true, true, true, true, true, false] rfl rfl (by kernel_rfl) (by decide) (fun K hK => ?_)
    refine goes_ Try.func17 (by kernel_rfl) rfl #[.agg #[.int .i64 t405, .int .i64 t406], .agg #[.int .u64 t412, .int .i64 t413, .slice Ao22 t414.length co22], .agg #[.int .u64 t418, .int .i64 t419, .slice Ao27 t420.length co27]] (by rfl) rfl rfl (by (try simp only [List.map_toArray, List.map_cons, List.map_nil]); first | done | rfl | (simp only [List.length_drop, List.length_take]; rfl)) ?_
    with_reducible refine (agg_Merge.calls t405 t406 t412 t413 _ _ t414 t418 t419 _ _ t420 t423 t424 t425 _ ?side1 ?side2 ?side3 ?side4 A7.out).mono ?_
    (case side1 => repeat (first | exact (Kd.R_reads' HO416.out).2.2 | (with_reducible refine Kd.C_alloc ?_ _) | (with_reducible refine Kd.C_drewN ?_ _) | (with_reducible refine Kd.C_drew ?_)))
    (case side2 => exact (Kd.R_reads' HO416.out).2.1)
    (case side3 => repeat (first | exact (Kd.R_reads' HO422.out).2.2 | (with_reducible refine Kd.C_alloc ?_ _) | (with_reducible refine Kd.C_drewN ?_ _) | (with_reducible refine Kd.C_drew ?_)))
    (case side4 => exact (Kd.R_reads' HO422.out).2.1)
    rintro e w28 ⟨v426, rfl, ho0, hb⟩
    refine ⟨_, rfl, ?_⟩
    have n0_ := Aside0.mk (Kd.S_elder' (by (with_reducible repeat (first | apply Kd.S_alloc | apply Kd.S_drewN | apply Kd.S_drew)); exact HO409.out) (Kd.R_base ho0) hb)
    have n1_ := Aside0.mk (Kd.R_elder' (by (with_reducible repeat (first | apply Kd.R_alloc | apply Kd.R_drewN | apply Kd.R_drew)); exact HO416.out) (Kd.R_base ho0) hb)
    have n2_ := Aside0.mk (Kd.R_elder' (by (with_reducible repeat (first | apply Kd.R_alloc | apply Kd.R_drewN | apply Kd.R_drew)); exact HO422.out) (Kd.R_base ho0) hb)
    have n3_ := Aside0.mk (Kd.R_lower (Kd.R_new' (Kd.R_new' ho0 (Kd.R_lt (by (with_reducible repeat (first | apply Kd.R_alloc | apply Kd.R_drewN | apply Kd.R_drew)); exact HO416.out))) (Kd.R_lt (by (with_reducible repeat (first | apply Kd.R_alloc | apply Kd.R_drewN | apply Kd.R_drew)); exact HO422.out))) (below_size (bw_ HB.out)))
    have n4_ := Aside0.mk (blk_below (bk_ BK410.out) hb)
    have n5_ := Aside0.mk (blk_below (bk_ BK411.out) hb)
    have n6_ := Aside0.mk (blk_below (bk_ BK417.out) hb)
    have n7_ := Aside0.mk (blk_below (bk_ BK428.out) hb)
    have n8_ := Aside0.mk (below_step (bw_ HB.out) hb)
    clear HO409
    clear HO416
    clear HO422
    clear BK410
    clear BK411
    clear BK417
    clear BK428
    clear HB
    have HO409 := n0_
    have HO416 := n1_
    have HO422 := n2_
    have HO427 := n3_
    have BK410 := n4_
    have BK411 := n5_
    have BK417 := n6_
    have BK428 := n7_
    have HB := n8_
    clear n0_ n1_ n2_ n3_ n4_ n5_ n6_ n7_ n8_
    (try clear hb)
    (try clear hb2)
    (try clear hk)
    (try clear hi)
    (try clear ho0)
    refine hK.out _ _ ⟨(blk_cell BK411.out 0).trans rfl, (blk_cell BK411.out 1).trans rfl, (blk_cell BK417.out 0).trans rfl, (blk_cell BK417.out 1).trans rfl, (blk_cell BK417.out 2).trans rfl⟩ (fun hHeld => ?_)
    clear hK K
    refine norm_ (a' := ?_) ?_ ?_
    rotate_left
    ·show Act.put _ (some 29) _ = _
     simp only [Act.put, q1_, q2_, q3_, i64_w, i32_w]
     rfl
    exact norm_ (by simp only [putAll, Act.put, q1_, q2_, q3_]) (hCont (.slice Ao27 t420.length co27, v426, gb428) _ ⟨hHeld, (by (with_reducible repeat (first | apply Kd.S_alloc | apply Kd.S_drewN | apply Kd.S_drew)); exact Kd.S_mono HO409.out (fun _ hk => ⟨hk.1.1, ⟨hk.1.2, hk.2⟩⟩)), (by (with_reducible repeat (first | apply Kd.R_alloc | apply Kd.R_drewN | apply Kd.R_drew)); exact Kd.R_mono HO416.out (fun _ hk => ⟨hk.1.2, hk.2⟩)), (by (with_reducible repeat (first | apply Kd.R_alloc | apply Kd.R_drewN | apply Kd.R_drew)); exact Kd.R_mono HO422.out (fun _ hk => ⟨hk.1.2, hk.2⟩)), (by (with_reducible repeat (first | apply Kd.R_alloc | apply Kd.R_drewN | apply Kd.R_drew)); exact Kd.R_mono HO427.out (fun _ hk => ⟨hk.1.2, hk.2⟩)), (bk_ BK410.out), (bk_ BK411.out), (bk_ BK417.out), (bk_ BK428.out), GW428.out, GE428.out, NB410_428.out, NB428_410.out, NB411_428.out, NB428_411.out, NB417_428.out, NB428_417.out, (bw_ HB.out)⟩)
  rintro ⟨v421, v426, gb428⟩ w29 ⟨hS_, h0_, h1_, h2_, h3_, h4_, h5_, h6_, h7_, h8_, h9_, h10_, h11_, h12_, h13_, h14_, h15_, h16_⟩
  have n0_ : Aside0 (Kd.S k44 44 w29 w.heap.size (fun k_ => some k_ ≠ (.slice Ao22 t414.length co22 : Value).ownBlock ∧ some k_ ≠ (v421 : Value).ownBlock ∧ some k_ ≠ (v426 : Value).ownBlock) (.slice Ao16 t407.length co16) t407) := ⟨h0_⟩
  have n1_ : Aside0 (Kd.R Kd.string 9 w29 w.heap.size (fun k_ => some k_ ≠ (v421 : Value).ownBlock ∧ some k_ ≠ (v426 : Value).ownBlock) (.slice Ao22 t414.length co22) t414) := ⟨h1_⟩
  have n2_ : Aside0 (Kd.R Kd.string 9 w29 w.heap.size (fun k_ => some k_ ≠ (.slice Ao22 t414.length co22 : Value).ownBlock ∧ some k_ ≠ (v426 : Value).ownBlock) v421 t420) := ⟨h2_⟩
  have n3_ : Aside0 (Kd.R Kd.string 9 w29 w.heap.size (fun k_ => some k_ ≠ (.slice Ao22 t414.length co22 : Value).ownBlock ∧ some k_ ≠ (v421 : Value).ownBlock) v426 t425) := ⟨h3_⟩
  have n4_ : Aside0 (w29.heap[gb410]? = some (.cells #[.int .i64 t403, .int .i64 t404] 27 (0, 0))) := ⟨h4_⟩
  have n5_ : Aside0 (w29.heap[gb411]? = some (.cells #[.int .i64 t405, .int .i64 t406] 23 (0, 0))) := ⟨h5_⟩
  have n6_ : Aside0 (w29.heap[gb417]? = some (.cells #[.int .u64 t412, .int .i64 t413, .slice Ao22 t414.length co22] 33 (0, 0))) := ⟨h6_⟩
  have n7_ : Aside0 (w29.heap[gb428]? = some (.cells #[.int .u64 0, .int .i64 0, .slice none 0 0] 33 (0, 0))) := ⟨h7_⟩
  have n8_ : Aside0 (w.heap.size ≤ gb428) := ⟨h8_⟩
  have n9_ : Aside0 (w.heap.size ≤ gb428) := ⟨h9_⟩
  have n10_ : Aside0 (gb410 ≠ gb428) := ⟨h10_⟩
  have n11_ : Aside0 (gb428 ≠ gb410) := ⟨h11_⟩
  have n12_ : Aside0 (gb411 ≠ gb428) := ⟨h12_⟩
  have n13_ : Aside0 (gb428 ≠ gb411) := ⟨h13_⟩
  have n14_ : Aside0 (gb417 ≠ gb428) := ⟨h14_⟩
  have n15_ : Aside0 (gb428 ≠ gb417) := ⟨h15_⟩
  have n16_ : Aside0 (Below w.heap.size w w29) := ⟨h16_⟩
  clear HO409
  clear HO416
  clear BK410
  clear BK411
  clear BK417
  clear HB
  clear h0_ h1_ h2_ h3_ h4_ h5_ h6_ h7_ h8_ h9_ h10_ h11_ h12_ h13_ h14_ h15_ h16_
  have HO409 := n0_
  have HO416 := n1_
  have HO422 := n2_
  have HO427 := n3_
  have BK410 := n4_
  have BK411 := n5_
  have BK417 := n6_
  have BK428 := n7_
  have GW428 := n8_
  have GE428 := n9_
  have NB410_428 := n10_
  have NB428_410 := n11_
  have NB411_428 := n12_
  have NB428_411 := n13_
  have NB417_428 := n14_
  have NB428_417 := n15_
  have HB := n16_
  clear n0_ n1_ n2_ n3_ n4_ n5_ n6_ n7_ n8_ n9_ n10_ n11_ n12_ n13_ n14_ n15_ n16_
  have hHeld : w29.cell? ⟨gb411, 0, none⟩ = some (.int .i64 t405) ∧ w29.cell? ⟨gb411, 1, none⟩ = some (.int .i64 t406) ∧ w29.cell? ⟨gb417, 0, none⟩ = some (.int .u64 t412) ∧ w29.cell? ⟨gb417, 1, none⟩ = some (.int .i64 t413) ∧ w29.cell? ⟨gb417, 2, none⟩ = some (.slice Ao22 t414.length co22) := hS_
  obtain ⟨Ao32, co32, eo32⟩ := Kd.R_slice HO427.out
  (first | subst eo32 | (injection eo32 with f1_ f2_ f3_; have f4_ := f1_.symm; have f5_ := f3_.symm; clear f1_ f2_ f3_; subst f4_; subst f5_))
  refine norm_ (a' := ?_) ?_ ?_
  rotate_left
  ·simp only [putAll, Act.put, q1_, q2_, q3_]
   rfl
  refine one_ (i := 6) (N := none) #[true, true, true, true, true, true, true] rfl rfl (by kernel_rfl) (by decide) (fun K hK => ?_)
  have hs30 : w29.cell? ⟨gb428, 0, none⟩ = some (.int .u64 0) := (blk_cell BK428.out 0).trans rfl
  have hfs30 := blk_frozen BK428.out 0
  have hns30_0 := NB410_428.out
  have hns30_1 := NB411_428.out
  have hns30_2 := NB417_428.out
  have hms30_0 := NB428_410.out
  have hms30_1 := NB428_411.out
  have hms30_2 := NB428_417.out
  have hs31 : w29.cell? ⟨gb428, 1, none⟩ = some (.int .i64 0) := (blk_cell BK428.out 1).trans rfl
  have hfs31 := blk_frozen BK428.out 1
  have hns31_0 := NB410_428.out
  have hns31_1 := NB411_428.out
  have hns31_2 := NB417_428.out
  have hms31_0 := NB428_410.out
  have hms31_1 := NB428_411.out
  have hms31_2 := NB428_417.out
  have hs33 : w29.cell? ⟨gb428, 2, none⟩ = some (.slice none 0 0) := (blk_cell BK428.out 2).trans rfl
  have hfs33 := blk_frozen BK428.out 2
  have hns33_0 := NB410_428.out
  have hns33_1 := NB411_428.out
  have hns33_2 := NB417_428.out
  have hms33_0 := NB428_410.out
  have hms33_1 := NB428_411.out
  have hms33_2 := NB428_417.out
  refine skip_ (w1 := ?_) (by rfl) rfl ?_ ?_
  rotate_left
  ·go_simp
   rfl
  refine hK.out _ _ ⟨((cell_far (p := ⟨gb428, _, none⟩) NB411_428.out _).trans (((cell_far (p := ⟨gb428, _, none⟩) NB411_428.out _).trans (((cell_far (p := ⟨gb428, _, none⟩) NB411_428.out _).trans (hHeld.1)))))), ((cell_far (p := ⟨gb428, _, none⟩) NB411_428.out _).trans (((cell_far (p := ⟨gb428, _, none⟩) NB411_428.out _).trans (((cell_far (p := ⟨gb428, _, none⟩) NB411_428.out _).trans (hHeld.2.1)))))), ((cell_far (p := ⟨gb428, _, none⟩) NB417_428.out _).trans (((cell_far (p := ⟨gb428, _, none⟩) NB417_428.out _).trans (((cell_far (p := ⟨gb428, _, none⟩) NB417_428.out _).trans (hHeld.2.2.1)))))), ((cell_far (p := ⟨gb428, _, none⟩) NB417_428.out _).trans (((cell_far (p := ⟨gb428, _, none⟩) NB417_428.out _).trans (((cell_far (p := ⟨gb428, _, none⟩) NB417_428.out _).trans (hHeld.2.2.2.1)))))), ((cell_far (p := ⟨gb428, _, none⟩) NB417_428.out _).trans (((cell_far (p := ⟨gb428, _, none⟩) NB417_428.out _).trans (((cell_far (p := ⟨gb428, _, none⟩) NB417_428.out _).trans (hHeld.2.2.2.2))))))⟩ (fun hHeld => ?_)
  clear hK K
  refine done_ (by kernel_rfl) ?_
  have hnb34 := NB411_428.out
  have hnc34 := NB428_411.out
  have hcz35_0 : w29.cell? ⟨gb411, 0, none⟩ = some (.int .i64 t405) := (blk_cell BK411.out 0).trans rfl
  have hcz35_1 : w29.cell? ⟨gb411, 1, none⟩ = some (.int .i64 t406) := (blk_cell BK411.out 1).trans rfl
  have hfz35_0 := blk_frozen BK411.out 0
  have hfz35_1 := blk_frozen BK411.out 1
  have hnb36 := NB417_428.out
  have hnc36 := NB428_417.out
  have hcz37_0 : w29.cell? ⟨gb417, 0, none⟩ = some (.int .u64 t412) := (blk_cell BK417.out 0).trans rfl
  have hcz37_1 : w29.cell? ⟨gb417, 1, none⟩ = some (.int .i64 t413) := (blk_cell BK417.out 1).trans rfl
  have hcz37_2 : w29.cell? ⟨gb417, 2, none⟩ = some (.slice Ao22 t414.length co22) := (blk_cell BK417.out 2).trans rfl
  have hfz37_0 := blk_frozen BK417.out 0
  have hfz37_1 := blk_frozen BK417.out 1
  have hfz37_2 := blk_frozen BK417.out 2
  try go_wp2_with (first | ((with_reducible refine gate_dst (N := 32) rfl ?_); refine Kd.R_lit Kd.string _ 9 ?hg (N := 32) ?hd (xs := ([(⟨#[97]⟩ : ByteArray), (⟨#[98]⟩ : ByteArray)] : List ByteArray)) (inner := [.string (⟨#[97]⟩ : ByteArray), .string (⟨#[98]⟩ : ByteArray)]) (ok := fun _ => True) (okp := fun _ => True) ?hr ?hp (fun _ hk => hk) trivial (Below.refl _ _) (Nat.le_refl _) (by simp) ?_; (case hd => rfl); (case hg => rfl); (case hr => first | (go_simp; done) | (go_simp; rfl)); (case hp => exact (Reps.one (show Kd.M Kd.string _ _ _ (⟨#[97]⟩ : ByteArray) [.string (⟨#[97]⟩ : ByteArray)] from rfl) (Reps.one (show Kd.M Kd.string _ _ _ (⟨#[98]⟩ : ByteArray) [.string (⟨#[98]⟩ : ByteArray)] from rfl) (Reps.none _ _)))); intro v430 w38 ho39 hb hg_ hnew_; clear hg_ hnew_; (first | rw [← Ny429.out] at ho39 | (simp only [Int.reduceToNat] at ho39; rw [← Ny429.out] at ho39)); have n0_ := Aside0.mk (Kd.S_elder' (by (with_reducible repeat (first | apply Kd.S_alloc | apply Kd.S_drewN | apply Kd.S_drew)); exact (Kd.S_mono (Kd.S_far (p := ⟨gb428, 2, none⟩) (Kd.S_far (p := ⟨gb428, 1, none⟩) (Kd.S_far (p := ⟨gb428, 0, none⟩) (Kd.S_types HO409.out BK428.out (by decide)) (fun _ hk => hk.2) (.int .u64 t423)) (fun _ hk => hk.2) (.int .i64 t424)) (fun _ hk => hk.2) (.slice Ao32 t425.length co32)) (fun _ h_ => h_.1))) (Kd.R_base ho39) hb); have n1_ := Aside0.mk (Kd.R_elder' (by (with_reducible repeat (first | apply Kd.R_alloc | apply Kd.R_drewN | apply Kd.R_drew)); exact (Kd.R_mono (Kd.R_far (p := ⟨gb428, 2, none⟩) (Kd.R_far (p := ⟨gb428, 1, none⟩) (Kd.R_far (p := ⟨gb428, 0, none⟩) (Kd.R_types HO416.out BK428.out (by decide)) (fun _ hk => hk.2) (.int .u64 t423)) (fun _ hk => hk.2) (.int .i64 t424)) (fun _ hk => hk.2) (.slice Ao32 t425.length co32)) (fun _ h_ => h_.1))) (Kd.R_base ho39) hb); have n2_ := Aside0.mk (Kd.R_elder' (by (with_reducible repeat (first | apply Kd.R_alloc | apply Kd.R_drewN | apply Kd.R_drew)); exact (Kd.R_mono (Kd.R_far (p := ⟨gb428, 2, none⟩) (Kd.R_far (p := ⟨gb428, 1, none⟩) (Kd.R_far (p := ⟨gb428, 0, none⟩) (Kd.R_types HO422.out BK428.out (by decide)) (fun _ hk => hk.2) (.int .u64 t423)) (fun _ hk => hk.2) (.int .i64 t424)) (fun _ hk => hk.2) (.slice Ao32 t425.length co32)) (fun _ h_ => h_.1))) (Kd.R_base ho39) hb); have n3_ := Aside0.mk (Kd.R_elder' (by (with_reducible repeat (first | apply Kd.R_alloc | apply Kd.R_drewN | apply Kd.R_drew)); exact (Kd.R_mono (Kd.R_far (p := ⟨gb428, 2, none⟩) (Kd.R_far (p := ⟨gb428, 1, none⟩) (Kd.R_far (p := ⟨gb428, 0, none⟩) (Kd.R_types HO427.out BK428.out (by decide)) (fun _ hk => hk.2) (.int .u64 t423)) (fun _ hk => hk.2) (.int .i64 t424)) (fun _ hk => hk.2) (.slice Ao32 t425.length co32)) (fun _ h_ => h_.1))) (Kd.R_base ho39) hb); have n4_ := Aside0.mk (Kd.R_lower (Kd.R_new' (Kd.R_new' (Kd.R_new' ho39 (Kd.R_lt (by (with_reducible repeat (first | apply Kd.R_alloc | apply Kd.R_drewN | apply Kd.R_drew)); exact (Kd.R_mono (Kd.R_far (p := ⟨gb428, 2, none⟩) (Kd.R_far (p := ⟨gb428, 1, none⟩) (Kd.R_far (p := ⟨gb428, 0, none⟩) (Kd.R_types HO416.out BK428.out (by decide)) (fun _ hk => hk.2) (.int .u64 t423)) (fun _ hk => hk.2) (.int .i64 t424)) (fun _ hk => hk.2) (.slice Ao32 t425.length co32)) (fun _ h_ => h_.1))))) (Kd.R_lt (by (with_reducible repeat (first | apply Kd.R_alloc | apply Kd.R_drewN | apply Kd.R_drew)); exact (Kd.R_mono (Kd.R_far (p := ⟨gb428, 2, none⟩) (Kd.R_far (p := ⟨gb428, 1, none⟩) (Kd.R_far (p := ⟨gb428, 0, none⟩) (Kd.R_types HO422.out BK428.out (by decide)) (fun _ hk => hk.2) (.int .u64 t423)) (fun _ hk => hk.2) (.int .i64 t424)) (fun _ hk => hk.2) (.slice Ao32 t425.length co32)) (fun _ h_ => h_.1))))) (Kd.R_lt (by (with_reducible repeat (first | apply Kd.R_alloc | apply Kd.R_drewN | apply Kd.R_drew)); exact (Kd.R_mono (Kd.R_far (p := ⟨gb428, 2, none⟩) (Kd.R_far (p := ⟨gb428, 1, none⟩) (Kd.R_far (p := ⟨gb428, 0, none⟩) (Kd.R_types HO427.out BK428.out (by decide)) (fun _ hk => hk.2) (.int .u64 t423)) (fun _ hk => hk.2) (.int .i64 t424)) (fun _ hk => hk.2) (.slice Ao32 t425.length co32)) (fun _ h_ => h_.1))))) (below_size (bw_ HB.out))); have n5_ := Aside0.mk (blk_below (g := gb410) (o := .cells #[.int .i64 t403, .int .i64 t404] 27 (0, 0)) (by (with_reducible repeat (first | refine blk_drewN ?_ _ | refine blk_drew ?_ | refine blk_alloc ?_ _)); refine blk_far ?_ NB410_428.out _; (with_reducible repeat (first | refine blk_drewN ?_ _ | refine blk_drew ?_ | refine blk_alloc ?_ _)); refine blk_far ?_ NB410_428.out _; (with_reducible repeat (first | refine blk_drewN ?_ _ | refine blk_drew ?_ | refine blk_alloc ?_ _)); refine blk_far ?_ NB410_428.out _; (with_reducible repeat (first | refine blk_drewN ?_ _ | refine blk_drew ?_ | refine blk_alloc ?_ _)); exact BK410.out) hb); have n6_ := Aside0.mk (blk_below (g := gb411) (o := .cells #[.int .i64 t405, .int .i64 t406] 23 (0, 0)) (by (with_reducible repeat (first | refine blk_drewN ?_ _ | refine blk_drew ?_ | refine blk_alloc ?_ _)); refine blk_far ?_ NB411_428.out _; (with_reducible repeat (first | refine blk_drewN ?_ _ | refine blk_drew ?_ | refine blk_alloc ?_ _)); refine blk_far ?_ NB411_428.out _; (with_reducible repeat (first | refine blk_drewN ?_ _ | refine blk_drew ?_ | refine blk_alloc ?_ _)); refine blk_far ?_ NB411_428.out _; (with_reducible repeat (first | refine blk_drewN ?_ _ | refine blk_drew ?_ | refine blk_alloc ?_ _)); exact BK411.out) hb); have n7_ := Aside0.mk (blk_below (g := gb417) (o := .cells #[.int .u64 t412, .int .i64 t413, .slice Ao22 t414.length co22] 33 (0, 0)) (by (with_reducible repeat (first | refine blk_drewN ?_ _ | refine blk_drew ?_ | refine blk_alloc ?_ _)); refine blk_far ?_ NB417_428.out _; (with_reducible repeat (first | refine blk_drewN ?_ _ | refine blk_drew ?_ | refine blk_alloc ?_ _)); refine blk_far ?_ NB417_428.out _; (with_reducible repeat (first | refine blk_drewN ?_ _ | refine blk_drew ?_ | refine blk_alloc ?_ _)); refine blk_far ?_ NB417_428.out _; (with_reducible repeat (first | refine blk_drewN ?_ _ | refine blk_drew ?_ | refine blk_alloc ?_ _)); exact BK417.out) hb); have n8_ := Aside0.mk (blk_below (g := gb428) (o := .cells #[.int .u64 t423, .int .i64 t424, .slice Ao32 t425.length co32] 33 (0, 0)) (by (with_reducible repeat (first | refine blk_drewN ?_ _ | refine blk_drew ?_ | refine blk_alloc ?_ _)); refine blk_put (cs := #[.int .u64 t423, .int .i64 t424, .slice none 0 0]) ?_ 2 _ rfl; (with_reducible repeat (first | refine blk_drewN ?_ _ | refine blk_drew ?_ | refine blk_alloc ?_ _)); refine blk_put (cs := #[.int .u64 t423, .int .i64 0, .slice none 0 0]) ?_ 1 _ rfl; (with_reducible repeat (first | refine blk_drewN ?_ _ | refine blk_drew ?_ | refine blk_alloc ?_ _)); refine blk_put (cs := #[.int .u64 0, .int .i64 0, .slice none 0 0]) ?_ 0 _ rfl; (with_reducible repeat (first | refine blk_drewN ?_ _ | refine blk_drew ?_ | refine blk_alloc ?_ _)); exact BK428.out) hb); have n9_ := Aside0.mk (below_step (bw_ HB.out) hb); clear HO409 HO416 HO422 HO427 BK410 BK411 BK417 BK428 HB; have HO409 := n0_; have HO416 := n1_; have HO422 := n2_; have HO427 := n3_; have HO431 := n4_; have BK410 := n5_; have BK411 := n6_; have BK417 := n7_; have BK428 := n8_; have HB := n9_; clear n0_ n1_ n2_ n3_ n4_ n5_ n6_ n7_ n8_ n9_; clear hb ho39; obtain ⟨Ao40, co40, eo40⟩ := Kd.R_slice HO431.out; subst eo40) | ((with_reducible refine gate_callee (f := 19) rfl ?_); refine goesL_ (some 34) rfl rfl Try.func19 (by kernel_rfl) rfl #[.agg #[.int .i64 t405, .int .i64 t406], .agg #[.int .u64 t412, .int .i64 t413, .slice Ao22 t414.length co22], .agg #[.int .i64 0, .slice Ao40 y429.length co40, .slice none 0 0], .int .u64 0] rfl (by (try simp only [List.map_toArray, List.map_cons, List.map_nil]); first | done | rfl | (simp only [List.length_drop, List.length_take]; rfl)) ?_; (refine (agg_Add.calls t405 t406 t412 t413 _ _ t414 0 _ _ y429 _ _ ([] : List Int) 0 t432 t433 t434 _ ?side1 ?side2 ?side3 ?side4 ?side5 ?side6 A8.out).mono ?_); (case side1 => repeat (first | exact (Kd.R_reads' HO416.out).2.2 | (with_reducible refine Kd.C_alloc ?_ _) | (with_reducible refine Kd.C_drewN ?_ _) | (with_reducible refine Kd.C_drew ?_))); (case side2 => exact (Kd.R_reads' HO416.out).2.1); (case side3 => repeat (first | exact (Kd.R_reads' HO431.out).2.2 | (with_reducible refine Kd.C_alloc ?_ _) | (with_reducible refine Kd.C_drewN ?_ _) | (with_reducible refine Kd.C_drew ?_))); (case side4 => exact (Kd.R_reads' HO431.out).2.1); (case side5 => exact Kd.C_nil _ _); (case side6 => exact Nat.le_refl _); rintro e w41 ⟨v435, rfl, ho0, hb⟩; refine ⟨_, rfl, ?_⟩; have n0_ := Aside0.mk (Kd.S_elder' (by (with_reducible repeat (first | apply Kd.S_alloc | apply Kd.S_drewN | apply Kd.S_drew)); exact HO409.out) (Kd.R_base ho0) hb); have n1_ := Aside0.mk (Kd.R_elder' (by (with_reducible repeat (first | apply Kd.R_alloc | apply Kd.R_drewN | apply Kd.R_drew)); exact HO416.out) (Kd.R_base ho0) hb); have n2_ := Aside0.mk (Kd.R_elder' (by (with_reducible repeat (first | apply Kd.R_alloc | apply Kd.R_drewN | apply Kd.R_drew)); exact HO422.out) (Kd.R_base ho0) hb); have n3_ := Aside0.mk (Kd.R_elder' (by (with_reducible repeat (first | apply Kd.R_alloc | apply Kd.R_drewN | apply Kd.R_drew)); exact HO427.out) (Kd.R_base ho0) hb); have n4_ := Aside0.mk (Kd.R_elder' (by (with_reducible repeat (first | apply Kd.R_alloc | apply Kd.R_drewN | apply Kd.R_drew)); exact HO431.out) (Kd.R_base ho0) hb); have n5_ := Aside0.mk (Kd.R_lower (Kd.R_new' (Kd.R_new' (Kd.R_new' (Kd.R_new' ho0 (Kd.R_lt (by (with_reducible repeat (first | apply Kd.R_alloc | apply Kd.R_drewN | apply Kd.R_drew)); exact HO416.out))) (Kd.R_lt (by (with_reducible repeat (first | apply Kd.R_alloc | apply Kd.R_drewN | apply Kd.R_drew)); exact HO422.out))) (Kd.R_lt (by (with_reducible repeat (first | apply Kd.R_alloc | apply Kd.R_drewN | apply Kd.R_drew)); exact HO427.out))) (Kd.R_lt (by (with_reducible repeat (first | apply Kd.R_alloc | apply Kd.R_drewN | apply Kd.R_drew)); exact HO431.out))) (below_size (bw_ HB.out))); have n6_ := Aside0.mk (blk_below (bk_ BK410.out) hb); have n7_ := Aside0.mk (blk_below (bk_ BK411.out) hb); have n8_ := Aside0.mk (blk_below (bk_ BK417.out) hb); have n9_ := Aside0.mk (blk_below (bk_ BK428.out) hb); have n10_ := Aside0.mk (below_step (bw_ HB.out) hb); clear HO409 HO416 HO422 HO427 HO431 BK410 BK411 BK417 BK428 HB; have HO409 := n0_; have HO416 := n1_; have HO422 := n2_; have HO427 := n3_; have HO431 := n4_; have HO436 := n5_; have BK410 := n6_; have BK411 := n7_; have BK417 := n8_; have BK428 := n9_; have HB := n10_; clear n0_ n1_ n2_ n3_ n4_ n5_ n6_ n7_ n8_ n9_ n10_; (try clear hb); (try clear hb2); (try clear hk); (try clear hi); (try clear ho0)) | ((with_reducible refine gate_dst (N := 9) rfl ?_); refine bx_ (N := 9) (cs := #[.int .u64 0, .int .i64 0, .slice none 0 0]) (t := 33) ?_; intro gb437 hg w42 hbox hb; have n0_ := Aside0.mk (Kd.S_below (by (with_reducible repeat (first | apply Kd.S_alloc | apply Kd.S_drewN | apply Kd.S_drew)); exact HO409.out) hb); have n1_ := Aside0.mk (Kd.R_below (by (with_reducible repeat (first | apply Kd.R_alloc | apply Kd.R_drewN | apply Kd.R_drew)); exact HO416.out) hb); have n2_ := Aside0.mk (Kd.R_below (by (with_reducible repeat (first | apply Kd.R_alloc | apply Kd.R_drewN | apply Kd.R_drew)); exact HO422.out) hb); have n3_ := Aside0.mk (Kd.R_below (by (with_reducible repeat (first | apply Kd.R_alloc | apply Kd.R_drewN | apply Kd.R_drew)); exact HO427.out) hb); have n4_ := Aside0.mk (Kd.R_below (by (with_reducible repeat (first | apply Kd.R_alloc | apply Kd.R_drewN | apply Kd.R_drew)); exact HO431.out) hb); have n5_ := Aside0.mk (Kd.R_below (by (with_reducible repeat (first | apply Kd.R_alloc | apply Kd.R_drewN | apply Kd.R_drew)); exact HO436.out) hb); have n6_ := Aside0.mk (blk_below (bk_ BK410.out) hb); have n7_ := Aside0.mk (blk_below (bk_ BK411.out) hb); have n8_ := Aside0.mk (blk_below (bk_ BK417.out) hb); have n9_ := Aside0.mk (blk_below (bk_ BK428.out) hb); have n10_ := Aside0.mk (below_step (bw_ HB.out) hb); have n11_ := Aside0.mk (hbox); have n12_ := Aside0.mk (sz_ hg (bw_ HB.out)); have n13_ := n12_; have n14_ := Aside0.mk (ne_ hg (blk_lt (bk_ BK410.out))); have n15_ := Aside0.mk n14_.out.symm; have n16_ := Aside0.mk (ne_ hg (blk_lt (bk_ BK411.out))); have n17_ := Aside0.mk n16_.out.symm; have n18_ := Aside0.mk (ne_ hg (blk_lt (bk_ BK417.out))); have n19_ := Aside0.mk n18_.out.symm; have n20_ := Aside0.mk (ne_ hg (blk_lt (bk_ BK428.out))); have n21_ := Aside0.mk n20_.out.symm; clear HO409 HO416 HO422 HO427 HO431 HO436 BK410 BK411 BK417 BK428 HB; have HO409 := n0_; have HO416 := n1_; have HO422 := n2_; have HO427 := n3_; have HO431 := n4_; have HO436 := n5_; have BK410 := n6_; have BK411 := n7_; have BK417 := n8_; have BK428 := n9_; have HB := n10_; have BK437 := n11_; have GW437 := n12_; have GE437 := n13_; have NB410_437 := n14_; have NB437_410 := n15_; have NB411_437 := n16_; have NB437_411 := n17_; have NB417_437 := n18_; have NB437_417 := n19_; have NB428_437 := n20_; have NB437_428 := n21_; clear n0_ n1_ n2_ n3_ n4_ n5_ n6_ n7_ n8_ n9_ n10_ n11_ n12_ n13_ n14_ n15_ n16_ n17_ n18_ n19_ n20_ n21_; clear hb hbox hg; have hnb43 := NB437_410.out; have hnc43 := NB410_437.out; have hnb44 := NB437_411.out; have hnc44 := NB411_437.out; have hnb45 := NB437_417.out; have hnc45 := NB417_437.out; have hnb46 := NB437_428.out; have hnc46 := NB428_437.out; have hcz47_0 : w42.cell? ⟨gb437, 0, none⟩ = some (.int .u64 0) := (blk_cell BK437.out 0).trans rfl; have hcz47_1 : w42.cell? ⟨gb437, 1, none⟩ = some (.int .i64 0) := (blk_cell BK437.out 1).trans rfl; have hcz47_2 : w42.cell? ⟨gb437, 2, none⟩ = some (.slice none 0 0) := (blk_cell BK437.out 2).trans rfl; have hfz47_0 := blk_frozen BK437.out 0; have hfz47_1 := blk_frozen BK437.out 1; have hfz47_2 := blk_frozen BK437.out 2; obtain ⟨Ao48, co48, eo48⟩ := Kd.R_slice HO436.out; subst eo48))
  go_loopg [10] k (fun kq v10 w' => ∃ (x10_1 : Int) (x418002_1 : List ByteArray) (x429002_1 : List ByteArray) (x438002_1 : List ByteArray) (u418002 : Value) (u429002 : Value) (u438002 : Value), v10 = .int .i64 x10_1 ∧ Aside0 (gristmilllaw06_AggOwn.l0 kq t407 x10_1 t405 t406 t412 t413 x418002_1 t423 t424 x429002_1 t432 t433 x438002_1 = some r) ∧ Aside0 (kq ≤ k) ∧ Aside0 (Kd.S k44 44 w' w.heap.size (fun k_ => some k_ ≠ (u418002 : Value).ownBlock ∧ some k_ ≠ (u429002 : Value).ownBlock ∧ some k_ ≠ (u438002 : Value).ownBlock) (.slice Ao16 t407.length co16) t407) ∧ Aside0 (Kd.R Kd.string 9 w' w.heap.size (fun k_ => some k_ ≠ (u429002 : Value).ownBlock ∧ some k_ ≠ (u438002 : Value).ownBlock) u418002 x418002_1) ∧ Aside0 (Kd.R Kd.string 9 w' w.heap.size (fun k_ => some k_ ≠ (u418002 : Value).ownBlock ∧ some k_ ≠ (u438002 : Value).ownBlock) u429002 x429002_1) ∧ Aside0 (Kd.R Kd.string 9 w' w.heap.size (fun k_ => some k_ ≠ (u418002 : Value).ownBlock ∧ some k_ ≠ (u429002 : Value).ownBlock) u438002 x438002_1) ∧ Aside0 (w'.heap[gb410]? = some (.cells #[.int .i64 t403, .int .i64 t404] 27 (0, 0))) ∧ Aside0 (w'.heap[gb411]? = some (.cells #[.int .i64 t405, .int .i64 t406] 23 (0, 0))) ∧ Aside0 (w'.heap[gb417]? = some (.cells #[.int .u64 t412, .int .i64 t413, u418002] 33 (0, 0))) ∧ Aside0 (w'.heap[gb428]? = some (.cells #[.int .u64 t423, .int .i64 t424, u429002] 33 (0, 0))) ∧ Aside0 (w'.heap[gb437]? = some (.cells #[.int .u64 t432, .int .i64 t433, u438002] 33 (0, 0))) ∧ Aside0 (Below w.heap.size w w'))
  case atStart => exact ⟨(0), (t414), (t425), (t434), (.slice Ao22 t414.length co22), (.slice Ao32 t425.length co32), (.slice Ao48 t434.length co48), (by first | rfl | (simp; done) | (simp [*]; done)), H', ⟨Nat.le_refl _⟩, ⟨by (with_reducible repeat (first | apply Kd.S_alloc | apply Kd.S_drewN | apply Kd.S_drew)); exact Kd.S_mono (Kd.S_far (p := ⟨gb437, 2, none⟩) (Kd.S_far (p := ⟨gb437, 1, none⟩) (Kd.S_far (p := ⟨gb437, 0, none⟩) (Kd.S_types HO409.out BK437.out (by decide)) (fun _ hk => hk.2) (.int .u64 t432)) (fun _ hk => hk.2) (.int .i64 t433)) (fun _ hk => hk.2) (.slice Ao48 t434.length co48)) (fun _ hk => ⟨hk.1.1.1.1, ⟨hk.1.1.1.2.2, hk.1.2⟩⟩)⟩, ⟨by (with_reducible repeat (first | apply Kd.R_alloc | apply Kd.R_drewN | apply Kd.R_drew)); exact Kd.R_mono (Kd.R_far (p := ⟨gb437, 2, none⟩) (Kd.R_far (p := ⟨gb437, 1, none⟩) (Kd.R_far (p := ⟨gb437, 0, none⟩) (Kd.R_types HO416.out BK437.out (by decide)) (fun _ hk => hk.2) (.int .u64 t432)) (fun _ hk => hk.2) (.int .i64 t433)) (fun _ hk => hk.2) (.slice Ao48 t434.length co48)) (fun _ hk => ⟨hk.1.1.1.2, hk.1.2⟩)⟩, ⟨by (with_reducible repeat (first | apply Kd.R_alloc | apply Kd.R_drewN | apply Kd.R_drew)); exact Kd.R_mono (Kd.R_far (p := ⟨gb437, 2, none⟩) (Kd.R_far (p := ⟨gb437, 1, none⟩) (Kd.R_far (p := ⟨gb437, 0, none⟩) (Kd.R_types HO427.out BK437.out (by decide)) (fun _ hk => hk.2) (.int .u64 t432)) (fun _ hk => hk.2) (.int .i64 t433)) (fun _ hk => hk.2) (.slice Ao48 t434.length co48)) (fun _ hk => ⟨hk.1.1.1.1, hk.1.2⟩)⟩, ⟨by (with_reducible repeat (first | apply Kd.R_alloc | apply Kd.R_drewN | apply Kd.R_drew)); exact Kd.R_mono (Kd.R_far (p := ⟨gb437, 2, none⟩) (Kd.R_far (p := ⟨gb437, 1, none⟩) (Kd.R_far (p := ⟨gb437, 0, none⟩) (Kd.R_types HO436.out BK437.out (by decide)) (fun _ hk => hk.2) (.int .u64 t432)) (fun _ hk => hk.2) (.int .i64 t433)) (fun _ hk => hk.2) (.slice Ao48 t434.length co48)) (fun _ hk => ⟨hk.1.1.1.1.2, hk.1.1.2⟩)⟩, ⟨by (with_reducible repeat (first | refine blk_drewN ?_ _ | refine blk_drew ?_ | refine blk_alloc ?_ _)); refine blk_far ?_ NB410_437.out _; (with_reducible repeat (first | refine blk_drewN ?_ _ | refine blk_drew ?_ | refine blk_alloc ?_ _)); refine blk_far ?_ NB410_437.out _; (with_reducible repeat (first | refine blk_drewN ?_ _ | refine blk_drew ?_ | refine blk_alloc ?_ _)); refine blk_far ?_ NB410_437.out _; (with_reducible repeat (first | refine blk_drewN ?_ _ | refine blk_drew ?_ | refine blk_alloc ?_ _)); exact BK410.out⟩, ⟨by (with_reducible repeat (first | refine blk_drewN ?_ _ | refine blk_drew ?_ | refine blk_alloc ?_ _)); refine blk_far ?_ NB411_437.out _; (with_reducible repeat (first | refine blk_drewN ?_ _ | refine blk_drew ?_ | refine blk_alloc ?_ _)); refine blk_far ?_ NB411_437.out _; (with_reducible repeat (first | refine blk_drewN ?_ _ | refine blk_drew ?_ | refine blk_alloc ?_ _)); refine blk_far ?_ NB411_437.out _; (with_reducible repeat (first | refine blk_drewN ?_ _ | refine blk_drew ?_ | refine blk_alloc ?_ _)); exact BK411.out⟩, ⟨by (with_reducible repeat (first | refine blk_drewN ?_ _ | refine blk_drew ?_ | refine blk_alloc ?_ _)); refine blk_far ?_ NB417_437.out _; (with_reducible repeat (first | refine blk_drewN ?_ _ | refine blk_drew ?_ | refine blk_alloc ?_ _)); refine blk_far ?_ NB417_437.out _; (with_reducible repeat (first | refine blk_drewN ?_ _ | refine blk_drew ?_ | refine blk_alloc ?_ _)); refine blk_far ?_ NB417_437.out _; (with_reducible repeat (first | refine blk_drewN ?_ _ | refine blk_drew ?_ | refine blk_alloc ?_ _)); exact BK417.out⟩, ⟨by (with_reducible repeat (first | refine blk_drewN ?_ _ | refine blk_drew ?_ | refine blk_alloc ?_ _)); refine blk_far ?_ NB428_437.out _; (with_reducible repeat (first | refine blk_drewN ?_ _ | refine blk_drew ?_ | refine blk_alloc ?_ _)); refine blk_far ?_ NB428_437.out _; (with_reducible repeat (first | refine blk_drewN ?_ _ | refine blk_drew ?_ | refine blk_alloc ?_ _)); refine blk_far ?_ NB428_437.out _; (with_reducible repeat (first | refine blk_drewN ?_ _ | refine blk_drew ?_ | refine blk_alloc ?_ _)); exact BK428.out⟩, ⟨by (with_reducible repeat (first | refine blk_drewN ?_ _ | refine blk_drew ?_ | refine blk_alloc ?_ _)); refine blk_put (cs := #[.int .u64 t432, .int .i64 t433, .slice none 0 0]) ?_ 2 _ rfl; (with_reducible repeat (first | refine blk_drewN ?_ _ | refine blk_drew ?_ | refine blk_alloc ?_ _)); refine blk_put (cs := #[.int .u64 t432, .int .i64 0, .slice none 0 0]) ?_ 1 _ rfl; (with_reducible repeat (first | refine blk_drewN ?_ _ | refine blk_drew ?_ | refine blk_alloc ?_ _)); refine blk_put (cs := #[.int .u64 0, .int .i64 0, .slice none 0 0]) ?_ 0 _ rfl; (with_reducible repeat (first | refine blk_drewN ?_ _ | refine blk_drew ?_ | refine blk_alloc ?_ _)); exact BK437.out⟩, ⟨by repeat (first | (with_reducible first | exact HB.out | apply below_alloc | apply pw_below_drewN | apply below_drew1 | refine below_set ?_ GE410.out | refine below_set ?_ GE411.out | refine below_set ?_ GE417.out | refine below_set ?_ GE428.out | refine below_set ?_ GE437.out) | exact HB.out)⟩⟩
  case round =>
   clear H'
   try clear c1
   try clear c2
   try clear p2
   try clear c3
   try clear c4
   try clear c6
   try clear c10
   try clear c11
   try clear c12
   try clear c13
   try clear c17
   try clear c18
   try clear c19
   try clear c20
   try clear c34
   try clear c36
   try clear c43
   try clear c44
   try clear c45
   try clear c46
   try clear hcz14_0
   try clear hcz14_1
   try clear hcz15_0
   try clear hcz15_1
   try clear hcz21_0
   try clear hcz21_1
   try clear hcz21_2
   try clear hcz35_0
   try clear hcz35_1
   try clear hcz37_0
   try clear hcz37_1
   try clear hcz37_2
   try clear hcz47_0
   try clear hcz47_1
   try clear hcz47_2
   try clear hfz14_0
   try clear hfz14_1
   try clear hfz15_0
   try clear hfz15_1
   try clear hfz21_0
   try clear hfz21_1
   try clear hfz21_2
   try clear hfz35_0
   try clear hfz35_1
   try clear hfz37_0
   try clear hfz37_1
   try clear hfz37_2
   try clear hfz47_0
   try clear hfz47_1
   try clear hfz47_2
   obtain ⟨x10_1, x418002_1, x429002_1, x438002_1, u418002, u429002, u438002, rfl, HA, HK1, HO_6, HO_418002, HO_429002, HO_438002, BK410, BK411, BK417, BK428, BK437, HB⟩ := hrel
   cases gk with
   | zero => exact absurd HA.out (by simp [gristmilllaw06_AggOwn.l0])
   | succ k1 =>
    have H := HA.out
    clear HA
    simp only [gristmilllaw06_AggOwn.l0] at H
    by_cases c49 : x10_1 < (x429002_1.length : Int)
    ·rw [if_pos c49] at H
     have c49b0 : decide (x10_1 < (x429002_1.length : Int)) = true := decide_eq_true c49
     clear c49
     by_cases c50 : 0 ≤ x10_1
     ·rw [if_pos c50] at H
      have c50b0 : decide (0 ≤ x10_1) = true := decide_eq_true c50
      clear c50
      obtain ⟨y438, hy438⟩ : ∃ y_ : List ByteArray, y_ = (x429002_1.set (x10_1 : Int).toNat (⟨#[115, 112, 111, 105, 108, 116]⟩ : ByteArray)) := ⟨_, rfl⟩
      replace H : (gristmilllaw06_AggOwn.l0 k1 t407 (wrap64 (x10_1 + 1)) t405 t406 t412 t413 x418002_1 t423 t424 y438 t432 t433 x438002_1) = some r := by first | (rw [hy438]; with_reducible exact H) | (have H2_ := (Option.bind_some _ _).symm.trans H; rw [hy438]; with_reducible exact H2_) | (have H2_ := (Option.bind_some _ _).symm.trans H; with_reducible exact H2_) | with_reducible exact H | (rw [hy438]; exact H) | exact H
      have Ny438 := Aside0.mk hy438
      clear hy438
      have H' := Aside0.mk H
      clear H
      have hnb52 := NB428_410.out
      have hnc52 := NB410_428.out
      have hnb53 := NB428_411.out
      have hnc53 := NB411_428.out
      have hnb54 := NB428_417.out
      have hnc54 := NB417_428.out
      have hnb55 := NB428_437.out
      have hnc55 := NB437_428.out
      have hcz56_0 : wr.cell? ⟨gb428, 0, none⟩ = some (.int .u64 t423) := (blk_cell BK428.out 0).trans rfl
      have hcz56_1 : wr.cell? ⟨gb428, 1, none⟩ = some (.int .i64 t424) := (blk_cell BK428.out 1).trans rfl
      have hcz56_2 : wr.cell? ⟨gb428, 2, none⟩ = some (u429002) := (blk_cell BK428.out 2).trans rfl
      have hfz56_0 := blk_frozen BK428.out 0
      have hfz56_1 := blk_frozen BK428.out 1
      have hfz56_2 := blk_frozen BK428.out 2
      obtain ⟨Ao57, co57, eo57⟩ := Kd.R_slice HO_429002.out
      subst eo57
      have p51 : 0 ≤ (x10_1 : Int) := of_decide_eq_true (by assumption)
      have q51 : (x10_1 : Int) < ((x429002_1.length : Int) : Int) := of_decide_eq_true (by assumption)
      obtain ⟨go51, co51, eo51, gb51, gl51, cl51, HG51⟩ := Kd.R_form HO_429002.out (by omega)
      (first | cases eo51 | (injection eo51 with ea_ en_ ec_; (first | subst ea_ | (injection ea_ with ea_; subst ea_)); subst ec_; clear en_))
      have GB51 := Aside0.mk gb51
      have GG51 := Aside0.mk HG51
      clear gb51 gl51 HG51
      obtain ⟨hx51_0, hf51_0⟩ := Kd.R_celln (⟨#[]⟩ : ByteArray) HO_429002.out (x10_1 : Int) p51 q51
      replace p51 := eq_true p51
      replace q51 := eq_true q51
      have HP58 := Kd.R_putg HO_429002.out (x10_1 : Int) (⟨#[115, 112, 111, 105, 108, 116]⟩ : ByteArray)
      go_wp2_with (first | ((with_reducible refine gate_store (t := 9) (p := 45) rfl ?_); refine store_event (t := 9) (p := 45) (v := ?vo_w59) (w1 := (wr.setCell ⟨go51, (x10_1 : Int).toNat, none⟩ (.string (⟨#[115, 112, 111, 105, 108, 116]⟩ : ByteArray)))) ?hg ?ho ?hn ?hr ?_; (case ho => rfl); (case hg => rfl); (case hn => rfl); (case hr => first | (go_simp; done) | (go_simp; rfl)); intro w59 hw; have hg : wr.grownBy w59 (some go51) := (by rw [hw]; exact HP58.2); have hp_ : Kd.R Kd.string 9 w59 w.heap.size (fun k_ => some k_ ≠ (u418002 : Value).ownBlock ∧ some k_ ≠ (u438002 : Value).ownBlock) (.slice (some ⟨go51, 0, none⟩) x429002_1.length co57) y438 := (by rw [hw, Ny438.out]; exact HP58.1); clear HP58; have n0_ := Aside0.mk (Kd.S_after (v := (.slice (some ⟨go51, 0, none⟩) x429002_1.length co57)) (v1 := (.slice (some ⟨go51, 0, none⟩) x429002_1.length co57)) (ok := (fun k_ => some k_ ≠ (u418002 : Value).ownBlock ∧ some k_ ≠ (u438002 : Value).ownBlock)) (by (with_reducible repeat (first | apply Kd.S_alloc | apply Kd.S_drewN | apply Kd.S_drew)); exact Kd.S_mono HO_6.out (fun _ hk => ⟨⟨hk.1, hk.2.2⟩, hk.2.1⟩)) hg (.inl rfl)); have n1_ := Aside0.mk (Kd.R_after (v := (.slice (some ⟨go51, 0, none⟩) x429002_1.length co57)) (v1 := (.slice (some ⟨go51, 0, none⟩) x429002_1.length co57)) (ok := (fun k_ => some k_ ≠ (u438002 : Value).ownBlock)) (by (with_reducible repeat (first | apply Kd.R_alloc | apply Kd.R_drewN | apply Kd.R_drew)); exact Kd.R_mono HO_418002.out (fun _ hk => ⟨hk.2, hk.1⟩)) hg (.inl rfl)); have n2_ := Aside0.mk (hp_); have n3_ := Aside0.mk (Kd.R_after (v := (.slice (some ⟨go51, 0, none⟩) x429002_1.length co57)) (v1 := (.slice (some ⟨go51, 0, none⟩) x429002_1.length co57)) (ok := (fun k_ => some k_ ≠ (u418002 : Value).ownBlock)) (by (with_reducible repeat (first | apply Kd.R_alloc | apply Kd.R_drewN | apply Kd.R_drew)); exact HO_438002.out) hg (.inl rfl)); have n4_ := Aside0.mk (blk_grown (g := gb410) (o := .cells #[.int .i64 t403, .int .i64 t404] 27 (0, 0)) (bk_ BK410.out) hg (Kd.R_ne HO_429002.out BK410.out (by decide))); have n5_ := Aside0.mk (blk_grown (g := gb411) (o := .cells #[.int .i64 t405, .int .i64 t406] 23 (0, 0)) (bk_ BK411.out) hg (Kd.R_ne HO_429002.out BK411.out (by decide))); have n6_ := Aside0.mk (blk_grown (g := gb417) (o := .cells #[.int .u64 t412, .int .i64 t413, u418002] 33 (0, 0)) (bk_ BK417.out) hg (Kd.R_ne HO_429002.out BK417.out (by decide))); have n7_ := Aside0.mk (blk_grown (g := gb428) (o := .cells #[.int .u64 t423, .int .i64 t424, .slice (some ⟨go51, 0, none⟩) x429002_1.length co57] 33 (0, 0)) (bk_ BK428.out) hg (Kd.R_ne HO_429002.out BK428.out (by decide))); have n8_ := Aside0.mk (blk_grown (g := gb437) (o := .cells #[.int .u64 t432, .int .i64 t433, u438002] 33 (0, 0)) (bk_ BK437.out) hg (Kd.R_ne HO_429002.out BK437.out (by decide))); have n9_ := Aside0.mk ((by rw [hw]; exact below_set (HB.out) GB51.out : Below w.heap.size w w59)); clear HO_6 HO_418002 HO_429002 HO_438002 BK410 BK411 BK417 BK428 BK437 HB; have HO_6 := n0_; have HO_418002 := n1_; have HO_429002 := n2_; have HO_438002 := n3_; have BK410 := n4_; have BK411 := n5_; have BK417 := n6_; have BK428 := n7_; have BK437 := n8_; have HB := n9_; clear n0_ n1_ n2_ n3_ n4_ n5_ n6_ n7_ n8_ n9_; clear hg hw hp_))
      go_roundg k1
      case measure => have := HK1.out; omega
      case rel => exact ⟨(wrap64 (x10_1 + 1)), (x418002_1), (y438), (x438002_1), (u418002), (.slice (some ⟨go51, 0, none⟩) x429002_1.length co57), (u438002), (by first | rfl | (simp; done) | (simp [*]; done)), H', ⟨by have := HK1.out; omega⟩, ⟨by (with_reducible repeat (first | apply Kd.S_alloc | apply Kd.S_drewN | apply Kd.S_drew)); exact Kd.S_mono HO_6.out (fun _ hk => ⟨hk.1.1, ⟨hk.2, hk.1.2⟩⟩)⟩, ⟨by (with_reducible repeat (first | apply Kd.R_alloc | apply Kd.R_drewN | apply Kd.R_drew)); exact Kd.R_mono HO_418002.out (fun _ hk => ⟨hk.2, hk.1⟩)⟩, ⟨by (with_reducible repeat (first | apply Kd.R_alloc | apply Kd.R_drewN | apply Kd.R_drew)); exact HO_429002.out⟩, ⟨by (with_reducible repeat (first | apply Kd.R_alloc | apply Kd.R_drewN | apply Kd.R_drew)); exact HO_438002.out⟩, ⟨by (with_reducible repeat (first | refine blk_drewN ?_ _ | refine blk_drew ?_ | refine blk_alloc ?_ _)); exact BK410.out⟩, ⟨by (with_reducible repeat (first | refine blk_drewN ?_ _ | refine blk_drew ?_ | refine blk_alloc ?_ _)); exact BK411.out⟩, ⟨by (with_reducible repeat (first | refine blk_drewN ?_ _ | refine blk_drew ?_ | refine blk_alloc ?_ _)); exact BK417.out⟩, ⟨by (with_reducible repeat (first | refine blk_drewN ?_ _ | refine blk_drew ?_ | refine blk_alloc ?_ _)); exact BK428.out⟩, ⟨by (with_reducible repeat (first | refine blk_drewN ?_ _ | refine blk_drew ?_ | refine blk_alloc ?_ _)); exact BK437.out⟩, ⟨by repeat (first | (with_reducible first | exact HB.out | apply below_alloc | apply pw_below_drewN | apply below_drew1 | refine below_set ?_ GE410.out | refine below_set ?_ GE411.out | refine below_set ?_ GE417.out | refine below_set ?_ GE428.out | refine below_set ?_ GE437.out) | exact HB.out)⟩⟩
     ·rw [if_neg c50] at H
      exact absurd H (by simp)
    ·rw [if_neg c49] at H
     have c49b0 : decide (x10_1 < (x429002_1.length : Int)) = false := decide_eq_false c49
     clear c49
     have H' := Aside0.mk H
     clear H
     have hnb60 := NB428_410.out
     have hnc60 := NB410_428.out
     have hnb61 := NB428_411.out
     have hnc61 := NB411_428.out
     have hnb62 := NB428_417.out
     have hnc62 := NB417_428.out
     have hnb63 := NB428_437.out
     have hnc63 := NB437_428.out
     have hcz64_0 : wr.cell? ⟨gb428, 0, none⟩ = some (.int .u64 t423) := (blk_cell BK428.out 0).trans rfl
     have hcz64_1 : wr.cell? ⟨gb428, 1, none⟩ = some (.int .i64 t424) := (blk_cell BK428.out 1).trans rfl
     have hcz64_2 : wr.cell? ⟨gb428, 2, none⟩ = some (u429002) := (blk_cell BK428.out 2).trans rfl
     have hfz64_0 := blk_frozen BK428.out 0
     have hfz64_1 := blk_frozen BK428.out 1
     have hfz64_2 := blk_frozen BK428.out 2
     obtain ⟨Ao65, co65, eo65⟩ := Kd.R_slice HO_429002.out
     subst eo65
     go_wp2
     go_loopg [11] k1 (fun kq v11 w' => ∃ (x11_2 : Int) (x418002_2 : List ByteArray) (x429002_2 : List ByteArray) (x438002_2 : List ByteArray) (u418002 : Value) (u429002 : Value) (u438002 : Value), v11 = .int .i64 x11_2 ∧ Aside0 (gristmilllaw06_AggOwn.l1 kq t407 x11_2 t405 t406 t412 t413 x418002_2 t432 t433 x438002_2 = some r) ∧ Aside0 (kq ≤ k1) ∧ Aside0 (Kd.S k44 44 w' w.heap.size (fun k_ => some k_ ≠ (u418002 : Value).ownBlock ∧ some k_ ≠ (u429002 : Value).ownBlock ∧ some k_ ≠ (u438002 : Value).ownBlock) (.slice Ao16 t407.length co16) t407) ∧ Aside0 (Kd.R Kd.string 9 w' w.heap.size (fun k_ => some k_ ≠ (u429002 : Value).ownBlock ∧ some k_ ≠ (u438002 : Value).ownBlock) u418002 x418002_2) ∧ Aside0 (Kd.R Kd.string 9 w' w.heap.size (fun k_ => some k_ ≠ (u418002 : Value).ownBlock ∧ some k_ ≠ (u438002 : Value).ownBlock) u429002 x429002_2) ∧ Aside0 (Kd.R Kd.string 9 w' w.heap.size (fun k_ => some k_ ≠ (u418002 : Value).ownBlock ∧ some k_ ≠ (u429002 : Value).ownBlock) u438002 x438002_2) ∧ Aside0 (w'.heap[gb410]? = some (.cells #[.int .i64 t403, .int .i64 t404] 27 (0, 0))) ∧ Aside0 (w'.heap[gb411]? = some (.cells #[.int .i64 t405, .int .i64 t406] 23 (0, 0))) ∧ Aside0 (w'.heap[gb417]? = some (.cells #[.int .u64 t412, .int .i64 t413, u418002] 33 (0, 0))) ∧ Aside0 (w'.heap[gb428]? = some (.cells #[.int .u64 t423, .int .i64 t424, u429002] 33 (0, 0))) ∧ Aside0 (w'.heap[gb437]? = some (.cells #[.int .u64 t432, .int .i64 t433, u438002] 33 (0, 0))) ∧ Aside0 (Below w.heap.size w w'))
     case atStart => exact ⟨(0), (x418002_1), (x429002_1), (x438002_1), (u418002), (.slice Ao65 x429002_1.length co65), (u438002), (by first | rfl | (simp; done) | (simp [*]; done)), H', ⟨Nat.le_refl _⟩, ⟨by (with_reducible repeat (first | apply Kd.S_alloc | apply Kd.S_drewN | apply Kd.S_drew)); exact HO_6.out⟩, ⟨by (with_reducible repeat (first | apply Kd.R_alloc | apply Kd.R_drewN | apply Kd.R_drew)); exact HO_418002.out⟩, ⟨by (with_reducible repeat (first | apply Kd.R_alloc | apply Kd.R_drewN | apply Kd.R_drew)); exact HO_429002.out⟩, ⟨by (with_reducible repeat (first | apply Kd.R_alloc | apply Kd.R_drewN | apply Kd.R_drew)); exact HO_438002.out⟩, ⟨by (with_reducible repeat (first | refine blk_drewN ?_ _ | refine blk_drew ?_ | refine blk_alloc ?_ _)); exact BK410.out⟩, ⟨by (with_reducible repeat (first | refine blk_drewN ?_ _ | refine blk_drew ?_ | refine blk_alloc ?_ _)); exact BK411.out⟩, ⟨by (with_reducible repeat (first | refine blk_drewN ?_ _ | refine blk_drew ?_ | refine blk_alloc ?_ _)); exact BK417.out⟩, ⟨by (with_reducible repeat (first | refine blk_drewN ?_ _ | refine blk_drew ?_ | refine blk_alloc ?_ _)); exact BK428.out⟩, ⟨by (with_reducible repeat (first | refine blk_drewN ?_ _ | refine blk_drew ?_ | refine blk_alloc ?_ _)); exact BK437.out⟩, ⟨by repeat (first | (with_reducible first | exact HB.out | apply below_alloc | apply pw_below_drewN | apply below_drew1 | refine below_set ?_ GE410.out | refine below_set ?_ GE411.out | refine below_set ?_ GE417.out | refine below_set ?_ GE428.out | refine below_set ?_ GE437.out) | exact HB.out)⟩⟩
     case round =>
      clear H'
      try clear c1
      try clear c2
      try clear p2
      try clear c3
      try clear c4
      try clear c5
      try clear p5
      try clear q5
      try clear hx5
      try clear hf5
      try clear c6
      try clear p6
      try clear c10
      try clear c11
      try clear c12
      try clear c13
      try clear c17
      try clear c18
      try clear c19
      try clear c20
      try clear c34
      try clear c36
      try clear c43
      try clear c44
      try clear c45
      try clear c46
      try clear c49
      try clear c49b0
      try clear c50
      try clear c50b0
      try clear p51
      try clear q51
      try clear hx51
      try clear hf51
      try clear c52
      try clear c53
      try clear c54
      try clear c55
      try clear c60
      try clear c61
      try clear c62
      try clear c63
      try clear p64
      try clear hcz14_0
      try clear hcz14_1
      try clear hcz15_0
      try clear hcz15_1
      try clear hcz21_0
      try clear hcz21_1
      try clear hcz21_2
      try clear hcz35_0
      try clear hcz35_1
      try clear hcz37_0
      try clear hcz37_1
      try clear hcz37_2
      try clear hcz47_0
      try clear hcz47_1
      try clear hcz47_2
      try clear hcz56_0
      try clear hcz56_1
      try clear hcz56_2
      try clear hcz64_0
      try clear hcz64_1
      try clear hcz64_2
      try clear hfz14_0
      try clear hfz14_1
      try clear hfz15_0
      try clear hfz15_1
      try clear hfz21_0
      try clear hfz21_1
      try clear hfz21_2
      try clear hfz35_0
      try clear hfz35_1
      try clear hfz37_0
      try clear hfz37_1
      try clear hfz37_2
      try clear hfz47_0
      try clear hfz47_1
      try clear hfz47_2
      try clear hfz56_0
      try clear hfz56_1
      try clear hfz56_2
      try clear hfz64_0
      try clear hfz64_1
      try clear hfz64_2
      try clear hx51_0
      try clear p2
      try clear p51
      try clear q51
      obtain ⟨x11_2, x418002_2, x429002_2, x438002_2, u418002, u429002, u438002, rfl, HA, HK2, HO_6, HO_418002, HO_429002, HO_438002, BK410, BK411, BK417, BK428, BK437, HB⟩ := hrel
      cases gk with
      | zero => exact absurd HA.out (by simp [gristmilllaw06_AggOwn.l1])
      | succ k2 =>
       have H := HA.out
       clear HA
       simp only [gristmilllaw06_AggOwn.l1] at H
       by_cases c66 : x11_2 < (x438002_2.length : Int)
       ·rw [if_pos c66] at H
        have c66b0 : decide (x11_2 < (x438002_2.length : Int)) = true := decide_eq_true c66
        clear c66
        by_cases c67 : 0 ≤ x11_2
        ·rw [if_pos c67] at H
         have c67b0 : decide (0 ≤ x11_2) = true := decide_eq_true c67
         clear c67
         obtain ⟨y439, hy439⟩ : ∃ y_ : List ByteArray, y_ = (x438002_2.set (x11_2 : Int).toNat (⟨#[115, 112, 111, 105, 108, 116]⟩ : ByteArray)) := ⟨_, rfl⟩
         replace H : (gristmilllaw06_AggOwn.l1 k2 t407 (wrap64 (x11_2 + 1)) t405 t406 t412 t413 x418002_2 t432 t433 y439) = some r := by first | (rw [hy439]; with_reducible exact H) | (have H2_ := (Option.bind_some _ _).symm.trans H; rw [hy439]; with_reducible exact H2_) | (have H2_ := (Option.bind_some _ _).symm.trans H; with_reducible exact H2_) | with_reducible exact H | (rw [hy439]; exact H) | exact H
         have Ny439 := Aside0.mk hy439
         clear hy439
         have H' := Aside0.mk H
         clear H
         have hnb69 := NB437_410.out
         have hnc69 := NB410_437.out
         have hnb70 := NB437_411.out
         have hnc70 := NB411_437.out
         have hnb71 := NB437_417.out
         have hnc71 := NB417_437.out
         have hnb72 := NB437_428.out
         have hnc72 := NB428_437.out
         have hcz73_0 : wr.cell? ⟨gb437, 0, none⟩ = some (.int .u64 t432) := (blk_cell BK437.out 0).trans rfl
         have hcz73_1 : wr.cell? ⟨gb437, 1, none⟩ = some (.int .i64 t433) := (blk_cell BK437.out 1).trans rfl
         have hcz73_2 : wr.cell? ⟨gb437, 2, none⟩ = some (u438002) := (blk_cell BK437.out 2).trans rfl
         have hfz73_0 := blk_frozen BK437.out 0
         have hfz73_1 := blk_frozen BK437.out 1
         have hfz73_2 := blk_frozen BK437.out 2
         obtain ⟨Ao74, co74, eo74⟩ := Kd.R_slice HO_438002.out
         subst eo74
         have p68 : 0 ≤ (x11_2 : Int) := of_decide_eq_true (by assumption)
         have q68 : (x11_2 : Int) < ((x438002_2.length : Int) : Int) := of_decide_eq_true (by assumption)
         obtain ⟨go68, co68, eo68, gb68, gl68, cl68, HG68⟩ := Kd.R_form HO_438002.out (by omega)
         (first | cases eo68 | (injection eo68 with ea_ en_ ec_; (first | subst ea_ | (injection ea_ with ea_; subst ea_)); subst ec_; clear en_))
         have GB68 := Aside0.mk gb68
         have GG68 := Aside0.mk HG68
         clear gb68 gl68 HG68
         obtain ⟨hx68_0, hf68_0⟩ := Kd.R_celln (⟨#[]⟩ : ByteArray) HO_438002.out (x11_2 : Int) p68 q68
         replace p68 := eq_true p68
         replace q68 := eq_true q68
         have HP75 := Kd.R_putg HO_438002.out (x11_2 : Int) (⟨#[115, 112, 111, 105, 108, 116]⟩ : ByteArray)
         go_wp2_with (first | ((with_reducible refine gate_store (t := 9) (p := 56) rfl ?_); refine store_event (t := 9) (p := 56) (v := ?vo_w76) (w1 := (wr.setCell ⟨go68, (x11_2 : Int).toNat, none⟩ (.string (⟨#[115, 112, 111, 105, 108, 116]⟩ : ByteArray)))) ?hg ?ho ?hn ?hr ?_; (case ho => rfl); (case hg => rfl); (case hn => rfl); (case hr => first | (go_simp; done) | (go_simp; rfl)); intro w76 hw; have hg : wr.grownBy w76 (some go68) := (by rw [hw]; exact HP75.2); have hp_ : Kd.R Kd.string 9 w76 w.heap.size (fun k_ => some k_ ≠ (u418002 : Value).ownBlock ∧ some k_ ≠ (u429002 : Value).ownBlock) (.slice (some ⟨go68, 0, none⟩) x438002_2.length co74) y439 := (by rw [hw, Ny439.out]; exact HP75.1); clear HP75; have n0_ := Aside0.mk (Kd.S_after (v := (.slice (some ⟨go68, 0, none⟩) x438002_2.length co74)) (v1 := (.slice (some ⟨go68, 0, none⟩) x438002_2.length co74)) (ok := (fun k_ => some k_ ≠ (u418002 : Value).ownBlock ∧ some k_ ≠ (u429002 : Value).ownBlock)) (by (with_reducible repeat (first | apply Kd.S_alloc | apply Kd.S_drewN | apply Kd.S_drew)); exact Kd.S_mono HO_6.out (fun _ hk => ⟨⟨hk.1, hk.2.1⟩, hk.2.2⟩)) hg (.inl rfl)); have n1_ := Aside0.mk (Kd.R_after (v := (.slice (some ⟨go68, 0, none⟩) x438002_2.length co74)) (v1 := (.slice (some ⟨go68, 0, none⟩) x438002_2.length co74)) (ok := (fun k_ => some k_ ≠ (u429002 : Value).ownBlock)) (by (with_reducible repeat (first | apply Kd.R_alloc | apply Kd.R_drewN | apply Kd.R_drew)); exact HO_418002.out) hg (.inl rfl)); have n2_ := Aside0.mk (Kd.R_after (v := (.slice (some ⟨go68, 0, none⟩) x438002_2.length co74)) (v1 := (.slice (some ⟨go68, 0, none⟩) x438002_2.length co74)) (ok := (fun k_ => some k_ ≠ (u418002 : Value).ownBlock)) (by (with_reducible repeat (first | apply Kd.R_alloc | apply Kd.R_drewN | apply Kd.R_drew)); exact HO_429002.out) hg (.inl rfl)); have n3_ := Aside0.mk (hp_); have n4_ := Aside0.mk (blk_grown (g := gb410) (o := .cells #[.int .i64 t403, .int .i64 t404] 27 (0, 0)) (bk_ BK410.out) hg (Kd.R_ne HO_438002.out BK410.out (by decide))); have n5_ := Aside0.mk (blk_grown (g := gb411) (o := .cells #[.int .i64 t405, .int .i64 t406] 23 (0, 0)) (bk_ BK411.out) hg (Kd.R_ne HO_438002.out BK411.out (by decide))); have n6_ := Aside0.mk (blk_grown (g := gb417) (o := .cells #[.int .u64 t412, .int .i64 t413, u418002] 33 (0, 0)) (bk_ BK417.out) hg (Kd.R_ne HO_438002.out BK417.out (by decide))); have n7_ := Aside0.mk (blk_grown (g := gb428) (o := .cells #[.int .u64 t423, .int .i64 t424, u429002] 33 (0, 0)) (bk_ BK428.out) hg (Kd.R_ne HO_438002.out BK428.out (by decide))); have n8_ := Aside0.mk (blk_grown (g := gb437) (o := .cells #[.int .u64 t432, .int .i64 t433, .slice (some ⟨go68, 0, none⟩) x438002_2.length co74] 33 (0, 0)) (bk_ BK437.out) hg (Kd.R_ne HO_438002.out BK437.out (by decide))); have n9_ := Aside0.mk ((by rw [hw]; exact below_set (HB.out) GB68.out : Below w.heap.size w w76)); clear HO_6 HO_418002 HO_429002 HO_438002 BK410 BK411 BK417 BK428 BK437 HB; have HO_6 := n0_; have HO_418002 := n1_; have HO_429002 := n2_; have HO_438002 := n3_; have BK410 := n4_; have BK411 := n5_; have BK417 := n6_; have BK428 := n7_; have BK437 := n8_; have HB := n9_; clear n0_ n1_ n2_ n3_ n4_ n5_ n6_ n7_ n8_ n9_; clear hg hw hp_))
         go_roundg k2
         case measure => have := HK1.out; have := HK2.out; omega
         case rel => exact ⟨(wrap64 (x11_2 + 1)), (x418002_2), (x429002_2), (y439), (u418002), (u429002), (.slice (some ⟨go68, 0, none⟩) x438002_2.length co74), (by first | rfl | (simp; done) | (simp [*]; done)), H', ⟨by have := HK1.out; have := HK2.out; omega⟩, ⟨by (with_reducible repeat (first | apply Kd.S_alloc | apply Kd.S_drewN | apply Kd.S_drew)); exact Kd.S_mono HO_6.out (fun _ hk => ⟨hk.1.1, ⟨hk.1.2, hk.2⟩⟩)⟩, ⟨by (with_reducible repeat (first | apply Kd.R_alloc | apply Kd.R_drewN | apply Kd.R_drew)); exact HO_418002.out⟩, ⟨by (with_reducible repeat (first | apply Kd.R_alloc | apply Kd.R_drewN | apply Kd.R_drew)); exact HO_429002.out⟩, ⟨by (with_reducible repeat (first | apply Kd.R_alloc | apply Kd.R_drewN | apply Kd.R_drew)); exact HO_438002.out⟩, ⟨by (with_reducible repeat (first | refine blk_drewN ?_ _ | refine blk_drew ?_ | refine blk_alloc ?_ _)); exact BK410.out⟩, ⟨by (with_reducible repeat (first | refine blk_drewN ?_ _ | refine blk_drew ?_ | refine blk_alloc ?_ _)); exact BK411.out⟩, ⟨by (with_reducible repeat (first | refine blk_drewN ?_ _ | refine blk_drew ?_ | refine blk_alloc ?_ _)); exact BK417.out⟩, ⟨by (with_reducible repeat (first | refine blk_drewN ?_ _ | refine blk_drew ?_ | refine blk_alloc ?_ _)); exact BK428.out⟩, ⟨by (with_reducible repeat (first | refine blk_drewN ?_ _ | refine blk_drew ?_ | refine blk_alloc ?_ _)); exact BK437.out⟩, ⟨by repeat (first | (with_reducible first | exact HB.out | apply below_alloc | apply pw_below_drewN | apply below_drew1 | refine below_set ?_ GE410.out | refine below_set ?_ GE411.out | refine below_set ?_ GE417.out | refine below_set ?_ GE428.out | refine below_set ?_ GE437.out) | exact HB.out)⟩⟩
        ·rw [if_neg c67] at H
         exact absurd H (by simp)
       ·rw [if_neg c66] at H
        have c66b0 : decide (x11_2 < (x438002_2.length : Int)) = false := decide_eq_false c66
        clear c66
        replace H := Option.bind_eq_some_iff.mp H
        obtain ⟨⟨t440, t441, t442⟩, A770, H⟩ := H
        replace H : ((gristmillref06_Same.f k2 t412 t413 x418002_2 t440 t441 t442).bind fun t445 => (some t445)) = some r := H
        have A77 := Aside0.mk A770
        clear A770
        replace H := Option.bind_eq_some_iff.mp H
        obtain ⟨t445, A780, H⟩ := H
        replace H : (some t445) = some r := H
        have A78 := Aside0.mk A780
        clear A780
        obtain rfl := Option.some.inj H
        have hnb79 := NB437_410.out
        have hnc79 := NB410_437.out
        have hnb80 := NB437_411.out
        have hnc80 := NB411_437.out
        have hnb81 := NB437_417.out
        have hnc81 := NB417_437.out
        have hnb82 := NB437_428.out
        have hnc82 := NB428_437.out
        have hcz83_0 : wr.cell? ⟨gb437, 0, none⟩ = some (.int .u64 t432) := (blk_cell BK437.out 0).trans rfl
        have hcz83_1 : wr.cell? ⟨gb437, 1, none⟩ = some (.int .i64 t433) := (blk_cell BK437.out 1).trans rfl
        have hcz83_2 : wr.cell? ⟨gb437, 2, none⟩ = some (u438002) := (blk_cell BK437.out 2).trans rfl
        have hfz83_0 := blk_frozen BK437.out 0
        have hfz83_1 := blk_frozen BK437.out 1
        have hfz83_2 := blk_frozen BK437.out 2
        obtain ⟨Ao84, co84, eo84⟩ := Kd.R_slice HO_438002.out
        subst eo84
        try go_wp2
        have n0_ := Aside0.mk (Kd.S_drew HO_6.out)
        have n1_ := Aside0.mk (Kd.R_drew HO_418002.out)
        have n2_ := Aside0.mk (Kd.R_drew HO_429002.out)
        have n3_ := Aside0.mk (Kd.R_drew HO_438002.out)
        have n4_ := Aside0.mk (blk_drew BK410.out)
        have n5_ := Aside0.mk (blk_drew BK411.out)
        have n6_ := Aside0.mk (blk_drew BK417.out)
        have n7_ := Aside0.mk (blk_drew BK428.out)
        have n8_ := Aside0.mk (blk_drew BK437.out)
        have n9_ := Aside0.mk (below_drew1 HB.out)
        clear HO_6
        clear HO_418002
        clear HO_429002
        clear HO_438002
        clear BK410
        clear BK411
        clear BK417
        clear BK428
        clear BK437
        clear HB
        have HO_6 := n0_
        have HO_418002 := n1_
        have HO_429002 := n2_
        have HO_438002 := n3_
        have BK410 := n4_
        have BK411 := n5_
        have BK417 := n6_
        have BK428 := n7_
        have BK437 := n8_
        have HB := n9_
        clear n0_ n1_ n2_ n3_ n4_ n5_ n6_ n7_ n8_ n9_
        refine start_ (n := 6) (S := fun w' => w'.cell? ⟨gb417, 0, none⟩ = some (.int .u64 t412) ∧ w'.cell? ⟨gb417, 1, none⟩ = some (.int .i64 t413) ∧ w'.cell? ⟨gb417, 2, none⟩ = some (u418002) ∧ w'.cell? ⟨gb411, 0, none⟩ = some (.int .i64 t405) ∧ w'.cell? ⟨gb411, 1, none⟩ = some (.int .i64 t406)) (ds := []) #[false, false, false, false, false, false] (by kernel_rfl) rfl rfl ⟨(blk_cell BK417.out 0).trans rfl, (blk_cell BK417.out 1).trans rfl, (blk_cell BK417.out 2).trans rfl, (blk_cell BK411.out 0).trans rfl, (blk_cell BK411.out 1).trans rfl⟩ (fun hHeld => ?_)
        generalize wr.drew = w85 at HO_6 HO_418002 HO_429002 HO_438002 BK410 BK411 BK417 BK428 BK437 HB hHeld ⊢
        refine pure_ (i := 2) (N := some 59) (v := ?_) (a' := ?_) #[false, false, true, false, false, false] rfl rfl (by kernel_rfl) (fun _ _ _ h => h) (Or.inl ⟨by rfl, ?_⟩) ?_ ?_
        rotate_left
        ·intro w'
         go_simp
         with_reducible rfl
        rotate_left
        ·simp only [Act.put, q1_, q2_, q3_, i64_w, i32_w]
         rfl
        refine take_ (i := 0) (N := some 57) (v := ?_) (a' := ?_) #[true, false, true, false, false, false] rfl rfl (by kernel_rfl) (fun _ _ _ h => h) (Or.inl ⟨by rfl, ?_⟩) hHeld ?_ ?_
        rotate_left
        ·rintro w' ⟨s0, s1, s2, s3, s4⟩
         go_simp
         with_reducible rfl
        rotate_left
        ·simp only [Act.put, q1_, q2_, q3_, i64_w, i32_w]
         rfl
        refine take_ (i := 1) (N := some 58) (v := ?_) (a' := ?_) #[true, true, true, false, false, false] rfl rfl (by kernel_rfl) (fun _ _ _ h => h) (Or.inl ⟨by rfl, ?_⟩) hHeld ?_ ?_
        rotate_left
        ·rintro w' ⟨s0, s1, s2, s3, s4⟩
         go_simp
         with_reducible rfl
        rotate_left
        ·simp only [Act.put, q1_, q2_, q3_, i64_w, i32_w]
         rfl
        refine one_ (i := 3) (N := some 60) #[true, true, true, true, false, false] rfl rfl (by kernel_rfl) (by decide) (fun K hK => ?_)
        refine goes_ Try.func13 (by kernel_rfl) rfl #[.agg #[.int .i64 t405, .int .i64 t406], .slice Ao16 t407.length co16] (by rfl) rfl rfl (by (try simp only [List.map_toArray, List.map_cons, List.map_nil]); first | done | rfl | (simp only [List.length_drop, List.length_take]; rfl)) ?_
        with_reducible refine (gristmillref06_Of.calls k2 t405 t406 _ _ t407 t440 t441 t442 _ ?side1 ?side2 A77.out).mono ?_
        (case side1 => repeat (first | exact (Kd.S_reads' HO_6.out).2.2 | (with_reducible refine Kd.C_alloc ?_ _) | (with_reducible refine Kd.C_drewN ?_ _) | (with_reducible refine Kd.C_drew ?_)))
        (case side2 => exact (Kd.S_reads' HO_6.out).2.1)
        rintro e w86 ⟨v443, rfl, ho0, hb⟩
        refine ⟨_, rfl, ?_⟩
        have n0_ := Aside0.mk (Kd.S_elder' (by (with_reducible repeat (first | apply Kd.S_alloc | apply Kd.S_drewN | apply Kd.S_drew)); exact HO_6.out) (Kd.R_base ho0) hb)
        have n1_ := Aside0.mk (Kd.R_elder' (by (with_reducible repeat (first | apply Kd.R_alloc | apply Kd.R_drewN | apply Kd.R_drew)); exact HO_418002.out) (Kd.R_base ho0) hb)
        have n2_ := Aside0.mk (Kd.R_elder' (by (with_reducible repeat (first | apply Kd.R_alloc | apply Kd.R_drewN | apply Kd.R_drew)); exact HO_429002.out) (Kd.R_base ho0) hb)
        have n3_ := Aside0.mk (Kd.R_elder' (by (with_reducible repeat (first | apply Kd.R_alloc | apply Kd.R_drewN | apply Kd.R_drew)); exact HO_438002.out) (Kd.R_base ho0) hb)
        have n4_ := Aside0.mk (Kd.R_lower (Kd.R_new' (Kd.R_new' (Kd.R_new' ho0 (Kd.R_lt (by (with_reducible repeat (first | apply Kd.R_alloc | apply Kd.R_drewN | apply Kd.R_drew)); exact HO_418002.out))) (Kd.R_lt (by (with_reducible repeat (first | apply Kd.R_alloc | apply Kd.R_drewN | apply Kd.R_drew)); exact HO_429002.out))) (Kd.R_lt (by (with_reducible repeat (first | apply Kd.R_alloc | apply Kd.R_drewN | apply Kd.R_drew)); exact HO_438002.out))) (below_size (bw_ HB.out)))
        have n5_ := Aside0.mk (blk_below (bk_ BK410.out) hb)
        have n6_ := Aside0.mk (blk_below (bk_ BK411.out) hb)
        have n7_ := Aside0.mk (blk_below (bk_ BK417.out) hb)
        have n8_ := Aside0.mk (blk_below (bk_ BK428.out) hb)
        have n9_ := Aside0.mk (blk_below (bk_ BK437.out) hb)
        have n10_ := Aside0.mk (below_step (bw_ HB.out) hb)
        clear HO_6
        clear HO_418002
        clear HO_429002
        clear HO_438002
        clear BK410
        clear BK411
        clear BK417
        clear BK428
        clear BK437
        clear HB
        have HO_6 := n0_
        have HO_418002 := n1_
        have HO_429002 := n2_
        have HO_438002 := n3_
        have HO444 := n4_
        have BK410 := n5_
        have BK411 := n6_
        have BK417 := n7_
        have BK428 := n8_
        have BK437 := n9_
        have HB := n10_
        clear n0_ n1_ n2_ n3_ n4_ n5_ n6_ n7_ n8_ n9_ n10_
        (try clear hb)
        (try clear hb2)
        (try clear hk)
        (try clear hi)
        (try clear ho0)
        obtain ⟨Ao87, co87, eo87⟩ := Kd.R_slice HO_418002.out
        (first | subst eo87 | (injection eo87 with f1_ f2_ f3_; have f4_ := f1_.symm; have f5_ := f3_.symm; clear f1_ f2_ f3_; subst f4_; subst f5_))
        obtain ⟨Ao88, co88, eo88⟩ := Kd.R_slice HO444.out
        (first | subst eo88 | (injection eo88 with f1_ f2_ f3_; have f4_ := f1_.symm; have f5_ := f3_.symm; clear f1_ f2_ f3_; subst f4_; subst f5_))
        refine hK.out _ _ ⟨(blk_cell BK417.out 0).trans rfl, (blk_cell BK417.out 1).trans rfl, (blk_cell BK417.out 2).trans rfl, (blk_cell BK411.out 0).trans rfl, (blk_cell BK411.out 1).trans rfl⟩ (fun hHeld => ?_)
        clear hK K
        refine norm_ (a' := ?_) ?_ ?_
        rotate_left
        ·show Act.put _ (some 60) _ = _
         simp only [Act.put, q1_, q2_, q3_, i64_w, i32_w]
         rfl
        refine one_ (i := 4) (N := some 61) #[true, true, true, true, true, false] rfl rfl (by kernel_rfl) (by decide) (fun K hK => ?_)
        refine goes_ Try.func14 (by kernel_rfl) rfl #[.agg #[.int .u64 t412, .int .i64 t413, .slice Ao87 x418002_2.length co87], .agg #[.int .u64 t440, .int .i64 t441, .slice Ao88 t442.length co88]] (by rfl) rfl rfl (by (try simp only [List.map_toArray, List.map_cons, List.map_nil]); first | done | rfl | (simp only [List.length_drop, List.length_take]; rfl)) ?_
        with_reducible refine (gristmillref06_Same.calls k2 t412 t413 _ _ x418002_2 t440 t441 _ _ t442 t445 _ ?side1 ?side2 ?side3 ?side4 A78.out).mono ?_
        (case side1 => repeat (first | exact (Kd.R_reads' HO_418002.out).2.2 | (with_reducible refine Kd.C_alloc ?_ _) | (with_reducible refine Kd.C_drewN ?_ _) | (with_reducible refine Kd.C_drew ?_)))
        (case side2 => exact (Kd.R_reads' HO_418002.out).2.1)
        (case side3 => repeat (first | exact (Kd.R_reads' HO444.out).2.2 | (with_reducible refine Kd.C_alloc ?_ _) | (with_reducible refine Kd.C_drewN ?_ _) | (with_reducible refine Kd.C_drew ?_)))
        (case side4 => exact (Kd.R_reads' HO444.out).2.1)
        rintro e w89 ⟨rfl, hb⟩
        refine ⟨_, rfl, ?_⟩
        have n0_ := Aside0.mk (Kd.S_below (by (with_reducible repeat (first | apply Kd.S_alloc | apply Kd.S_drewN | apply Kd.S_drew)); exact HO_6.out) hb)
        have n1_ := Aside0.mk (Kd.R_below (by (with_reducible repeat (first | apply Kd.R_alloc | apply Kd.R_drewN | apply Kd.R_drew)); exact HO_418002.out) hb)
        have n2_ := Aside0.mk (Kd.R_below (by (with_reducible repeat (first | apply Kd.R_alloc | apply Kd.R_drewN | apply Kd.R_drew)); exact HO_429002.out) hb)
        have n3_ := Aside0.mk (Kd.R_below (by (with_reducible repeat (first | apply Kd.R_alloc | apply Kd.R_drewN | apply Kd.R_drew)); exact HO_438002.out) hb)
        have n4_ := Aside0.mk (Kd.R_below (by (with_reducible repeat (first | apply Kd.R_alloc | apply Kd.R_drewN | apply Kd.R_drew)); exact HO444.out) hb)
        have n5_ := Aside0.mk (blk_below (bk_ BK410.out) hb)
        have n6_ := Aside0.mk (blk_below (bk_ BK411.out) hb)
        have n7_ := Aside0.mk (blk_below (bk_ BK417.out) hb)
        have n8_ := Aside0.mk (blk_below (bk_ BK428.out) hb)
        have n9_ := Aside0.mk (blk_below (bk_ BK437.out) hb)
        have n10_ := Aside0.mk (below_step (bw_ HB.out) hb)
        clear HO_6
        clear HO_418002
        clear HO_429002
        clear HO_438002
        clear HO444
        clear BK410
        clear BK411
        clear BK417
        clear BK428
        clear BK437
        clear HB
        have HO_6 := n0_
        have HO_418002 := n1_
        have HO_429002 := n2_
        have HO_438002 := n3_
        have HO444 := n4_
        have BK410 := n5_
        have BK411 := n6_
        have BK417 := n7_
        have BK428 := n8_
        have BK437 := n9_
        have HB := n10_
        clear n0_ n1_ n2_ n3_ n4_ n5_ n6_ n7_ n8_ n9_ n10_
        (try clear hb)
        (try clear hb2)
        (try clear hk)
        (try clear hi)
        refine hK.out _ _ ⟨(blk_cell BK417.out 0).trans rfl, (blk_cell BK417.out 1).trans rfl, (blk_cell BK417.out 2).trans rfl, (blk_cell BK411.out 0).trans rfl, (blk_cell BK411.out 1).trans rfl⟩ (fun hHeld => ?_)
        clear hK K
        refine norm_ (a' := ?_) ?_ ?_
        rotate_left
        ·show Act.put _ (some 61) _ = _
         simp only [Act.put, q1_, q2_, q3_, i64_w, i32_w]
         rfl
        refine pure_ (i := 5) (N := some 2) (v := ?_) (a' := ?_) #[true, true, true, true, true, true] rfl rfl (by kernel_rfl) (fun _ _ _ h => h) (Or.inl ⟨by rfl, ?_⟩) ?_ ?_
        rotate_left
        ·intro w'
         go_simp
         with_reducible rfl
        rotate_left
        ·simp only [Act.put, q1_, q2_, q3_, i64_w, i32_w]
         rfl
        refine done_ (by kernel_rfl) ?_
        try go_wp2
        go_ret
        exact ⟨by first | rfl | (simp [errW_none, errW_some] <;> rfl) | (simp [*, errW_none, errW_some] <;> rfl), by repeat (first | (with_reducible first | exact HB.out | apply below_alloc | apply pw_below_drewN | apply below_drew1 | refine below_set ?_ GE410.out | refine below_set ?_ GE411.out | refine below_set ?_ GE417.out | refine below_set ?_ GE428.out | refine below_set ?_ GE437.out) | exact HB.out)⟩
 ·replace c3 := Bool.eq_false_iff.mpr c3
  subst c3
  have H1 : (some false) = some r := by rw [if_neg (show ¬ (false = true) by decide)] at H; exact H
  clear H
  have H := H1
  clear H1
  obtain rfl := Option.some.inj H
  go_enter Try.func6, Try.ntmps6
  go_wp2_with (first | ((with_reducible refine gate_callee (f := 10) rfl ?_); refine goesL_ (some 12) rfl rfl Try.func10 (by kernel_rfl) rfl #[] rfl (by (try simp only [List.map_toArray, List.map_cons, List.map_nil]); first | done | rfl | (simp only [List.length_drop, List.length_take]; rfl)) ?_; (with_reducible refine (gristmilllaw06_awake.calls  false _ A2.out).mono ?_); rintro e w90 ⟨rfl, hb⟩; refine ⟨_, rfl, ?_⟩; have n0_ := Aside0.mk (below_step (bw_ HB.out) hb); clear HB; have HB := n0_; clear n0_; (try clear hb); (try clear hb2); (try clear hk); (try clear hi)))
  go_ret
  exact ⟨by first | rfl | (simp [errW_none, errW_some] <;> rfl) | (simp [*, errW_none, errW_some] <;> rfl), by repeat (first | (with_reducible first | exact HB.out | apply below_alloc | apply pw_below_drewN | apply below_drew1) | exact HB.out)⟩
end Go.Proofs.Ytmjhgeinhhhodaa.P
end

section
namespace Go.Proofs.Ytmjhgeinhhhodaa.Ext
set_option linter.unusedVariables false
set_option linter.unusedSimpArgs false
open Go.RowKit Go.Proofs.YtmjhgeinhhhodaaW.PrintWords Go.Proofs.Ytmjhgeinhhhodaa.P Go.Proofs.Ytmjhgeinhhhodaa.Txt
theorem mem_built (a : List ByteArray) (y : ByteArray) : y ∈ builtB a ↔ y ∈ a := by
  unfold builtB strs
  rw [List.mem_map]
  constructor
  · rintro ⟨t, ht, rfl⟩
    rw [built_mem] at ht
    unfold txts at ht
    obtain ⟨z, hz, rfl⟩ := List.mem_map.1 ht
    have e : Txt.bs z.data.toList = z := bs_of z
    rw [e]; exact hz
  · intro h
    exact ⟨y.data.toList, (built_mem _ _).2 (List.mem_map.2 ⟨y, h, rfl⟩), bs_of y⟩
theorem built_ext {a b : List ByteArray} (h : ∀ y, y ∈ a ↔ y ∈ b) : builtB a = builtB b := by
  unfold builtB
  congr 1
  refine rises_same (built_rises _) (built_rises _) (fun y => ?_)
  rw [built_mem, built_mem]
  unfold txts
  rw [List.mem_map, List.mem_map]
  constructor
  · rintro ⟨z, hz, rfl⟩; exact ⟨z, (h z).1 hz, rfl⟩
  · rintro ⟨z, hz, rfl⟩; exact ⟨z, (h z).2 hz, rfl⟩
theorem built_twice (a : List ByteArray) : builtB (builtB a) = builtB a := built_ext (fun y => mem_built a y)
theorem built_length (a : List ByteArray) : (builtB a).length ≤ a.length := by
  unfold builtB
  rw [strs_length]
  exact Nat.le_trans (built_le _) (by rw [txts_length]; exact Nat.le_refl _)
structure Pt where
  n : Int
  v : Int
  t : List ByteArray
def Pt.z : Pt := ⟨0, 0, []⟩
def mg (c : Int) (p q : Pt) : Pt :=
  if p.n = 0 then (if q.n = 0 then ⟨0, 0, []⟩ else ⟨q.n, q.v, builtB q.t⟩) else if q.n = 0 then ⟨p.n, p.v, builtB p.t⟩ else ⟨IntKind.u64.wrap (p.n + q.n), mergeV c p.v q.v, builtB (p.t ++ q.t)⟩
structure Fit (c : Int) (b : Int) (p : Pt) : Prop where
  lo : 0 ≤ p.n
  hi : p.n ≤ b
  zv : p.n = 0 → p.v = 0
  zt : p.n = 0 → p.t = []
  bt : builtB p.t = p.t
  len : (p.t.length : Int) ≤ p.n
  tx : c ≠ 5 → p.t = []
  vz : c = 1 ∨ c = 5 → p.v = 0
  sz : ∀ s ∈ p.t, s.size ≤ 64
  tn : c = 5 → p.n ≠ 0 → p.t ≠ []
theorem u64_small {n : Int} (h0 : 0 ≤ n) (h : n < 18446744073709551616) : IntKind.u64.wrap n = n := by
  show n % 18446744073709551616 = n
  omega
theorem fit_z (c b : Int) (hb : 0 ≤ b) : Fit c b Pt.z := ⟨Int.le_refl _, hb, fun _ => rfl, fun _ => rfl, builtB_nil, Int.le_refl _, fun _ => rfl, fun _ => rfl, fun s h => (by cases h), fun _ h => absurd rfl h⟩
theorem mg_fit {c b b' : Int} {p q : Pt} (hp : Fit c b p) (hq : Fit c b' q) (hb : b + b' < 4611686018427387904) (hb0 : 0 ≤ b) (hb1 : 0 ≤ b') : Fit c (b + b') (mg c p q) := by
  have h1 := hp.lo; have h2 := hp.hi; have h3 := hq.lo; have h4 := hq.hi
  unfold mg
  by_cases hpz : p.n = 0
  · rw [if_pos hpz]
    by_cases hqz : q.n = 0
    · rw [if_pos hqz]
      exact fit_z c _ (by omega)
    · rw [if_neg hqz, hq.bt]
      exact ⟨h3, by show q.n ≤ _; omega, hq.zv, hq.zt, hq.bt, hq.len, hq.tx, hq.vz, hq.sz, hq.tn⟩
  · rw [if_neg hpz]
    by_cases hqz : q.n = 0
    · rw [if_pos hqz, hp.bt]
      exact ⟨h1, by show p.n ≤ _; omega, hp.zv, hp.zt, hp.bt, hp.len, hp.tx, hp.vz, hp.sz, hp.tn⟩
    · rw [if_neg hqz, u64_small (by omega) (by omega)]
      refine ⟨by show (0 : Int) ≤ p.n + q.n; omega, by show p.n + q.n ≤ _; omega, fun h => ?_, fun h => ?_, built_twice _, ?_, fun h => ?_, fun h => ?_, fun s hs => ?_, fun h5 _ he => ?_⟩
      · have : p.n + q.n = 0 := h
        omega
      · have : p.n + q.n = 0 := h
        omega
      · have := built_length (p.t ++ q.t)
        rw [List.length_append] at this
        have h5 := hp.len
        have h6 := hq.len
        show ((builtB (p.t ++ q.t)).length : Int) ≤ p.n + q.n
        omega
      · show builtB (p.t ++ q.t) = []
        rw [hp.tx h, hq.tx h]
        exact builtB_nil
      · show mergeV c p.v q.v = 0
        rw [hp.vz h, hq.vz h]
        unfold mergeV
        rcases h with rfl | rfl <;> simp
      · have := (mem_built _ _).1 hs
        rcases List.mem_append.1 this with h | h
        · exact hp.sz s h
        · exact hq.sz s h
      · have he' : builtB (p.t ++ q.t) = [] := he
        refine hp.tn h5 hpz (List.eq_nil_iff_forall_not_mem.2 (fun y hy => ?_))
        have := (mem_built (p.t ++ q.t) y).2 (List.mem_append_left _ hy)
        rw [he'] at this
        cases this
theorem mg_zero {c b : Int} {p : Pt} (hp : Fit c b p) : mg c p Pt.z = p := by
  unfold mg Pt.z
  by_cases hpz : p.n = 0
  · rw [if_pos hpz, if_pos rfl]
    have h1 := hp.zv hpz
    have h2 := hp.zt hpz
    cases p
    simp_all
  · rw [if_neg hpz, if_pos rfl, hp.bt]
theorem mg_n {c b b' : Int} {p q : Pt} (hp : Fit c b p) (hq : Fit c b' q) (hb : b + b' < 4611686018427387904) : (mg c p q).n = p.n + q.n := by
  have h1 := hp.lo; have h2 := hp.hi; have h3 := hq.lo; have h4 := hq.hi
  unfold mg
  by_cases hpz : p.n = 0
  · by_cases hqz : q.n = 0
    · rw [if_pos hpz, if_pos hqz]; show (0 : Int) = _; omega
    · rw [if_pos hpz, if_neg hqz]; show q.n = _; omega
  · by_cases hqz : q.n = 0
    · rw [if_neg hpz, if_pos hqz]; show p.n = _; omega
    · rw [if_neg hpz, if_neg hqz]
      exact u64_small (by omega) (by omega)
theorem merge_is {c c1 b b' : Int} {p q : Pt} (hc : 1 ≤ c ∧ c ≤ 5) (hp : Fit c b p) (hq : Fit c b' q) (hl : p.t.length + q.t.length < 8796093022208) : agg_Merge.f c c1 p.n p.v p.t q.n q.v q.t = some ((mg c p q).n, (mg c p q).v, (mg c p q).t) := by
  unfold agg_Merge.f mg mfin
  rw [if_neg (by omega)]
  by_cases hpz : p.n = 0
  · by_cases hqz : q.n = 0
    · simp only [if_pos hpz, if_pos hqz]
    · simp only [if_pos hpz, if_neg hqz]
      rw [if_pos (by omega)]
  · by_cases hqz : q.n = 0
    · simp only [if_neg hpz, if_pos hqz]
      rw [if_pos (by omega)]
    · simp only [if_neg hpz, if_neg hqz]
      rw [if_pos (by rw [List.length_append]; omega)]
structure FitM (m : S44) : Prop where
  n0 : 0 ≤ m.f1
  n1 : m.f1 < 1125899906842624
  d : m.f0.f1.length = 2
  e : m.f0.f2.length = 2
  s : ∀ x ∈ m.f0.f1, x.size ≤ 64
def unit (c c1 : Int) (m : S44) : Pt :=
  if m.f1 = 0 then Pt.z else if c = 1 then ⟨m.f1, 0, []⟩ else if c = 5 then ⟨m.f1, 0, [m.f0.f1.getD c1.toNat ⟨#[]⟩]⟩ else ⟨m.f1, manyV c (rd m.f0.f2 c1) m.f1, []⟩
theorem unit_fit {c c1 : Int} {m : S44} (hc : 1 ≤ c ∧ c ≤ 5) (h1 : 0 ≤ c1 ∧ c1 < 2) (hm : FitM m) : Fit c 1125899906842624 (unit c c1 m) := by
  have h2 := hm.n0; have h3 := hm.n1
  unfold unit
  by_cases hz : m.f1 = 0
  · rw [if_pos hz]; exact fit_z _ _ (by omega)
  rw [if_neg hz]
  by_cases hc1 : c = 1
  · rw [if_pos hc1]
    exact ⟨h2, by show m.f1 ≤ _; omega, fun _ => rfl, fun _ => rfl, builtB_nil, h2, fun _ => rfl, fun _ => rfl, fun s h => (by cases h), fun h _ => by omega⟩
  rw [if_neg hc1]
  by_cases hc5 : c = 5
  · rw [if_pos hc5]
    refine ⟨h2, by show m.f1 ≤ _; omega, fun _ => rfl, fun h => absurd h hz, builtB_one _, by show (1 : Int) ≤ m.f1; omega, fun h => absurd hc5 h, fun _ => rfl, fun s hs => ?_, fun _ _ h => by cases h⟩
    have e := List.mem_singleton.1 hs
    subst e
    have hlt : c1.toNat < m.f0.f1.length := by have := hm.d; omega
    rw [List.getD_eq_getElem?_getD, List.getElem?_eq_getElem hlt]
    exact hm.s _ (List.getElem_mem hlt)
  · rw [if_neg hc5]
    exact ⟨h2, by show m.f1 ≤ _; omega, fun h => absurd h hz, fun _ => rfl, builtB_nil, h2, fun _ => rfl, fun h => (by omega), fun s h => (by cases h), fun h => absurd h hc5⟩
theorem add_is {c c1 b : Int} {p : Pt} {m : S44} (hc : 1 ≤ c ∧ c ≤ 5) (h1 : 0 ≤ c1 ∧ c1 < 2) (hp : Fit c b p) (hm : FitM m) (hl : p.t.length + 1 < 8796093022208) :
    agg_Add.f c c1 p.n p.v p.t m.f0.f0 m.f0.f1 m.f0.f2 m.f1 = some ((mg c p (unit c c1 m)).n, (mg c p (unit c c1 m)).v, (mg c p (unit c c1 m)).t) := by
  have hu := unit_fit hc h1 hm
  have key : agg_Add.f c c1 p.n p.v p.t m.f0.f0 m.f0.f1 m.f0.f2 m.f1 = agg_Merge.f c c1 p.n p.v p.t (unit c c1 m).n (unit c c1 m).v (unit c c1 m).t := by
    have hd := hm.d; have he := hm.e
    unfold agg_Add.f unit
    rw [if_neg (by omega)]
    by_cases hz : m.f1 = 0
    · rw [if_pos hz, if_pos hz]; rfl
    rw [if_neg hz, if_neg hz]
    by_cases hc1 : c = 1
    · rw [if_pos hc1, if_pos hc1]
    rw [if_neg hc1, if_neg hc1]
    by_cases hc5 : c = 5
    · rw [if_pos hc5, if_pos hc5, if_pos (by omega)]
    · rw [if_neg hc5, if_neg hc5, if_pos (by omega)]
  rw [key]
  refine merge_is hc hp hu ?_
  have : (unit c c1 m).t.length ≤ 1 := by
    unfold unit
    split
    · exact Nat.zero_le _
    · split
      · exact Nat.zero_le _
      · split
        · exact Nat.le_refl _
        · exact Nat.zero_le _
  omega
def sp (c c1 : Int) (l : List S44) : Pt := l.foldl (fun p m => mg c p (unit c c1 m)) Pt.z
theorem sp_snoc (c c1 : Int) (l : List S44) (m : S44) : sp c c1 (l ++ [m]) = mg c (sp c c1 l) (unit c c1 m) := by
  unfold sp; rw [List.foldl_append]; rfl
def FitL (l : List S44) : Prop := ∀ m ∈ l, FitM m
theorem snoc_ind {P : List S44 → Prop} (h0 : P []) (h : ∀ l m, P l → P (l ++ [m])) (l : List S44) : P l := by
  rw [← List.reverse_reverse l]
  induction l.reverse with
  | nil => exact h0
  | cons m r ih => rw [List.reverse_cons]; exact h _ _ ih
theorem sp_fit {c c1 : Int} (hc : 1 ≤ c ∧ c ≤ 5) (h1 : 0 ≤ c1 ∧ c1 < 2) (l : List S44) : FitL l → l.length ≤ 1000 → Fit c (1125899906842624 * (l.length : Int)) (sp c c1 l) := by
  refine snoc_ind (P := fun l => FitL l → l.length ≤ 1000 → Fit c (1125899906842624 * (l.length : Int)) (sp c c1 l)) (fun _ _ => fit_z _ _ (by simp)) (fun l m ih hf hl => ?_) l
  rw [List.length_append, List.length_singleton] at hl ⊢
  rw [sp_snoc]
  have := mg_fit (ih (fun x hx => hf x (by simp [hx])) (by omega)) (unit_fit hc h1 (hf m (by simp))) (by omega) (by omega) (by omega)
  refine ⟨this.lo, Int.le_trans this.hi (by omega), this.zv, this.zt, this.bt, this.len, this.tx, this.vz, this.sz, this.tn⟩
end Go.Proofs.Ytmjhgeinhhhodaa.Ext
end

section
namespace Go.Proofs.Ytmjhgeinhhhodaa.Ext
set_option linter.unusedVariables false
set_option linter.unusedSimpArgs false
open Go.RowKit Go.Proofs.YtmjhgeinhhhodaaW.PrintWords Go.Proofs.Ytmjhgeinhhhodaa.P Go.Proofs.Ytmjhgeinhhhodaa.Txt
theorem rd44 (l : List S44) (j : Nat) (hj : j < l.length) : rd_T44 l (j : Int) = l[j] := by unfold rd_T44; simp [hj]
theorem sp_t_len {c c1 : Int} (hc : 1 ≤ c ∧ c ≤ 5) (h1 : 0 ≤ c1 ∧ c1 < 2) (l : List S44) : FitL l → l.length ≤ 1000 → (sp c c1 l).t.length ≤ l.length := by
  refine snoc_ind (P := fun l => FitL l → l.length ≤ 1000 → (sp c c1 l).t.length ≤ l.length) (fun _ _ => Nat.le_refl _) (fun l m ih hf hl => ?_) l
  rw [List.length_append, List.length_singleton] at hl ⊢
  have hf' : FitL l := fun z hz => hf z (by simp [hz])
  have hm := hf m (by simp)
  have h := ih hf' (by omega)
  have hs := sp_fit hc h1 l hf' (by omega)
  have hu := unit_fit hc h1 hm
  have hul : (unit c c1 m).t.length ≤ 1 := by
    unfold unit
    split
    · exact Nat.zero_le _
    · split
      · exact Nat.zero_le _
      · split
        · exact Nat.le_refl _
        · exact Nat.zero_le _
  rw [sp_snoc]
  unfold mg
  by_cases hpz : (sp c c1 l).n = 0
  · by_cases hqz : (unit c c1 m).n = 0
    · rw [if_pos hpz, if_pos hqz]; exact Nat.zero_le _
    · rw [if_pos hpz, if_neg hqz]
      show (builtB (unit c c1 m).t).length ≤ _
      rw [hu.bt]; omega
  · by_cases hqz : (unit c c1 m).n = 0
    · rw [if_neg hpz, if_pos hqz]
      show (builtB (sp c c1 l).t).length ≤ _
      rw [hs.bt]; omega
    · rw [if_neg hpz, if_neg hqz]
      have := built_length ((sp c c1 l).t ++ (unit c c1 m).t)
      rw [List.length_append] at this
      show (builtB ((sp c c1 l).t ++ (unit c c1 m).t)).length ≤ _
      omega
theorem take_snoc (l : List S44) (j : Nat) (hj : j < l.length) : l.take (j + 1) = l.take j ++ [l[j]] := List.take_succ_eq_append_getElem hj
theorem FitL.take {l : List S44} (h : FitL l) (j : Nat) : FitL (l.take j) := fun m hm => h m (List.mem_of_mem_take hm)
theorem of_step {c c1 b : Int} (hc : 1 ≤ c ∧ c ≤ 5) (h1 : 0 ≤ c1 ∧ c1 < 2) (l : List S44) (hf : FitL l) (hl : l.length ≤ 1000) (j k : Nat) (hj : j < l.length) (p : Pt) (hp : Fit c b p) (ht : p.t.length ≤ 1000) :
    gristmilllaw06_of.l0 (k + 1) l (j : Int) c c1 p.n p.v p.t = gristmilllaw06_of.l0 k l ((j + 1 : Nat) : Int) c c1 (mg c p (unit c c1 l[j])).n (mg c p (unit c c1 l[j])).v (mg c p (unit c c1 l[j])).t := by
  have e : wrap64 ((j : Int) + 1) = ((j + 1 : Nat) : Int) := by unfold wrap64; omega
  have ha := add_is hc h1 hp (hf _ (List.getElem_mem hj)) (Nat.lt_of_le_of_lt (Nat.succ_le_succ ht) (by decide))
  have hi : (j : Int) < (l.length : Int) := Int.ofNat_lt.2 hj
  rw [gristmilllaw06_of.l0, if_pos hi, if_pos (Int.natCast_nonneg j), rd44 l j hj, ha, e]
  rfl
theorem of_end {c c1 : Int} (l : List S44) (k : Nat) (p : Pt) : gristmilllaw06_of.l0 (k + 1) l ((l.length : Nat) : Int) c c1 p.n p.v p.t = some (p.n, p.v, p.t) := by
  rw [gristmilllaw06_of.l0, if_neg (Int.lt_irrefl _)]
theorem of_loop {c c1 : Int} (hc : 1 ≤ c ∧ c ≤ 5) (h1 : 0 ≤ c1 ∧ c1 < 2) (l : List S44) (hf : FitL l) (hl : l.length ≤ 1000) : ∀ (n j : Nat), j + n = l.length → ∀ (k : Nat) (p : Pt), p = sp c c1 (l.take j) →
    gristmilllaw06_of.l0 (k + n + 1) l (j : Int) c c1 p.n p.v p.t = some ((sp c c1 l).n, (sp c c1 l).v, (sp c c1 l).t) := by
  intro n
  induction n with
  | zero =>
    intro j hj k p hp
    have e : l.take j = l := List.take_of_length_le (by omega)
    rw [e] at hp
    have hj' : j = l.length := by omega
    subst hj'
    rw [← hp]
    exact of_end l k p
  | succ n ih =>
    intro j hj k p hp
    have hjl : j < l.length := by omega
    have hlt : (l.take j).length ≤ 1000 := by rw [List.length_take]; omega
    have ht : p.t.length ≤ 1000 := by rw [hp]; exact Nat.le_trans (sp_t_len hc h1 (l.take j) (hf.take j) hlt) hlt
    have hfp := sp_fit hc h1 (l.take j) (hf.take j) hlt
    rw [← hp] at hfp
    have hs := of_step hc h1 l hf hl j (k + n + 1) hjl p hfp ht
    rw [show k + (n + 1) + 1 = (k + n + 1) + 1 by omega, hs]
    exact ih (j + 1) (by omega) k _ (by rw [take_snoc l j hjl, sp_snoc, hp])
theorem of_is {c c1 : Int} (hc : 1 ≤ c ∧ c ≤ 5) (h1 : 0 ≤ c1 ∧ c1 < 2) (l : List S44) (hf : FitL l) (hl : l.length ≤ 1000) (k : Nat) (hk : 1001 ≤ k) : gristmilllaw06_of.f k c c1 l = some ((sp c c1 l).n, (sp c c1 l).v, (sp c c1 l).t) := by
  have := of_loop hc h1 l hf hl l.length 0 (by omega) (k - l.length - 1) Pt.z rfl
  rw [show k - l.length - 1 + l.length + 1 = k by omega] at this
  unfold gristmilllaw06_of.f agg_Start.f
  exact this
theorem same_loop (n v : Int) (t : List ByteArray) (ht : t.length ≤ 100000) : ∀ (m j : Nat), j + m = t.length → ∀ k, gristmillref06_Same.l0 (k + m + 1) (j : Int) n v t n v t = some true
  | 0, j, hj, k => by rw [gristmillref06_Same.l0, if_neg (by omega)]
  | m + 1, j, hj, k => by
    have e : wrap64 ((j : Int) + 1) = ((j + 1 : Nat) : Int) := by unfold wrap64; omega
    rw [show k + (m + 1) + 1 = (k + m + 1) + 1 by omega, gristmillref06_Same.l0, if_pos (by omega), if_pos (by omega), if_pos (by omega), if_pos rfl, e]
    exact same_loop n v t ht m (j + 1) (by omega) k
theorem same_is (n v : Int) (t : List ByteArray) (ht : t.length ≤ 1000) (k : Nat) (hk : 1002 ≤ k) : gristmillref06_Same.f k n v t n v t = some true := by
  have := same_loop n v t (by omega) t.length 0 (by omega) (k - t.length - 2)
  unfold gristmillref06_Same.f
  rw [if_pos rfl, if_pos rfl, show k = (k - t.length - 2 + t.length + 1) + 1 by omega, gristmillref06_Same.j0]
  rw [if_neg (by simp)]
  exact this
theorem abs_is (n : Int) (h : (Lit.int .i64 n).wf = true) : ∃ m : Int, gristmilllaw06_abs.f n = some m ∧ 0 ≤ m := by
  simp only [Lit.wf, Bool.and_eq_true, decide_eq_true_eq] at h
  have h1 : -9223372036854775808 ≤ n := h.1
  have h2 : n ≤ 9223372036854775807 := by have := h.2; exact this
  unfold gristmilllaw06_abs.f
  by_cases hn : n < 0
  · rw [if_pos hn]
    refine ⟨_, rfl, ?_⟩
    unfold wrap64; omega
  · rw [if_neg hn]
    exact ⟨n, rfl, by omega⟩
theorem up_ {α : Type} (g : Nat → Option α) (h : ∀ k, LeO (g k) (g (k + 1))) {k0 k : Nat} {r : α} (h0 : g k0 = some r) (hk : k0 ≤ k) : g k = some r := by
  obtain ⟨d, rfl⟩ : ∃ d, k = k0 + d := ⟨k - k0, by omega⟩
  clear hk
  induction d with
  | zero => exact h0
  | succ d ih => exact h _ r ih
def DimsFit (D : List ByteArray) : Prop := D.length = 2 ∧ ∀ s ∈ D, s.size ≤ 64
theorem dims_set {D : List ByteArray} (h : DimsFit D) (i : Nat) (x : ByteArray) (hx : x.size ≤ 64) : DimsFit (D.set i x) := by
  refine ⟨by rw [List.length_set]; exact h.1, fun s hs => ?_⟩
  rcases List.mem_or_eq_of_mem_set hs with h1 | h1
  · exact h.2 s h1
  · rw [h1]; exact hx
theorem right_inner (l acc : List S44) (i : Nat) (hi : i < l.length) (c0 c1 : Int) (t : Int) (D : List ByteArray) (M : List Int) (hD : DimsFit D) (hM : M.length = 2) (x : Nat) (hx : x < 2) (k : Nat) :
    ∃ D' M', DimsFit D' ∧ M'.length = 2 ∧ gristmilllaw06_right.l1 (k + 2) l acc (i : Int) (x : Int) c0 c1 2 2 t D M = gristmilllaw06_right.l1 k l acc (i : Int) ((x + 1 : Nat) : Int) c0 c1 2 2 t D' M' := by
  have e : wrap64 ((x : Int) + 1) = ((x + 1 : Nat) : Int) := by unfold wrap64; omega
  have hi' : (i : Int) < (l.length : Int) := Int.ofNat_lt.2 hi
  have hi0 : 0 ≤ (i : Int) := Int.natCast_nonneg i
  have hx0 : 0 ≤ (x : Int) := Int.natCast_nonneg x
  have hx2 : (x : Int) < 2 := by omega
  have hD1 := hD.1
  obtain ⟨m, hm⟩ : ∃ m, rd_T44 l (i : Int) = m := ⟨_, rfl⟩
  rw [show k + 2 = (k + 1) + 1 from rfl, gristmilllaw06_right.l1, if_pos hx2, if_pos hi0, if_pos hi', hm]
  -- what is done for the numbers
  have meas : ∀ (D2 : List ByteArray), DimsFit D2 → ∃ D' M', DimsFit D' ∧ M'.length = 2 ∧
      (if (x : Int) < ((m.f0.f2).length : Int) then (if (x : Int) < (M.length : Int) then (gristmilllaw06_right.l1 k l acc (i : Int) (wrap64 ((x : Int) + 1)) c0 c1 2 2 t D2 (M.set (x : Int).toNat (rd (m.f0.f2) (x : Int)))) else none) else (gristmilllaw06_right.l1 k l acc (i : Int) (wrap64 ((x : Int) + 1)) c0 c1 2 2 t D2 M)) =
      gristmilllaw06_right.l1 k l acc (i : Int) ((x + 1 : Nat) : Int) c0 c1 2 2 t D' M' := by
    intro D2 hD2
    rw [e]
    by_cases h : (x : Int) < ((m.f0.f2).length : Int)
    · rw [if_pos h, if_pos (by omega)]
      exact ⟨D2, _, hD2, by rw [List.length_set]; exact hM, rfl⟩
    · rw [if_neg h]
      exact ⟨D2, M, hD2, hM, rfl⟩
  have noth : ∃ D' M', DimsFit D' ∧ M'.length = 2 ∧ gristmilllaw06_right.j3 (k + 1) l acc (i : Int) (x : Int) false c0 c1 2 2 t D M = gristmilllaw06_right.l1 k l acc (i : Int) ((x + 1 : Nat) : Int) c0 c1 2 2 t D' M' := by
    rw [gristmilllaw06_right.j3, if_neg (by simp), if_pos hi0, if_pos hi', hm]
    obtain ⟨D', M', h1, h2, h3⟩ := meas D hD
    refine ⟨D', M', h1, h2, ?_⟩
    rw [← h3]
    split
    · first | rfl | rw [if_pos hx0]
    · rfl
  by_cases hd : (x : Int) < ((m.f0.f1).length : Int)
  · rw [if_pos hd, if_pos hx0]
    by_cases h64 : ((rdOf ByteArray.empty (m.f0.f1) (x : Int)).size : Int) ≤ 64
    · rw [decide_eq_true h64]
      obtain ⟨D', M', h1, h2, h3⟩ := meas (D.set (x : Int).toNat (rdOf ByteArray.empty (m.f0.f1) (x : Int))) (dims_set hD _ _ (by omega))
      refine ⟨D', M', h1, h2, ?_⟩
      rw [gristmilllaw06_right.j3, if_pos rfl, if_pos hi0, if_pos hi', if_pos hx0, hm, if_pos hd, if_pos (show (x : Int) < (D.length : Int) by omega), Option.bind_some]
      exact h3
    · rw [decide_eq_false h64]
      exact noth
  · rw [if_neg hd]
    exact noth
theorem right_one (l acc : List S44) (i : Nat) (hi : i < l.length) (hi40 : i < 40) (hn : 0 ≤ l[i].f1) (ha : acc.length ≤ 40) (c0 c1 : Int) (k : Nat) :
    ∃ m, FitM m ∧ gristmilllaw06_right.l0 (k + 7) l acc (i : Int) c0 c1 2 2 = gristmilllaw06_right.l0 k l (acc ++ [m]) ((i + 1 : Nat) : Int) c0 c1 2 2 := by
  have e : wrap64 ((i : Int) + 1) = ((i + 1 : Nat) : Int) := by unfold wrap64; omega
  have hi' : (i : Int) < (l.length : Int) := Int.ofNat_lt.2 hi
  have hi0 : 0 ≤ (i : Int) := Int.natCast_nonneg i
  have hr := rd44 l i hi
  have h0 : DimsFit [(⟨#[]⟩ : ByteArray), (⟨#[]⟩ : ByteArray)] := ⟨rfl, fun s hs => by
    simp only [List.mem_cons, List.not_mem_nil, or_false, or_self] at hs
    subst hs; decide⟩
  obtain ⟨D1, M1, hD1, hM1, e1⟩ := right_inner l acc i hi c0 c1 (l[i].f0.f0) _ [0, 0] h0 rfl 0 (by omega) (k + 3)
  obtain ⟨D2, M2, hD2, hM2, e2⟩ := right_inner l acc i hi c0 c1 (l[i].f0.f0) D1 M1 hD1 hM1 1 (by omega) (k + 1)
  refine ⟨⟨⟨l[i].f0.f0, D2, M2⟩, Int.tmod l[i].f1 1125899906842624⟩, ⟨Int.tmod_nonneg _ hn, Int.tmod_lt_of_pos _ (by omega), hD2.1, hM2, hD2.2⟩, ?_⟩
  rw [show k + 7 = (k + 6) + 1 from rfl, gristmilllaw06_right.l0, if_pos hi', decide_eq_true (show (i : Int) < 40 by omega), show k + 6 = (k + 5) + 1 from rfl, gristmilllaw06_right.j1, if_pos rfl, if_pos hi0, if_pos hi', hr]
  have e1' : gristmilllaw06_right.l1 (k + 5) l acc (i : Int) 0 c0 c1 2 2 (l[i].f0.f0) [(⟨#[]⟩ : ByteArray), (⟨#[]⟩ : ByteArray)] [0, 0] = gristmilllaw06_right.l1 (k + 3) l acc (i : Int) ((1 : Nat) : Int) c0 c1 2 2 (l[i].f0.f0) D1 M1 := e1
  have e2' : gristmilllaw06_right.l1 (k + 3) l acc (i : Int) ((1 : Nat) : Int) c0 c1 2 2 (l[i].f0.f0) D1 M1 = gristmilllaw06_right.l1 (k + 1) l acc (i : Int) ((2 : Nat) : Int) c0 c1 2 2 (l[i].f0.f0) D2 M2 := e2
  rw [e1', e2', gristmilllaw06_right.l1, if_neg (by omega), if_pos hi0, if_pos hi', if_pos (by omega), hr, e]
theorem right_loop (l : List S44) (hn : ∀ m ∈ l, 0 ≤ m.f1) (c0 c1 : Int) : ∀ (n i : Nat), i + n = min l.length 40 → ∀ (acc : List S44) (k : Nat), acc.length = i → FitL acc →
    ∃ r, FitL r ∧ r.length ≤ 40 ∧ gristmilllaw06_right.l0 (k + 7 * n + 2) l acc (i : Int) c0 c1 2 2 = some (2, 2, c0, c1, r) := by
  intro n
  induction n with
  | zero =>
    intro i hi acc k ha hf
    refine ⟨acc, hf, by omega, ?_⟩
    rw [show k + 7 * 0 + 2 = (k + 1) + 1 from rfl, gristmilllaw06_right.l0]
    by_cases h : (i : Int) < (l.length : Int)
    · rw [if_pos h, decide_eq_false (show ¬ (i : Int) < 40 by omega), gristmilllaw06_right.j1, if_neg (by simp)]
    · rw [if_neg h, gristmilllaw06_right.j1, if_neg (by simp)]
  | succ n ih =>
    intro i hi acc k ha hf
    have hil : i < l.length := by omega
    obtain ⟨m, hm, e⟩ := right_one l acc i hil (by omega) (hn _ (List.getElem_mem hil)) (by omega) c0 c1 (k + 7 * n + 2)
    rw [show k + 7 * (n + 1) + 2 = k + 7 * n + 2 + 7 by omega, e]
    exact ih (i + 1) (by omega) (acc ++ [m]) k (by simp [ha]) (fun x hx => by
      rcases List.mem_append.1 hx with h | h
      · exact hf x h
      · rw [List.mem_singleton.1 h]; exact hm)
theorem right_is (a0 a1 : Int) (h0 : (Lit.int .i64 a0).wf = true) (h1 : (Lit.int .i64 a1).wf = true) : ∃ c0 c1 : Int, (1 ≤ c0 ∧ c0 ≤ 5) ∧ (0 ≤ c1 ∧ c1 < 2) ∧
    ∀ (l : List S44), (∀ m ∈ l, 0 ≤ m.f1) → ∃ r, FitL r ∧ r.length ≤ 40 ∧ ∀ k, 300 ≤ k → gristmilllaw06_right.f k a0 a1 l = some (2, 2, c0, c1, r) := by
  obtain ⟨m0, e0, hm0⟩ := abs_is a0 h0
  obtain ⟨m1, e1, hm1⟩ := abs_is a1 h1
  have h5 : 0 ≤ Int.tmod m0 5 ∧ Int.tmod m0 5 < 5 := ⟨Int.tmod_nonneg _ hm0, Int.tmod_lt_of_pos _ (by omega)⟩
  have h2 : 0 ≤ Int.tmod m1 2 ∧ Int.tmod m1 2 < 2 := ⟨Int.tmod_nonneg _ hm1, Int.tmod_lt_of_pos _ (by omega)⟩
  refine ⟨wrap64 (1 + Int.tmod m0 5), Int.tmod m1 2, by unfold wrap64; omega, h2, fun l hl => ?_⟩
  obtain ⟨r, h3, h4, _⟩ := right_loop l hl (wrap64 (1 + Int.tmod m0 5)) (Int.tmod m1 2) (min l.length 40) 0 (by omega) [] 0 rfl (fun x hx => by cases hx)
  refine ⟨r, h3, h4, fun k hk => ?_⟩
  have hb : gristmilllaw06_right.f (0 + 7 * (min l.length 40) + 2) a0 a1 l = some (2, 2, wrap64 (1 + Int.tmod m0 5), Int.tmod m1 2, r) := by
    unfold gristmilllaw06_right.f
    rw [e0, e1]
    assumption
  exact up_ (fun k => gristmilllaw06_right.f k a0 a1 l) (fun k => gristmilllaw06_right.mono a0 a1 l k) hb (by omega)
end Go.Proofs.Ytmjhgeinhhhodaa.Ext
end

section
namespace Go.Proofs.Ytmjhgeinhhhodaa.Ext
set_option linter.unusedVariables false
set_option linter.unusedSimpArgs false
open Go.RowKit Go.Proofs.YtmjhgeinhhhodaaW.PrintWords Go.Proofs.Ytmjhgeinhhhodaa.P Go.Proofs.Ytmjhgeinhhhodaa.Txt
def putL : List ByteArray → ByteArray → List ByteArray
  | [], x => [x]
  | t :: r, x => if t.data.toList = x.data.toList then t :: r else if x.data.toList < t.data.toList then x :: t :: r else t :: putL r x
theorem putL_mem : ∀ (l : List ByteArray) (x y : ByteArray), y ∈ putL l x ↔ y ∈ l ∨ y = x
  | [], x, y => by simp [putL]
  | t :: r, x, y => by
    unfold putL
    by_cases h : t.data.toList = x.data.toList
    · have e := (bs_eq t x).2 h
      subst e
      rw [if_pos rfl]
      constructor
      · exact .inl
      · rintro (h | rfl)
        · exact h
        · simp
    · rw [if_neg h]
      by_cases h2 : x.data.toList < t.data.toList
      · rw [if_pos h2]; simp only [List.mem_cons]
        constructor
        · rintro (h | h | h)
          · exact .inr h
          · exact .inl (.inl h)
          · exact .inl (.inr h)
        · rintro ((h | h) | h)
          · exact .inr (.inl h)
          · exact .inr (.inr h)
          · exact .inl h
      · rw [if_neg h2, List.mem_cons, putL_mem r x y, List.mem_cons]
        constructor
        · rintro (h | h | h)
          · exact .inl (.inl h)
          · exact .inl (.inr h)
          · exact .inr h
        · rintro ((h | h) | h)
          · exact .inl h
          · exact .inr (.inl h)
          · exact .inr (.inr h)
theorem putL_rises : ∀ (l : List ByteArray) (x : ByteArray), l.Pairwise (fun a b => a.data.toList < b.data.toList) → (putL l x).Pairwise (fun a b => a.data.toList < b.data.toList)
  | [], x, _ => by simp [putL]
  | t :: r, x, h => by
    unfold putL
    rw [List.pairwise_cons] at h
    by_cases h1 : t.data.toList = x.data.toList
    · rw [if_pos h1, List.pairwise_cons]; exact h
    · rw [if_neg h1]
      by_cases h2 : x.data.toList < t.data.toList
      · rw [if_pos h2, List.pairwise_cons, List.pairwise_cons]
        refine ⟨fun y hy => ?_, h⟩
        rcases List.mem_cons.1 hy with rfl | hy
        · exact h2
        · exact lt_trans h2 (h.1 y hy)
      · rw [if_neg h2, List.pairwise_cons]
        refine ⟨fun y hy => ?_, putL_rises r x h.2⟩
        rcases (putL_mem r x y).1 hy with hy | rfl
        · exact h.1 y hy
        · rcases lt_or t.data.toList y.data.toList with h3 | h3 | h3
          · exact h3
          · exact absurd h3 h1
          · exact absurd h3 h2
theorem built_of_rises {l : List ByteArray} (h : l.Pairwise (fun a b => a.data.toList < b.data.toList)) : builtB l = l := by
  have h2 : (txts l).Pairwise (· < ·) := by unfold txts; rw [List.pairwise_map]; exact h
  have e : Txt.built (txts l) = txts l := rises_same (built_rises _) h2 (fun y => built_mem _ _)
  unfold builtB
  rw [e]
  unfold strs txts
  rw [List.map_map]
  conv => rhs; rw [← List.map_id l]
  exact List.map_congr_left (fun x _ => bs_of x)
theorem rises_of_built {l : List ByteArray} (h : builtB l = l) : l.Pairwise (fun a b => a.data.toList < b.data.toList) := by
  have h2 := built_rises (txts l)
  have e : txts l = Txt.built (txts l) := by
    conv => lhs; rw [← h]
    unfold builtB
    rw [txts_strs]
  rw [← e] at h2
  unfold txts at h2
  rwa [List.pairwise_map] at h2
theorem putL_built {l : List ByteArray} (h : builtB l = l) (x : ByteArray) : putL l x = builtB (l ++ [x]) := by
  rw [← built_of_rises (putL_rises l x (rises_of_built h))]
  exact built_ext (fun y => by rw [putL_mem]; simp)
theorem putL_cons (t : ByteArray) (r : List ByteArray) (x : ByteArray) : putL (t :: r) x = if t.data.toList = x.data.toList then t :: r else if x.data.toList < t.data.toList then x :: t :: r else t :: putL r x := rfl
theorem put_true (l : List ByteArray) (x : ByteArray) (hl : l.length ≤ 1000) : ∀ (n i : Nat), i + n = l.length → ∀ (out : List ByteArray) (k : Nat), out.length ≤ i + 1 → gristmillref06_put.l0 (k + n + 1) l x out true (i : Int) = some (out ++ l.drop i) := by
  intro n
  induction n with
  | zero =>
    intro i hi out k ho
    rw [gristmillref06_put.l0, if_neg (by omega), if_pos rfl, List.drop_of_length_le (by omega), List.append_nil]
  | succ n ih =>
    intro i hi out k ho
    have hil : i < l.length := by omega
    have e : wrap64 ((i : Int) + 1) = ((i + 1 : Nat) : Int) := by unfold wrap64; omega
    have hr : rdOf ByteArray.empty l (i : Int) = l[i] := by unfold rdOf; simp [hil]
    have hnext := ih (i + 1) (by omega) (out ++ [l[i]]) k (by simp; omega)
    have hd : out ++ [l[i]] ++ l.drop (i + 1) = out ++ l.drop i := by rw [List.append_assoc, List.drop_eq_getElem_cons hil]; rfl
    rw [hd] at hnext
    rw [show k + (n + 1) + 1 = (k + n + 1) + 1 by omega, gristmillref06_put.l0, if_pos (by omega), if_pos (by omega), hr, e, hnext]
    have ho2 : out.length < 8796093022208 := by omega
    simp only [if_pos ho2, if_true, ite_self]
theorem put_loop (l : List ByteArray) (x : ByteArray) (hl : l.length ≤ 1000) : ∀ (n i : Nat), i + n = l.length → ∀ (out : List ByteArray) (k : Nat), out.length ≤ i → gristmillref06_put.l0 (k + n + 1) l x out false (i : Int) = some (out ++ putL (l.drop i) x) := by
  intro n
  induction n with
  | zero =>
    intro i hi out k ho
    rw [gristmillref06_put.l0, if_neg (by omega), if_neg (by simp), if_pos (by omega), List.drop_of_length_le (by omega)]
    rfl
  | succ n ih =>
    intro i hi out k ho
    have hil : i < l.length := by omega
    have e : wrap64 ((i : Int) + 1) = ((i + 1 : Nat) : Int) := by unfold wrap64; omega
    have hr : rdOf ByteArray.empty l (i : Int) = l[i] := by unfold rdOf; simp [hil]
    have ho2 : out.length < 8796093022208 := by omega
    have hy : (out ++ [x]).length < 8796093022208 := by simp; omega
    have n1 := put_true l x hl n (i + 1) (by omega) (out ++ [l[i]]) k (by simp; omega)
    have n2 := put_true l x hl n (i + 1) (by omega) (out ++ [x] ++ [l[i]]) k (by simp; omega)
    have n3 := ih (i + 1) (by omega) (out ++ [l[i]]) k (by simp; omega)
    rw [show k + (n + 1) + 1 = (k + n + 1) + 1 by omega, gristmillref06_put.l0, if_pos (by omega), if_pos (by omega), hr, e, List.drop_eq_getElem_cons hil]
    rw [putL_cons]
    simp only [if_pos ho2, Option.bind_some, if_pos hy, n1, n2, n3, less_is]
    by_cases h1 : l[i].data.toList = x.data.toList
    · have h1' : l[i].toList = x.toList := by rw [ByteArray.toList_eq, ByteArray.toList_eq]; exact h1
      rw [if_pos h1, if_pos h1', ite_self]; simp
    · have h1' : ¬ l[i].toList = x.toList := by rw [ByteArray.toList_eq, ByteArray.toList_eq]; exact h1
      rw [if_neg h1, if_neg h1']
      by_cases h2 : x.data.toList < l[i].data.toList
      · rw [if_pos (decide_eq_true h2), if_neg (by simp), if_pos h2]; simp
      · rw [if_neg (by simpa using h2), if_neg h2]; simp
theorem put_is (l : List ByteArray) (x : ByteArray) (hl : l.length ≤ 1000) (hb : builtB l = l) (k : Nat) (hk : 1001 ≤ k) : gristmillref06_put.f k l x = some (builtB (l ++ [x])) := by
  have := put_loop l x hl l.length 0 (by omega) [] (k - l.length - 1) (Nat.le_refl _)
  rw [show k - l.length - 1 + l.length + 1 = k by omega] at this
  unfold gristmillref06_put.f
  rw [← putL_built hb]
  exact this
end Go.Proofs.Ytmjhgeinhhhodaa.Ext
end

section
namespace Go.Proofs.Ytmjhgeinhhhodaa.Ext
set_option linter.unusedVariables false
set_option linter.unusedSimpArgs false
open Go.RowKit Go.Proofs.YtmjhgeinhhhodaaW.PrintWords Go.Proofs.Ytmjhgeinhhhodaa.P Go.Proofs.Ytmjhgeinhhhodaa.Txt
theorem wrap64_congr {a b : Int} (h : a % 18446744073709551616 = b % 18446744073709551616) : wrap64 a = wrap64 b := by unfold wrap64; omega
theorem many_sum (x n : Int) (h0 : 0 ≤ n) (h1 : n < 1125899906842624) : wrap64 (x * wrap64 n) = manyV 2 x n := by
  have e : wrap64 n = n := by unfold wrap64; omega
  rw [e]
  unfold manyV
  rw [if_pos rfl]
  refine wrap64_congr ?_
  show x * n % 18446744073709551616 = (x % 18446744073709551616 * n % 18446744073709551616) % 18446744073709551616
  rw [Int.emod_emod_of_dvd _ (Int.dvd_refl _), Int.mul_emod, Int.mul_emod (x % 18446744073709551616) n, Int.emod_emod_of_dvd _ (Int.dvd_refl _)]
theorem many_wrap (x n : Int) : wrap64 (0 + manyV 2 x n) = manyV 2 x n := by
  unfold manyV
  rw [if_pos rfl]
  unfold wrap64; omega
theorem text_at (l : List ByteArray) (c1 : Int) (h0 : 0 ≤ c1) (h : c1 < (l.length : Int)) : rdOf ByteArray.empty l c1 = l.getD c1.toNat ⟨#[]⟩ := by
  have : c1.toNat < l.length := by omega
  unfold rdOf
  simp [this]
theorem ref_step {c c1 b : Int} (hc : 1 ≤ c ∧ c ≤ 5) (h1 : 0 ≤ c1 ∧ c1 < 2) (l : List S44) (hf : FitL l) (hl : l.length ≤ 1000) (j k : Nat) (hk : 1001 ≤ k) (hj : j < l.length) (p q : Pt) (hp : Fit c b p) (hb : b + 1125899906842624 < 4611686018427387904) (ht : p.t.length ≤ 1000) (hq : q = mg c p (unit c c1 l[j])) :
    gristmillref06_Of.l0 (k + 1) l (decide (p.n = 0)) (j : Int) c c1 p.n p.v p.t = gristmillref06_Of.l0 k l (decide (q.n = 0)) ((j + 1 : Nat) : Int) c c1 q.n q.v q.t := by
  have e : wrap64 ((j : Int) + 1) = ((j + 1 : Nat) : Int) := by unfold wrap64; omega
  have hi : (j : Int) < (l.length : Int) := Int.ofNat_lt.2 hj
  have hm : FitM l[j] := hf _ (List.getElem_mem hj)
  have hu := unit_fit hc h1 hm
  rw [gristmillref06_Of.l0, if_pos hi, if_pos (Int.natCast_nonneg j), rd44 l j hj, e]
  generalize l[j] = m at hm hu hq ⊢
  have hn := mg_n hp hu hb
  by_cases hz : m.f1 = 0
  · have hu0 : unit c c1 m = Pt.z := by unfold unit; rw [if_pos hz]
    rw [hu0, mg_zero hp] at hq
    rw [if_pos hz, hq]
  have hun : (unit c c1 m).n = m.f1 := by unfold unit; rw [if_neg hz]; split <;> (try rfl); split <;> rfl
  have h2 := hm.n0; have h3 := hm.n1; have h4 := hp.lo; have h5 := hp.hi
  have hd : c1 < (m.f0.f1.length : Int) := by have := hm.d; omega
  have he : c1 < (m.f0.f2.length : Int) := by have := hm.e; omega
  rw [hun, ← hq] at hn
  have hfl : decide (q.n = 0) = false := decide_eq_false (by omega)
  have hqn : IntKind.u64.wrap (p.n + m.f1) = q.n := by rw [hn]; exact u64_small (by omega) (by omega)
  rw [hfl, if_neg hz, hqn]
  have hut : c ≠ 5 → (unit c c1 m).t = [] := hu.tx
  have hqt : c ≠ 5 → q.t = p.t := by
    intro h
    rw [hp.tx h]
    have := mg_fit hp hu hb (by omega) (by omega)
    rw [hq]
    exact this.tx h
  by_cases hpz : p.n = 0
  · rw [decide_eq_true hpz]
    have hv0 := hp.zv hpz
    have ht0 := hp.zt hpz
    have hqv : q.v = (unit c c1 m).v := by rw [hq]; unfold mg; rw [if_pos hpz, if_neg (by rw [hun]; exact hz)]
    have hqt5 : q.t = builtB (unit c c1 m).t := by rw [hq]; unfold mg; rw [if_pos hpz, if_neg (by rw [hun]; exact hz)]
    by_cases c2 : c = 2
    · have hw : (unit c c1 m).v = manyV 2 (rd m.f0.f2 c1) m.f1 := by unfold unit; rw [if_neg hz, if_neg (by omega), if_neg (by omega), c2]
      rw [if_pos c2, if_pos h1.1, if_pos he, hqt (by omega), hqv, hw, hv0, many_sum _ _ h2 h3, many_wrap]
    rw [if_neg c2]
    by_cases c3 : c = 3
    · have hw : (unit c c1 m).v = rd m.f0.f2 c1 := by unfold unit; rw [if_neg hz, if_neg (by omega), if_neg (by omega), c3]; rfl
      rw [if_pos c3, if_pos rfl, if_pos h1.1, if_pos he, hqt (by omega), hqv, hw]
    rw [if_neg c3]
    by_cases c4 : c = 4
    · have hw : (unit c c1 m).v = rd m.f0.f2 c1 := by unfold unit; rw [if_neg hz, if_neg (by omega), if_neg (by omega), c4]; rfl
      rw [if_pos c4, if_pos rfl, if_pos h1.1, if_pos he, hqt (by omega), hqv, hw]
    rw [if_neg c4]
    by_cases c5 : c = 5
    · have hw : unit c c1 m = ⟨m.f1, 0, [m.f0.f1.getD c1.toNat ⟨#[]⟩]⟩ := by unfold unit; rw [if_neg hz, if_neg (by omega), if_pos c5]
      rw [if_pos c5, if_pos h1.1, if_pos hd, ht0, put_is [] _ (by simp) builtB_nil k hk, text_at _ _ h1.1 hd, hqv, hqt5, hw, hv0]
      rfl
    · have hw : (unit c c1 m).v = 0 := by unfold unit; rw [if_neg hz, if_pos (by omega)]
      rw [if_neg c5, hqt c5, hqv, hw, hv0]
  · rw [decide_eq_false hpz]
    have hqv : q.v = mergeV c p.v (unit c c1 m).v := by rw [hq]; unfold mg; rw [if_neg hpz, if_neg (by rw [hun]; exact hz)]
    have hqt5 : q.t = builtB (p.t ++ (unit c c1 m).t) := by rw [hq]; unfold mg; rw [if_neg hpz, if_neg (by rw [hun]; exact hz)]
    by_cases c2 : c = 2
    · have hw : (unit c c1 m).v = manyV 2 (rd m.f0.f2 c1) m.f1 := by unfold unit; rw [if_neg hz, if_neg (by omega), if_neg (by omega), c2]
      have hmv : mergeV c p.v (unit c c1 m).v = wrap64 (p.v + (unit c c1 m).v) := by unfold mergeV; rw [if_pos c2]
      rw [if_pos c2, if_pos h1.1, if_pos he, hqt (by omega), hqv, hmv, hw, many_sum _ _ h2 h3]
    rw [if_neg c2]
    by_cases c3 : c = 3
    · have hw : (unit c c1 m).v = rd m.f0.f2 c1 := by unfold unit; rw [if_neg hz, if_neg (by omega), if_neg (by omega), c3]; rfl
      have hmv : mergeV c p.v (unit c c1 m).v = min p.v (unit c c1 m).v := by unfold mergeV; rw [if_neg c2, if_pos c3]
      rw [if_pos c3, if_neg (by simp), if_pos h1.1, if_pos he, hqt (by omega), hqv, hmv, hw]
      by_cases hlt : rd m.f0.f2 c1 < p.v
      · rw [if_pos hlt, show min p.v (rd m.f0.f2 c1) = rd m.f0.f2 c1 by omega]
      · rw [if_neg hlt, show min p.v (rd m.f0.f2 c1) = p.v by omega]
    rw [if_neg c3]
    by_cases c4 : c = 4
    · have hw : (unit c c1 m).v = rd m.f0.f2 c1 := by unfold unit; rw [if_neg hz, if_neg (by omega), if_neg (by omega), c4]; rfl
      have hmv : mergeV c p.v (unit c c1 m).v = max p.v (unit c c1 m).v := by unfold mergeV; rw [if_neg c2, if_neg c3, if_pos c4]
      rw [if_pos c4, if_neg (by simp), if_pos h1.1, if_pos he, hqt (by omega), hqv, hmv, hw]
      by_cases hlt : rd m.f0.f2 c1 > p.v
      · rw [if_pos hlt, show max p.v (rd m.f0.f2 c1) = rd m.f0.f2 c1 by omega]
      · rw [if_neg hlt, show max p.v (rd m.f0.f2 c1) = p.v by omega]
    rw [if_neg c4]
    have hmv : mergeV c p.v (unit c c1 m).v = p.v := by unfold mergeV; rw [if_neg c2, if_neg c3, if_neg c4]
    by_cases c5 : c = 5
    · have hw : (unit c c1 m).t = [m.f0.f1.getD c1.toNat ⟨#[]⟩] := by unfold unit; rw [if_neg hz, if_neg (by omega), if_pos c5]
      rw [if_pos c5, if_pos h1.1, if_pos hd, put_is p.t _ ht hp.bt k hk, text_at _ _ h1.1 hd, hqv, hmv, hqt5, hw]
      rfl
    · rw [if_neg c5, hqt c5, hqv, hmv]
theorem ref_end {c c1 : Int} (l : List S44) (k : Nat) (f : Bool) (p : Pt) : gristmillref06_Of.l0 (k + 1) l f ((l.length : Nat) : Int) c c1 p.n p.v p.t = some (p.n, p.v, p.t) := by
  rw [gristmillref06_Of.l0, if_neg (Int.lt_irrefl _)]
theorem ref_loop {c c1 : Int} (hc : 1 ≤ c ∧ c ≤ 5) (h1 : 0 ≤ c1 ∧ c1 < 2) (l : List S44) (hf : FitL l) (hl : l.length ≤ 1000) : ∀ (n j : Nat), j + n = l.length → ∀ (k : Nat) (p : Pt), p = sp c c1 (l.take j) →
    gristmillref06_Of.l0 (k + 1001 + n + 1) l (decide (p.n = 0)) (j : Int) c c1 p.n p.v p.t = some ((sp c c1 l).n, (sp c c1 l).v, (sp c c1 l).t) := by
  intro n
  induction n with
  | zero =>
    intro j hj k p hp
    have e : l.take j = l := List.take_of_length_le (by omega)
    rw [e] at hp
    have hj' : j = l.length := by omega
    subst hj'
    rw [← hp]
    exact ref_end l (k + 1001) _ p
  | succ n ih =>
    intro j hj k p hp
    have hjl : j < l.length := by omega
    have hlt : (l.take j).length ≤ 999 := by rw [List.length_take]; omega
    have ht : p.t.length ≤ 1000 := by rw [hp]; exact Nat.le_trans (sp_t_len hc h1 (l.take j) (hf.take j) (by omega)) (by omega)
    have hfp := sp_fit hc h1 (l.take j) (hf.take j) (by omega)
    rw [← hp] at hfp
    have hs := ref_step hc h1 l hf hl j (k + 1001 + n + 1) (by omega) hjl p _ hfp (by omega) ht rfl
    rw [show k + 1001 + (n + 1) + 1 = (k + 1001 + n + 1) + 1 by omega, hs]
    exact ih (j + 1) (by omega) k _ (by rw [take_snoc l j hjl, sp_snoc, hp])
theorem ref_is {c c1 : Int} (hc : 1 ≤ c ∧ c ≤ 5) (h1 : 0 ≤ c1 ∧ c1 < 2) (l : List S44) (hf : FitL l) (hl : l.length ≤ 1000) (k : Nat) (hk : 2002 ≤ k) : gristmillref06_Of.f k c c1 l = some ((sp c c1 l).n, (sp c c1 l).v, (sp c c1 l).t) := by
  have := ref_loop hc h1 l hf hl l.length 0 (by omega) (k - l.length - 1002) Pt.z rfl
  rw [show k - l.length - 1002 + 1001 + l.length + 1 = k by omega] at this
  unfold gristmillref06_Of.f
  exact this
end Go.Proofs.Ytmjhgeinhhhodaa.Ext
end

section
namespace Go.Proofs.Ytmjhgeinhhhodaa.Ext
set_option linter.unusedVariables false
set_option linter.unusedSimpArgs false
open Go.RowKit Go.Proofs.YtmjhgeinhhhodaaW.PrintWords
open Go.ChangeShapes Go.WideShapes Go.ChangeAt Go.Deep
def Opens (P : Program) {α : Type} (d : Kd α) (t : TypeId) (Q : α → Prop) : Prop :=
  ∀ (H : Type) (enc : TypeId × Value → H) (W : World) (base : Nat) (held : Bool) (fuel : Nat) (cs : List Value) (x : DataW H × List MemPlace),
    DataW.trod enc P W base (fun _ => true) held fuel t cs = some x → (∀ n ∈ x.1.weights P t, n ≤ reachBytes) → ∃ v, d.K W v cs ∧ Q v
def OpensF (P : Program) {α : Type} (d : Kd α) (o : Nat) (fs : List Field) (Q : α → Prop) : Prop :=
  ∀ (H : Type) (enc : TypeId × Value → H) (W : World) (base : Nat) (held : Bool) (n : Nat) (cs : List Value) (xs : List (DataW H × List MemPlace)),
    cs.length = o + d.sz → xs.length = fs.length →
    (∀ (i : Nat) (f : Field), fs[i]? = some f → DataW.trod enc P W base (fun _ => true) held n f.type ((cs.drop f.offset).take (P.cellsOf f.type)) = xs[i]?) →
    (∀ n ∈ DataW.weightsEach P (fs.map (·.type)) (xs.map (·.1)), n ≤ reachBytes) → ∃ v, d.K W v (cs.drop o) ∧ Q v
theorem opens_int {P : Program} {t : TypeId} {k : IntKind} (ht : P.underlying t = some (.int k)) : Opens P (Kd.int k) t (fun n => (Lit.int k n).wf = true) := by
  intro H enc W base held fuel cs x h _
  obtain ⟨n, rfl, _, hw⟩ := DataW.trod_int ht h
  exact ⟨n, rfl, hw⟩
theorem opens_string {P : Program} {t : TypeId} (ht : P.underlying t = some .string) : Opens P Kd.string t (fun s => s.size ≤ reachBytes) := by
  intro H enc W base held fuel cs x h hw
  obtain ⟨s, rfl, rfl, _⟩ := DataW.trod_string ht h
  refine ⟨s, rfl, ?_⟩
  have := hw s.data.toList.length (by simp [DataW.weights])
  simpa using this
theorem weights_all {H : Type} {P : Program} {e : TypeId} {d : DataW H} : ∀ {ds : List (DataW H)}, d ∈ ds → ∀ n ∈ d.weights P e, n ∈ DataW.weightsAll P e ds
  | [], h, _, _ => by cases h
  | d0 :: ds, h, n, hn => by
    simp only [DataW.weightsAll, List.mem_append]
    rcases List.mem_cons.1 h with rfl | h
    · exact .inl hn
    · exact .inr (weights_all h n hn)
theorem opens_slice {P : Program} {α : Type} {d : Kd α} {t e : TypeId} {ek : Nat} {Q : α → Prop} (ht : P.underlying t = some (.slice e)) (hd : Opens P d e Q) (hc : P.cellsOf e = d.sz) :
    Opens P (Kd.slice ek d) t (fun l => (∀ x ∈ l, Q x) ∧ l.length * P.bytesOf e ≤ reachBytes) := by
  intro H enc W base held fuel cs x h hw
  rcases open_slice ht h with ⟨rfl, _⟩ | ⟨a, len, cap, m, n, D, Pl, rfl, hb, hl, hm, hmm, rfl, hx⟩
  · exact ⟨[], ⟨none, 0, rfl, Nat.le_refl _, Kd.C_nil _ _⟩, by simp, by simp⟩
  have hml : len ≤ m := by rw [hmm]; simpa using hl
  have hat : ∀ i, i < len → ∃ v cs', d.K W v cs' ∧ Q v ∧ W.cells? base (a.add (i * P.cellsOf e)) (P.cellsOf e) = some cs' := by
    intro i hi
    obtain ⟨cs', h1, h2⟩ := hx i (Nat.lt_of_lt_of_le hi hml)
    obtain ⟨v, hv, hq⟩ := hd H enc W base held n cs' _ h2 (fun n hn => hw n (by
      simp only [DataW.weights, ht, List.mem_cons, List.mem_append]
      exact .inr (.inl (weights_all (List.mem_map.2 ⟨i, by simpa using hi, rfl⟩) n hn))))
    exact ⟨v, cs', hv, hq, h1⟩
  have hl2 : ∃ l : List α, l.length = len ∧ ∀ i v, l[i]? = some v → ∃ cs', d.K W v cs' ∧ Q v ∧ W.cells? base (a.add (i * P.cellsOf e)) (P.cellsOf e) = some cs' := by
    clear hw hx hmm hml hm hl h
    induction len with
    | zero => exact ⟨[], rfl, fun i v h => by simp at h⟩
    | succ k ih =>
      obtain ⟨l, hl, hr⟩ := ih (fun i hi => hat i (by omega))
      obtain ⟨v, cs', h1, h2, h3⟩ := hat k (by omega)
      refine ⟨l ++ [v], by simp [hl], fun i u hu => ?_⟩
      by_cases hi : i < l.length
      · rw [List.getElem?_append_left hi] at hu
        exact hr i u hu
      · rw [List.getElem?_append_right (by omega)] at hu
        have hi0 : i - l.length = 0 := by
          rcases hz : i - l.length with _ | q
          · rfl
          · rw [hz] at hu; simp at hu
        rw [hi0] at hu
        simp only [List.getElem?_cons_zero, Option.some.injEq] at hu
        subst hu
        have : i = k := by omega
        subst this
        exact ⟨cs', h1, h2, h3⟩
  obtain ⟨l, rfl, hr⟩ := hl2
  refine ⟨l, ⟨some a, cap, rfl, hl, rfl, Nat.le_trans hl (by simpa [maxLen] using hm), fun _ => ⟨a, rfl, fun j p hj => ?_⟩⟩, ?_, ?_⟩
  · obtain ⟨cs', h1, _, h3⟩ := hr j p hj
    obtain ⟨_, hlen, hcell⟩ := World.cells?_some h3
    refine ⟨cs', d.K_len h1, h1, fun i u hu => ?_⟩
    have hi : i < P.cellsOf e := by have := (List.getElem?_eq_some_iff.1 hu).1; omega
    have := hcell i hi
    rw [Go.Deep.add_add, hu, hc] at this
    exact this
  · intro y hy
    obtain ⟨i, hi⟩ := List.mem_iff_getElem?.1 hy
    obtain ⟨_, _, h2, _⟩ := hr i y hi
    exact h2
  · have := hw (((List.range l.length).map D).length + ((List.range (m - l.length)).map fun j => D (l.length + j)).length |> (· * P.bytesOf e)) (by
      simp [DataW.weights, ht])
    simp only [List.length_map, List.length_range] at this
    exact Nat.le_trans (Nat.mul_le_mul_right _ (Nat.le_add_right _ _)) this
theorem opensF_one {P : Program} {α : Type} {d : Kd α} {o : Nat} {f : Field} {Q : α → Prop} (hd : Opens P d f.type Q) (ho : f.offset = o) (hc : P.cellsOf f.type = d.sz) : OpensF P d o [f] Q := by
  intro H enc W base held n cs xs hl hx ht hw
  match xs, hx with
  | [x0], _ =>
    have h0 := ht 0 f rfl
    rw [ho, hc, List.take_of_length_le (by rw [List.length_drop]; omega)] at h0
    exact hd H enc W base held n _ x0 h0 (fun n hn => hw n (by simpa [DataW.weightsEach] using hn))
theorem opensF_cons {P : Program} {α β : Type} {d : Kd α} {d1 : Kd β} {o : Nat} {f : Field} {fs : List Field} {Q : α → Prop} {Q1 : β → Prop} (hd : Opens P d f.type Q) (ho : f.offset = o) (hc : P.cellsOf f.type = d.sz)
    (hr : OpensF P d1 (o + d.sz) fs Q1) : OpensF P (Kd.pair d d1) o (f :: fs) (fun x => Q x.1 ∧ Q1 x.2) := by
  intro H enc W base held n cs xs hl hx ht hw
  match xs, hx with
  | x0 :: xs, hx =>
    have h0 := ht 0 f rfl
    rw [ho, hc] at h0
    have hlp : cs.length = o + (d.sz + d1.sz) := hl
    obtain ⟨v, hv, hq⟩ := hd H enc W base held n _ x0 h0 (fun n hn => hw n (by
      simp only [List.map_cons, DataW.weightsEach, List.mem_append]; exact .inl hn))
    obtain ⟨v1, hv1, hq1⟩ := hr H enc W base held n cs xs (by omega) (by simpa using hx) (fun i g hg => by simpa using ht (i + 1) g (by simpa using hg)) (fun n hn => hw n (by
      simp only [List.map_cons, DataW.weightsEach, List.mem_append]; exact .inr hn))
    refine ⟨(v, v1), ⟨_, _, ?_, hv, hv1⟩, hq, hq1⟩
    rw [← List.drop_drop, List.take_append_drop]
theorem opens_struct {P : Program} {α : Type} {d : Kd α} {t : TypeId} {fs : Array Field} {Q : α → Prop} (ht : P.underlying t = some (.struct fs)) (hc : P.cellsOf t = d.sz) (hd : OpensF P d 0 fs.toList Q) : Opens P d t Q := by
  intro H enc W base held fuel cs x h hw
  obtain ⟨xs, n, _, rfl, hl, hlen, hf⟩ := DataW.trod_struct ht h
  have := hd H enc W base held n cs xs (by omega) (by simpa using hlen) (fun i f hi => hf i f (by simpa using hi)) (fun n hn => hw n (by simpa [DataW.weights, ht] using hn))
  simpa using this
theorem opens_iso {P : Program} {α β : Type} {d : Kd α} {t : TypeId} {Q : α → Prop} (f : β → α) (g : α → β) (hfg : ∀ a, f (g a) = a) (h : Opens P d t Q) : Opens P (Kd.iso d f) t (fun x => Q (f x)) := by
  intro H enc W base held fuel cs x hx hw
  obtain ⟨v, hv, hq⟩ := h H enc W base held fuel cs x hx hw
  refine ⟨g v, ?_, ?_⟩
  · show d.K W (f (g v)) cs
    rw [hfg]; exact hv
  · show Q (f (g v))
    rw [hfg]; exact hq
theorem opens_mono {P : Program} {α : Type} {d : Kd α} {t : TypeId} {Q Q' : α → Prop} (h : Opens P d t Q) (hq : ∀ a, Q a → Q' a) : Opens P d t Q' := by
  intro H enc W base held fuel cs x hx hw
  obtain ⟨v, hv, h1⟩ := h H enc W base held fuel cs x hx hw
  exact ⟨v, hv, hq v h1⟩
theorem opened {P : Program} {α : Type} {d : Kd α} {t : TypeId} {Q : α → Prop} (h : Opens P d t Q) {H : Type} {enc : TypeId × Value → H} {W : World} {base : Nat} {held : Bool} {v : Value} {x : DataW H} {p : List MemPlace}
    (ht : DataW.Trod enc P W base (fun _ => true) held t v x p) {ts : List TypeId} {ds : List (DataW H)} (hsz : (DataW.weightsEach P ts ds).all (· ≤ reachBytes) = true) (j : Nat) (hj : ts[j]? = some t) (hd : ds[j]? = some x) :
    ∃ a, d.K W a v.cells.toList ∧ Q a := by
  obtain ⟨fuel, hf⟩ := ht
  refine h H enc W base held fuel _ _ hf (fun n hn => ?_)
  have := List.all_eq_true.1 hsz n (DataW.weights_mem_each hj hd n hn)
  simpa using this
theorem open_row {P : Program} {α : Type} {d : Kd α} {t e : TypeId} {Q : α → Prop} (O : Opens P d e Q) (hs : P.underlying t = some (.slice e)) (hc : P.cellsOf e = d.sz) {H : Type} {enc : TypeId × Value → H} {W : World} {base b0 : Nat} {held : Bool} {r : Reach} {v : Value}
    {x : DataW H} {p : List MemPlace} (hv : Value.okWide P W r b0 t v) (ht : DataW.Trod enc P W base (fun _ => true) held t v x p) {ts : List TypeId} {ds : List (DataW H)} (hsz : (DataW.weightsEach P ts ds).all (· ≤ reachBytes) = true)
    (j : Nat) (hj : ts[j]? = some t) (hd : ds[j]? = some x) : ∃ A l c, v = .slice A l.length c ∧ l.length ≤ c ∧ d.C W A l.length l ∧ (∀ y ∈ l, Q y) ∧ l.length * P.bytesOf e ≤ reachBytes := by
  obtain ⟨l, hK, hQ, hb⟩ := opened (opens_slice (ek := 0) hs O hc) ht hsz j hj hd
  obtain ⟨A, len, cap, rfl⟩ := okWide_slice hs hv
  obtain ⟨A', c, hcs, hl, hC⟩ := hK
  have hcs' : [Value.slice A len cap] = [Value.slice A' l.length c] := hcs
  injection hcs' with h1 _
  injection h1 with h2 h3 h4
  subst h2; subst h3; subst h4
  exact ⟨A, l, cap, rfl, hl, hC, hQ, hb⟩
end Go.Proofs.Ytmjhgeinhhhodaa.Ext
end

section
namespace Go.Proofs.Ytmjhgeinhhhodaa.Ext
set_option linter.unusedVariables false
open Go.RowKit Go.Proofs.YtmjhgeinhhhodaaW.PrintWords Go.Proofs.Ytmjhgeinhhhodaa.P
theorem u64_pos {n : Int} (h : (Lit.int .u64 n).wf = true) : 0 ≤ n := by
  simp only [Lit.wf, Bool.and_eq_true, decide_eq_true_eq] at h
  exact h.1
theorem opens_fact : Opens Try.prog k42 42 (fun _ => True) := by
  refine opens_mono (opens_iso (fun x : S42 => (x.f0, x.f1, x.f2)) (fun p => ⟨p.1, p.2.1, p.2.2⟩) (fun _ => rfl) (Q := fun x => (Lit.int .i64 x.1).wf = true ∧ ((∀ s ∈ x.2.1, s.size ≤ reachBytes) ∧ x.2.1.length * Try.prog.bytesOf 9 ≤ reachBytes) ∧ ((∀ s ∈ x.2.2, (Lit.int .i64 s).wf = true) ∧ x.2.2.length * Try.prog.bytesOf 2 ≤ reachBytes)) ?_) (fun _ _ => trivial)
  refine Ext.opens_struct Try.underlying42 (by kernel_rfl) ?_
  show OpensF _ (Kd.pair _ (Kd.pair _ _)) 0 [_, _, _] _
  exact (opensF_cons (opens_int (k := .i64) (by kernel_rfl)) (by rfl) (by kernel_rfl)
    (opensF_cons (opens_slice (by kernel_rfl) (opens_string (t := 9) (by kernel_rfl)) (by kernel_rfl)) (by rfl) (by kernel_rfl)
      (opensF_one (opens_slice (by kernel_rfl) (opens_int (t := 2) (k := .i64) (by kernel_rfl)) (by kernel_rfl)) (by rfl) (by kernel_rfl))))
theorem opens_many : Opens Try.prog k44 44 (fun x => 0 ≤ x.f1) := by
  refine opens_mono (opens_iso (fun x : S44 => (x.f0, x.f1)) (fun p => ⟨p.1, p.2⟩) (fun _ => rfl) (Q := fun x => True ∧ (Lit.int .u64 x.2).wf = true) ?_) (fun x h => u64_pos h.2)
  refine Ext.opens_struct Try.underlying44 (by kernel_rfl) ?_
  show OpensF _ (Kd.pair _ _) 0 [_, _] _
  refine opensF_cons (Q := fun _ => True) (Q1 := fun n => (Lit.int .u64 n).wf = true) ?_ ?_ ?_ ?_
  · exact opens_fact
  · rfl
  · kernel_rfl
  · refine opensF_one ?_ ?_ ?_
    · exact opens_int (k := .u64) (by kernel_rfl)
    · rfl
    · kernel_rfl
end Go.Proofs.Ytmjhgeinhhhodaa.Ext
end

section
namespace Go.Proofs.Ytmjhgeinhhhodaa.aggOwn
set_option linter.unusedVariables false
set_option linter.unusedSimpArgs false
open Go.RowKit Go.Proofs.YtmjhgeinhhhodaaW.PrintWords Go.Proofs.Ytmjhgeinhhhodaa.Lib
open Go.ChangeShapes Go.WideShapes Go.ChangeAt
open Go.ChangeMaps (open_string shut_string)
theorem own : ownKnob Try.prog.godebug = none := by kernel_rfl
theorem laidOut : laidOutB Try.prog = true := by kernel_rfl
open Go.Proofs.Ytmjhgeinhhhodaa.P Go.Proofs.Ytmjhgeinhhhodaa.Ext Go.Proofs.Ytmjhgeinhhhodaa.Txt
theorem own_l1 (c0 c1 : Int) (r : List S44) (p : Pt) (q : Option (Int × Int × List ByteArray)) (a b : Int) (K : Nat) (hq : ∀ k, K ≤ k → (gristmillref06_Of.f k c0 c1 r).bind (fun x => (gristmillref06_Same.f k p.n p.v p.t x.1 x.2.1 x.2.2).bind fun t => some t) = some true) :
    ∀ (n i : Nat) (t : List ByteArray), i + n = t.length → t.length ≤ 100000 → ∀ k, gristmilllaw06_AggOwn.l1 (K + k + n + 1) r (i : Int) c0 c1 p.n p.v p.t a b t = some true := by
  intro n
  induction n with
  | zero =>
    intro i t hi ht k
    rw [gristmilllaw06_AggOwn.l1, if_neg (by omega)]
    exact hq _ (by omega)
  | succ n ih =>
    intro i t hi ht k
    have e : wrap64 ((i : Int) + 1) = ((i + 1 : Nat) : Int) := by unfold wrap64; omega
    rw [show K + k + (n + 1) + 1 = (K + k + n + 1) + 1 by omega, gristmilllaw06_AggOwn.l1, if_pos (by omega), if_pos (by omega), e]
    exact ih (i + 1) _ (by rw [List.length_set]; omega) (by rw [List.length_set]; omega) k
theorem own_l0 (c0 c1 : Int) (r : List S44) (p : Pt) (a b a2 b2 : Int) (K : Nat) (u : List ByteArray) (hu : u.length ≤ 100000) (hq : ∀ k, K ≤ k → (gristmillref06_Of.f k c0 c1 r).bind (fun x => (gristmillref06_Same.f k p.n p.v p.t x.1 x.2.1 x.2.2).bind fun t => some t) = some true) :
    ∀ (n i : Nat) (t : List ByteArray), i + n = t.length → t.length ≤ 100000 → ∀ k, gristmilllaw06_AggOwn.l0 (K + k + u.length + n + 2) r (i : Int) c0 c1 p.n p.v p.t a b t a2 b2 u = some true := by
  intro n
  induction n with
  | zero =>
    intro i t hi ht k
    rw [show K + k + u.length + 0 + 2 = (K + k + u.length + 1) + 1 by omega, gristmilllaw06_AggOwn.l0, if_neg (by omega)]
    exact own_l1 c0 c1 r p none a2 b2 K hq u.length 0 u (by omega) hu k
  | succ n ih =>
    intro i t hi ht k
    have e : wrap64 ((i : Int) + 1) = ((i + 1 : Nat) : Int) := by unfold wrap64; omega
    rw [show K + k + u.length + (n + 1) + 2 = (K + k + u.length + n + 2) + 1 by omega, gristmilllaw06_AggOwn.l0, if_pos (by omega), if_pos (by omega), e]
    exact ih (i + 1) _ (by rw [List.length_set]; omega) (by rw [List.length_set]; omega) k
theorem law_true (K0 : Nat) (hK : 6000 ≤ K0) (l : List S44) (hl : ∀ m ∈ l, 0 ≤ m.f1) : gristmilllaw06_AggOwn.f K0 l = some true := by
  obtain ⟨c0, c1, hc0, hc1, hr⟩ := right_is 4 0 (by decide) (by decide)
  obtain ⟨r, hf, hlen, e⟩ := hr l hl
  have hst := sp_t_len hc0 hc1 r hf (by omega)
  have hsp := sp_fit hc0 hc1 r hf (by omega)
  unfold gristmilllaw06_AggOwn.f
  rw [show gristmilllaw06_awake.f = some true from rfl, e K0 (by omega)]
  simp only [Option.bind_some, if_true]
  rw [of_is hc0 hc1 r hf (by omega) K0 (by omega)]
  unfold agg_Start.f
  simp only [Option.bind_some]
  have hm := merge_is (c1 := c1) hc0 hsp (fit_z c0 0 (Int.le_refl _)) (by show _ + 0 < _; omega)
  rw [mg_zero hsp] at hm
  have hm' : agg_Merge.f c0 c1 (sp c0 c1 r).n (sp c0 c1 r).v (sp c0 c1 r).t 0 0 [] = some ((sp c0 c1 r).n, (sp c0 c1 r).v, (sp c0 c1 r).t) := hm
  have ha : agg_Add.f c0 c1 (sp c0 c1 r).n (sp c0 c1 r).v (sp c0 c1 r).t 0 [(⟨#[97]⟩ : ByteArray), (⟨#[98]⟩ : ByteArray)] [] 0 = some ((sp c0 c1 r).n, (sp c0 c1 r).v, (sp c0 c1 r).t) := by
    unfold agg_Add.f
    rw [if_neg (by omega), if_pos rfl]
    exact hm'
  rw [hm', ha]
  simp only [Option.bind_some]
  generalize hp : sp c0 c1 r = p at hst ⊢
  have := own_l0 c0 c1 r p p.n p.v p.n p.v 2100 p.t (by omega) (fun k hk => by
    rw [ref_is hc0 hc1 r hf (by omega) k (by omega), hp]
    simp only [Option.bind_some]
    rw [same_is _ _ _ (by omega) k (by omega)]
    rfl) p.t.length 0 p.t (by omega) (by omega) (K0 - 2100 - p.t.length - p.t.length - 2)
  rw [show 2100 + (K0 - 2100 - p.t.length - p.t.length - 2) + p.t.length + p.t.length + 2 = K0 by omega] at this
  exact this
set_option maxRecDepth 100000 in
theorem lifted (os : Os) (started : os.Started) (H : Type) (enc : TypeId × Value → H) :
    ReturnsInHanded {} Try.checked os 6 .any (Rows.aggOwnSpec.pre6 enc Try.prog Try.f6 Rows.aggOwnRow.domain false) (Rows.aggOwnSpec.post enc Try.prog Try.f6 false true false false) := by
  refine returnsInHanded_of_change_sized (C := Try.checked) own started (by kernel_rfl) Try.func6
    (ChangeSpec.witness6 (enc := enc) (C := Try.checked) false ⟨#[], #[.slice none 0 0], []⟩ 8 (by kernel_rfl) (by kernel_rfl) (by kernel_rfl) (by kernel_rfl)) ?_
  intro W base args ds gs before hval0 hW hcnd hsz _
  have hval : ∀ (j : Nat) t v, Try.f6.params[j]? = some t → args[j]? = some v → Value.okWide Try.prog W .any base t v := hval0
  have hW' := hW
  obtain ⟨p, q, hA0, hV, rfl, hfz, hnd⟩ := hW
  have hA : DataW.TrodAll enc Try.prog W 0 (fun _ => true) true Try.f6.params.toList args.toList ds p := hA0
  rw [Try.params6] at hA hval
  obtain ⟨v0, vs0, d0, ds0, p0, q0, hargs, rfl, rfl, h0, r0⟩ := trodAll_cons hA
  obtain ⟨rfl, rfl, rfl⟩ := trodAll_nil r0
  obtain rfl : args = #[v0] := by cases args; simp_all
  obtain ⟨rfl, rfl⟩ := trodVars_none hV
  have k0 := h0
  have lt0 : ∀ x ∈ p0, x.block < W.heap.size := by obtain ⟨m, hm⟩ := k0; exact DataW.trod_lt m _ _ _ hm
  obtain ⟨A0, l0, c0, rfl, hl0, hC0, hQ0, hb0⟩ := open_row opens_many Try.underlying24 (by kernel_rfl) (hval 0 _ v0 rfl rfl) h0 hsz 0 rfl rfl
  clear hA0 hval0
  refine (gristmilllaw06_AggOwn.calls 6000 A0 c0 l0 true W hC0 hl0 (law_true 6000 (Nat.le_refl _) _ (fun m hm => (hQ0 m hm)))).mono fun e W' ⟨he, bel⟩ => ?_
  subst he
  exact ⟨_, rfl, _, _, _, [], _, [], hW', trodAll_mk1 (shut_bool Try.underlying4 _), (trodAll_cons_mk (Below.trod laidOut (by kernel_rfl) (of_decide_eq_true (by kernel_rfl)) k0 bel lt0) trodAll_mk0), rfl, bel.frame _, fun h => by cases h⟩
theorem proved : Rows.AggOwnSaid :=
  OpenClaim.holds_of_wide 6 Try.f6 rfl rfl rfl rfl rfl rfl rfl ⟨rfl, rfl, rfl, rfl, rfl⟩ rfl rfl rfl rfl rfl (by kernel_rfl) Try.func6 (by kernel_rfl)
    (of_decide_eq_true (by kernel_rfl)) (by unfold Func.isWrapper; first | (rw [if_pos (by decide +kernel)]; kernel_rfl) | (rw [if_neg (by decide +kernel)]; exact ⟨rfl, rfl⟩))
    (fun os started H enc _ => lifted os started H enc)
end Go.Proofs.Ytmjhgeinhhhodaa.aggOwn
end
