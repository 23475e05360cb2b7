-- Written by this repo's program wip/ext.py (over the kit's printer).
import Derived.Test.YtmjhgeinhhhodaaP0
import Derived.Test.YtmjhgeinhhhodaaShort
namespace Go.Proofs.Ytmjhgeinhhhodaa.P
open Go.RowKit Go.Proofs.YtmjhgeinhhhodaaW.PrintWords Go.Proofs.YtmjhgeinhhhodaaW.PrintLast Go.Proofs.YtmjhgeinhhhodaaW.PrintMore
attribute [local go_sem] max2_int min2_int max_two min_two max_three min_three max_four min_four   -- for this text's walks alone
set_option linter.unusedVariables false
set_option linter.unusedSimpArgs false

open Go.Proofs.Ytmjhgeinhhhodaa.Ext (q1_ q2_ q3_ bk_ bw_ sz_ ne_ bx_)
attribute [local go_sem high] Go.Proofs.Ytmjhgeinhhhodaa.Ext.gtr_str Go.Proofs.Ytmjhgeinhhhodaa.Ext.leq_str Go.Proofs.Ytmjhgeinhhhodaa.Ext.geq_str
/-! ### gristmillref06_Fine: function 35 -/
def gristmillref06_Fine.j0 : Nat → Int → Bool → Int → Int → Int → Int → Option (Bool)
 | 0, _, _, _, _, _, _ => none
 | k + 1, x6, x9, x552000, x552001, x553000, x553001 => if x9 = true then (if x553001 ≥ 0 then (some (decide (x553001 < x552001))) else (some false)) else (if x6 = 5 then (if x553001 ≥ 0 then (some (decide (x553001 < x552000))) else (some false)) else (some false))
def gristmillref06_Fine.f (k : Nat) (a0_0 : Int) (a0_1 : Int) (a1_0 : Int) (a1_1 : Int) : Option (Bool) := if a1_0 = 1 then (some true) else (if a1_0 = 2 then (gristmillref06_Fine.j0 k a1_0 (a1_0 == 2) a0_0 a0_1 a1_0 a1_1) else (if a1_0 = 3 then (gristmillref06_Fine.j0 k a1_0 (a1_0 == 3) a0_0 a0_1 a1_0 a1_1) else (gristmillref06_Fine.j0 k a1_0 (a1_0 == 4) a0_0 a0_1 a1_0 a1_1)))
theorem gristmillref06_Fine.mono_l : ∀ k, (∀ y0 y1 y2 y3 y4 y5, LeO (gristmillref06_Fine.j0 k y0 y1 y2 y3 y4 y5) (gristmillref06_Fine.j0 (k + 1) y0 y1 y2 y3 y4 y5))
 | 0 => fun _ _ _ _ _ _ r h => by simp [gristmillref06_Fine.j0] at h
 | k + 1 => by
  have ih0 := gristmillref06_Fine.mono_l k
  ·intro y0 y1 y2 y3 y4 y5
   unfold gristmillref06_Fine.j0
   repeat' first
   | (with_reducible exact ih0 _ _ _ _ _ _)
   | (with_reducible exact LeO.refl _)
   | (with_reducible exact LeO.none _)
   | (with_reducible refine LeO.ite ?_ ?_)
   | (with_reducible refine LeO.bind ?_ (fun _ => ?_))
   | exact ih0 _ _ _ _ _ _
   | exact LeO.none _
   | refine LeO.ite ?_ ?_
   | refine LeO.bind ?_ (fun _ => ?_)
theorem gristmillref06_Fine.mono : ∀ a0 a1 a2 a3 k, LeO (gristmillref06_Fine.f k a0 a1 a2 a3) (gristmillref06_Fine.f (k + 1) a0 a1 a2 a3) := by
 intro a0 a1 a2 a3 k
 have ih0 := gristmillref06_Fine.mono_l k
 unfold gristmillref06_Fine.f
 repeat' first
   | (with_reducible exact ih0 _ _ _ _ _ _)
   | (with_reducible exact LeO.refl _)
   | (with_reducible exact LeO.none _)
   | (with_reducible refine LeO.ite ?_ ?_)
   | (with_reducible refine LeO.bind ?_ (fun _ => ?_))
   | exact ih0 _ _ _ _ _ _
   | exact LeO.none _
   | refine LeO.ite ?_ ?_
   | refine LeO.bind ?_ (fun _ => ?_)
set_option maxHeartbeats 8000000 in
set_option maxRecDepth 100000 in
theorem gristmillref06_Fine.calls (k : Nat) (a0_0 : Int) (a0_1 : Int) (a1_0 : Int) (a1_1 : Int) (r : Bool) (w : World) (h : gristmillref06_Fine.f k a0_0 a0_1 a1_0 a1_1 = some r) :
  Calls Try.prog 35 #[.agg #[.int .i64 a0_0, .int .i64 a0_1], .agg #[.int .i64 a1_0, .int .i64 a1_1]] w fun e w' => e = .returned (.bool r) ∧ Below w.heap.size w w' := by
 have hu27 := Try.underlying27
 have hu23 := Try.underlying23
 have HB := Aside0.mk (Below.refl w.heap.size w)
 have H : (if a1_0 = 1 then (some true) else (if a1_0 = 2 then (gristmillref06_Fine.j0 k a1_0 (a1_0 == 2) a0_0 a0_1 a1_0 a1_1) else (if a1_0 = 3 then (gristmillref06_Fine.j0 k a1_0 (a1_0 == 3) a0_0 a0_1 a1_0 a1_1) else (gristmillref06_Fine.j0 k a1_0 (a1_0 == 4) a0_0 a0_1 a1_0 a1_1)))) = some r := h
 clear h
 by_cases c3 : a1_0 = 1
 ·rw [if_pos c3] at H
  have c3b0 : (a1_0 == 1) = true := beq_iff_eq.mpr c3
  have c3b1 : (a1_0 != 1) = false := bne_eq_false_iff_eq.mpr c3
  clear c3
  obtain rfl := Option.some.inj H
  go_enter Try.func35, Try.ntmps35
  go_wp2_with (first | ((with_reducible refine gate_dst (N := 2) rfl ?_); refine bx_ (N := 2) (cs := #[.int .i64 a0_0, .int .i64 a0_1]) (t := 27) ?_; intro gb551 hg w4 hbox hb; have n0_ := Aside0.mk (below_step (bw_ HB.out) hb); have n1_ := Aside0.mk (hbox); have n2_ := Aside0.mk (sz_ hg (bw_ HB.out)); have n3_ := n2_; clear HB; have HB := n0_; have BK551 := n1_; have GW551 := n2_; have GE551 := n3_; clear n0_ n1_ n2_ n3_; clear hb hbox hg) | ((with_reducible refine gate_dst (N := 3) rfl ?_); refine bx_ (N := 3) (cs := #[.int .i64 a1_0, .int .i64 a1_1]) (t := 23) ?_; intro gb552 hg w5 hbox hb; have n0_ := Aside0.mk (blk_below (bk_ BK551.out) hb); have n1_ := Aside0.mk (below_step (bw_ HB.out) hb); have n2_ := Aside0.mk (hbox); have n3_ := Aside0.mk (sz_ hg (bw_ HB.out)); have n4_ := n3_; have n5_ := Aside0.mk (ne_ hg (blk_lt (bk_ BK551.out))); have n6_ := Aside0.mk n5_.out.symm; clear BK551 HB; have BK551 := n0_; have HB := n1_; have BK552 := n2_; have GW552 := n3_; have GE552 := n4_; have NB551_552 := n5_; have NB552_551 := n6_; clear n0_ n1_ n2_ n3_ n4_ n5_ n6_; clear hb hbox hg; have hnb6 := NB552_551.out; have hnc6 := NB551_552.out; have hcz7_0 : w5.cell? ⟨gb552, 0, none⟩ = some (.int .i64 a1_0) := (blk_cell BK552.out 0).trans rfl; have hcz7_1 : w5.cell? ⟨gb552, 1, none⟩ = some (.int .i64 a1_1) := (blk_cell BK552.out 1).trans rfl; have hfz7_0 := blk_frozen BK552.out 0; have hfz7_1 := blk_frozen BK552.out 1))
  go_ret
  exact ⟨by first | rfl | (simp [errW_none, errW_some] <;> rfl) | (simp [*, errW_none, errW_some] <;> rfl), by repeat (first | (with_reducible first | exact HB.out | apply below_alloc | apply pw_below_drewN | apply below_drew1 | refine below_set ?_ GE551.out | refine below_set ?_ GE552.out) | exact HB.out)⟩
 ·rw [if_neg c3] at H
  have c3b0 : (a1_0 == 1) = false := beq_eq_false_iff_ne.mpr c3
  have c3b1 : (a1_0 != 1) = true := bne_iff_ne.mpr c3
  have HC8 := Aside0.mk H
  clear H
  go_enter Try.func35, Try.ntmps35
  go_upto_if 9 with (first | ((with_reducible refine gate_dst (N := 2) rfl ?_); refine bx_ (N := 2) (cs := #[.int .i64 a0_0, .int .i64 a0_1]) (t := 27) ?_; intro gb551 hg w9 hbox hb; have n0_ := Aside0.mk (below_step (bw_ HB.out) hb); have n1_ := Aside0.mk (hbox); have n2_ := Aside0.mk (sz_ hg (bw_ HB.out)); have n3_ := n2_; clear HB; have HB := n0_; have BK551 := n1_; have GW551 := n2_; have GE551 := n3_; clear n0_ n1_ n2_ n3_; clear hb hbox hg) | ((with_reducible refine gate_dst (N := 3) rfl ?_); refine bx_ (N := 3) (cs := #[.int .i64 a1_0, .int .i64 a1_1]) (t := 23) ?_; intro gb552 hg w10 hbox hb; have n0_ := Aside0.mk (blk_below (bk_ BK551.out) hb); have n1_ := Aside0.mk (below_step (bw_ HB.out) hb); have n2_ := Aside0.mk (hbox); have n3_ := Aside0.mk (sz_ hg (bw_ HB.out)); have n4_ := n3_; have n5_ := Aside0.mk (ne_ hg (blk_lt (bk_ BK551.out))); have n6_ := Aside0.mk n5_.out.symm; clear BK551 HB; have BK551 := n0_; have HB := n1_; have BK552 := n2_; have GW552 := n3_; have GE552 := n4_; have NB551_552 := n5_; have NB552_551 := n6_; clear n0_ n1_ n2_ n3_ n4_ n5_ n6_; clear hb hbox hg; have hnb11 := NB552_551.out; have hnc11 := NB551_552.out; have hcz12_0 : w10.cell? ⟨gb552, 0, none⟩ = some (.int .i64 a1_0) := (blk_cell BK552.out 0).trans rfl; have hcz12_1 : w10.cell? ⟨gb552, 1, none⟩ = some (.int .i64 a1_1) := (blk_cell BK552.out 1).trans rfl; have hfz12_0 := blk_frozen BK552.out 0; have hfz12_1 := blk_frozen BK552.out 1))
  (try simp only [Act.put, q1_, q2_, q3_])
  go_cut [9] (fun v9 wc => ∃ (kq : Nat) (x9_7 : Bool), v9 = .bool x9_7 ∧ Aside0 (gristmillref06_Fine.j0 kq a1_0 x9_7 a0_0 a0_1 a1_0 a1_1 = some r) ∧ Aside0 (kq ≤ k) ∧ Aside0 (wc.heap[gb551]? = some (.cells #[.int .i64 a0_0, .int .i64 a0_1] 27 (0, 0))) ∧ Aside0 (wc.heap[gb552]? = some (.cells #[.int .i64 a1_0, .int .i64 a1_1] 23 (0, 0))) ∧ Aside0 (Below w.heap.size w wc))
  case first =>
   have H := HC8.out
   clear HC8
   by_cases c13 : a1_0 = 2
   ·rw [if_pos c13] at H
    have c13b0 : (a1_0 == 2) = true := beq_iff_eq.mpr c13
    have c13b1 : (a1_0 != 2) = false := bne_eq_false_iff_eq.mpr c13
    clear c13
    (first | rw [c13b0] | (simp only [i64_w, i32_w]; rw [c13b0]) | skip)
    have H' := Aside0.mk H
    clear H
    go_wp2
    go_meet
    case rel => exact ⟨_, ((a1_0 == 2)), (by first | rfl | (simp; done) | (simp [*]; done)), H', ⟨by first | omega | exact Nat.le_refl _⟩, ⟨by (with_reducible repeat (first | refine blk_drewN ?_ _ | refine blk_drew ?_ | refine blk_alloc ?_ _)); exact BK551.out⟩, ⟨by (with_reducible repeat (first | refine blk_drewN ?_ _ | refine blk_drew ?_ | refine blk_alloc ?_ _)); exact BK552.out⟩, ⟨by repeat (first | (with_reducible first | exact HB.out | apply below_alloc | apply pw_below_drewN | apply below_drew1 | refine below_set ?_ GE551.out | refine below_set ?_ GE552.out) | exact HB.out)⟩⟩
   ·rw [if_neg c13] at H
    have c13b0 : (a1_0 == 2) = false := beq_eq_false_iff_ne.mpr c13
    have c13b1 : (a1_0 != 2) = true := bne_iff_ne.mpr c13
    (first | rw [c13b0] | (simp only [i64_w, i32_w]; rw [c13b0]) | skip)
    by_cases c14 : a1_0 = 3
    ·rw [if_pos c14] at H
     have c14b0 : (a1_0 == 3) = true := beq_iff_eq.mpr c14
     have c14b1 : (a1_0 != 3) = false := bne_eq_false_iff_eq.mpr c14
     clear c14
     have H' := Aside0.mk H
     clear H
     go_wp2
     go_meet
     case rel => exact ⟨_, ((a1_0 == 3)), (by first | rfl | (simp; done) | (simp [*]; done)), H', ⟨by first | omega | exact Nat.le_refl _⟩, ⟨by (with_reducible repeat (first | refine blk_drewN ?_ _ | refine blk_drew ?_ | refine blk_alloc ?_ _)); exact BK551.out⟩, ⟨by (with_reducible repeat (first | refine blk_drewN ?_ _ | refine blk_drew ?_ | refine blk_alloc ?_ _)); exact BK552.out⟩, ⟨by repeat (first | (with_reducible first | exact HB.out | apply below_alloc | apply pw_below_drewN | apply below_drew1 | refine below_set ?_ GE551.out | refine below_set ?_ GE552.out) | exact HB.out)⟩⟩
    ·rw [if_neg c14] at H
     have c14b0 : (a1_0 == 3) = false := beq_eq_false_iff_ne.mpr c14
     have c14b1 : (a1_0 != 3) = true := bne_iff_ne.mpr c14
     have H' := Aside0.mk H
     clear H
     go_wp2
     go_meet
     case rel => exact ⟨_, ((a1_0 == 4)), (by first | rfl | (simp; done) | (simp [*]; done)), H', ⟨by first | omega | exact Nat.le_refl _⟩, ⟨by (with_reducible repeat (first | refine blk_drewN ?_ _ | refine blk_drew ?_ | refine blk_alloc ?_ _)); exact BK551.out⟩, ⟨by (with_reducible repeat (first | refine blk_drewN ?_ _ | refine blk_drew ?_ | refine blk_alloc ?_ _)); exact BK552.out⟩, ⟨by repeat (first | (with_reducible first | exact HB.out | apply below_alloc | apply pw_below_drewN | apply below_drew1 | refine below_set ?_ GE551.out | refine below_set ?_ GE552.out) | exact HB.out)⟩⟩
  case rest =>
   clear HC8
   try clear c1
   try clear p2
   try clear c3
   try clear c3b0
   try clear c3b1
   try clear c6
   try clear c11
   try clear c13
   try clear c13b0
   try clear c13b1
   try clear c14
   try clear c14b0
   try clear c14b1
   try clear hcz12_0
   try clear hcz12_1
   try clear hcz7_0
   try clear hcz7_1
   try clear hfz12_0
   try clear hfz12_1
   try clear hfz7_0
   try clear hfz7_1
   obtain ⟨kq, x9_7, rfl, HA, HJ7, BK551, BK552, HB⟩ := hcut
   cases kq with
   | zero => exact absurd HA.out (by simp [gristmillref06_Fine.j0])
   | succ kj7 =>
    have H := HA.out
    clear HA
    simp only [gristmillref06_Fine.j0] at H
    by_cases c15 : x9_7 = true
    ·subst c15
     have H1 : (if a1_1 ≥ 0 then (some (decide (a1_1 < a0_1))) else (some false)) = some r := by rw [if_pos rfl] at H; exact H
     clear H
     have H := H1
     clear H1
     by_cases c16 : a1_1 ≥ 0
     ·rw [if_pos c16] at H
      have c16b0 : decide (0 ≤ a1_1) = true := decide_eq_true c16
      clear c16
      obtain rfl := Option.some.inj H
      have hnb17 := NB552_551.out
      have hnc17 := NB551_552.out
      have hcz18_0 : wc.cell? ⟨gb552, 0, none⟩ = some (.int .i64 a1_0) := (blk_cell BK552.out 0).trans rfl
      have hcz18_1 : wc.cell? ⟨gb552, 1, none⟩ = some (.int .i64 a1_1) := (blk_cell BK552.out 1).trans rfl
      have hfz18_0 := blk_frozen BK552.out 0
      have hfz18_1 := blk_frozen BK552.out 1
      have hcz19_0 : wc.cell? ⟨gb551, 0, none⟩ = some (.int .i64 a0_0) := (blk_cell BK551.out 0).trans rfl
      have hcz19_1 : wc.cell? ⟨gb551, 1, none⟩ = some (.int .i64 a0_1) := (blk_cell BK551.out 1).trans rfl
      have hfz19_0 := blk_frozen BK551.out 0
      have hfz19_1 := blk_frozen BK551.out 1
      go_wp2
      go_ret
      exact ⟨by first | rfl | (simp [errW_none, errW_some] <;> rfl) | (simp [*, errW_none, errW_some] <;> rfl), by repeat (first | (with_reducible first | exact HB.out | apply below_alloc | apply pw_below_drewN | apply below_drew1 | refine below_set ?_ GE551.out | refine below_set ?_ GE552.out) | exact HB.out)⟩
     ·rw [if_neg c16] at H
      have c16b0 : decide (0 ≤ a1_1) = false := decide_eq_false c16
      clear c16
      obtain rfl := Option.some.inj H
      have hnb20 := NB552_551.out
      have hnc20 := NB551_552.out
      have hcz21_0 : wc.cell? ⟨gb552, 0, none⟩ = some (.int .i64 a1_0) := (blk_cell BK552.out 0).trans rfl
      have hcz21_1 : wc.cell? ⟨gb552, 1, none⟩ = some (.int .i64 a1_1) := (blk_cell BK552.out 1).trans rfl
      have hfz21_0 := blk_frozen BK552.out 0
      have hfz21_1 := blk_frozen BK552.out 1
      go_wp2
      go_ret
      exact ⟨by first | rfl | (simp [errW_none, errW_some] <;> rfl) | (simp [*, errW_none, errW_some] <;> rfl), by repeat (first | (with_reducible first | exact HB.out | apply below_alloc | apply pw_below_drewN | apply below_drew1 | refine below_set ?_ GE551.out | refine below_set ?_ GE552.out) | exact HB.out)⟩
    ·replace c15 := Bool.eq_false_iff.mpr c15
     subst c15
     have H1 : (if a1_0 = 5 then (if a1_1 ≥ 0 then (some (decide (a1_1 < a0_0))) else (some false)) else (some false)) = some r := by rw [if_neg (show ¬ (false = true) by decide)] at H; exact H
     clear H
     have H := H1
     clear H1
     by_cases c22 : a1_0 = 5
     ·rw [if_pos c22] at H
      have c22b0 : (a1_0 == 5) = true := beq_iff_eq.mpr c22
      have c22b1 : (a1_0 != 5) = false := bne_eq_false_iff_eq.mpr c22
      clear c22
      by_cases c23 : a1_1 ≥ 0
      ·rw [if_pos c23] at H
       have c23b0 : decide (0 ≤ a1_1) = true := decide_eq_true c23
       clear c23
       obtain rfl := Option.some.inj H
       have hnb24 := NB552_551.out
       have hnc24 := NB551_552.out
       have hcz25_0 : wc.cell? ⟨gb552, 0, none⟩ = some (.int .i64 a1_0) := (blk_cell BK552.out 0).trans rfl
       have hcz25_1 : wc.cell? ⟨gb552, 1, none⟩ = some (.int .i64 a1_1) := (blk_cell BK552.out 1).trans rfl
       have hfz25_0 := blk_frozen BK552.out 0
       have hfz25_1 := blk_frozen BK552.out 1
       have hcz26_0 : wc.cell? ⟨gb551, 0, none⟩ = some (.int .i64 a0_0) := (blk_cell BK551.out 0).trans rfl
       have hcz26_1 : wc.cell? ⟨gb551, 1, none⟩ = some (.int .i64 a0_1) := (blk_cell BK551.out 1).trans rfl
       have hfz26_0 := blk_frozen BK551.out 0
       have hfz26_1 := blk_frozen BK551.out 1
       go_wp2
       go_ret
       exact ⟨by first | rfl | (simp [errW_none, errW_some] <;> rfl) | (simp [*, errW_none, errW_some] <;> rfl), by repeat (first | (with_reducible first | exact HB.out | apply below_alloc | apply pw_below_drewN | apply below_drew1 | refine below_set ?_ GE551.out | refine below_set ?_ GE552.out) | exact HB.out)⟩
      ·rw [if_neg c23] at H
       have c23b0 : decide (0 ≤ a1_1) = false := decide_eq_false c23
       clear c23
       obtain rfl := Option.some.inj H
       have hnb27 := NB552_551.out
       have hnc27 := NB551_552.out
       have hcz28_0 : wc.cell? ⟨gb552, 0, none⟩ = some (.int .i64 a1_0) := (blk_cell BK552.out 0).trans rfl
       have hcz28_1 : wc.cell? ⟨gb552, 1, none⟩ = some (.int .i64 a1_1) := (blk_cell BK552.out 1).trans rfl
       have hfz28_0 := blk_frozen BK552.out 0
       have hfz28_1 := blk_frozen BK552.out 1
       go_wp2
       go_ret
       exact ⟨by first | rfl | (simp [errW_none, errW_some] <;> rfl) | (simp [*, errW_none, errW_some] <;> rfl), by repeat (first | (with_reducible first | exact HB.out | apply below_alloc | apply pw_below_drewN | apply below_drew1 | refine below_set ?_ GE551.out | refine below_set ?_ GE552.out) | exact HB.out)⟩
     ·rw [if_neg c22] at H
      have c22b0 : (a1_0 == 5) = false := beq_eq_false_iff_ne.mpr c22
      have c22b1 : (a1_0 != 5) = true := bne_iff_ne.mpr c22
      obtain rfl := Option.some.inj H
      go_wp2
      go_ret
      exact ⟨by first | rfl | (simp [errW_none, errW_some] <;> rfl) | (simp [*, errW_none, errW_some] <;> rfl), by repeat (first | (with_reducible first | exact HB.out | apply below_alloc | apply pw_below_drewN | apply below_drew1 | refine below_set ?_ GE551.out | refine below_set ?_ GE552.out) | exact HB.out)⟩

end Go.Proofs.Ytmjhgeinhhhodaa.P
