-- Written by this repo's program wip/ext.py (over the kit's printer).
import Derived.Test.YtmjhgeinhhhodaaP0
import Derived.Test.YtmjhgeinhhhodaaP21
import Derived.Test.YtmjhgeinhhhodaaShort
namespace Go.Proofs.Ytmjhgeinhhhodaa.P
open Go.RowKit Go.Proofs.YtmjhgeinhhhodaaW.PrintWords Go.Proofs.YtmjhgeinhhhodaaW.PrintLast Go.Proofs.YtmjhgeinhhhodaaW.PrintMore
attribute [local go_sem] max2_int min2_int max_two min_two max_three min_three max_four min_four   -- for this text's walks alone
set_option linter.unusedVariables false
set_option linter.unusedSimpArgs false

open Go.Proofs.Ytmjhgeinhhhodaa.Ext (q1_ q2_ q3_ bk_ bw_ sz_ ne_ bx_)
attribute [local go_sem high] Go.Proofs.Ytmjhgeinhhhodaa.Ext.gtr_str Go.Proofs.Ytmjhgeinhhhodaa.Ext.leq_str Go.Proofs.Ytmjhgeinhhhodaa.Ext.geq_str
/-! ### gristmillref06_Check: function 22 -/
def gristmillref06_Check.l0 : Nat → List (S23) → Int → Int → Int → Option (Int)
 | 0, _, _, _, _ => none
 | k + 1, x1, x5, x554000, x554001 => if x5 < (x1.length : Int) then (if 0 ≤ x5 then ((gristmillref06_Fine.f k x554000 x554001 ((rd_T23 x1 x5).f0) ((rd_T23 x1 x5).f1)).bind fun t555 => (if t555 = true then (gristmillref06_Check.l0 k x1 (wrap64 (x5 + 1)) x554000 x554001) else (some 1))) else (none)) else (some 0)
def gristmillref06_Check.f (k : Nat) (a0_0 : Int) (a0_1 : Int) (l1 : List (S23)) : Option (Int) := if (l1.length : Int) > 16 then (some 1) else (gristmillref06_Check.l0 k l1 0 a0_0 a0_1)
theorem gristmillref06_Check.mono_l : ∀ k, (∀ y0 y1 y2 y3, LeO (gristmillref06_Check.l0 k y0 y1 y2 y3) (gristmillref06_Check.l0 (k + 1) y0 y1 y2 y3))
 | 0 => fun _ _ _ _ r h => by simp [gristmillref06_Check.l0] at h
 | k + 1 => by
  have ih0 := gristmillref06_Check.mono_l k
  ·intro y0 y1 y2 y3
   unfold gristmillref06_Check.l0
   repeat' first
   | (with_reducible exact ih0 _ _ _ _)
   | (with_reducible exact gristmillref06_Fine.mono _ _ _ _ _)
   | (with_reducible exact LeO.refl _)
   | (with_reducible exact LeO.none _)
   | (with_reducible refine LeO.ite ?_ ?_)
   | (with_reducible refine LeO.bind ?_ (fun _ => ?_))
   | exact ih0 _ _ _ _
   | exact gristmillref06_Fine.mono _ _ _ _ _
   | exact LeO.none _
   | refine LeO.ite ?_ ?_
   | refine LeO.bind ?_ (fun _ => ?_)
theorem gristmillref06_Check.mono : ∀ a0 a1 a2 k, LeO (gristmillref06_Check.f k a0 a1 a2) (gristmillref06_Check.f (k + 1) a0 a1 a2) := by
 intro a0 a1 a2 k
 have ih0 := gristmillref06_Check.mono_l k
 unfold gristmillref06_Check.f
 repeat' first
   | (with_reducible exact ih0 _ _ _ _)
   | (with_reducible exact gristmillref06_Fine.mono _ _ _ _ _)
   | (with_reducible exact LeO.refl _)
   | (with_reducible exact LeO.none _)
   | (with_reducible refine LeO.ite ?_ ?_)
   | (with_reducible refine LeO.bind ?_ (fun _ => ?_))
   | exact ih0 _ _ _ _
   | exact gristmillref06_Fine.mono _ _ _ _ _
   | exact LeO.none _
   | refine LeO.ite ?_ ?_
   | refine LeO.bind ?_ (fun _ => ?_)
set_option maxHeartbeats 8000000 in
set_option maxRecDepth 100000 in
theorem gristmillref06_Check.calls (k : Nat) (a0_0 : Int) (a0_1 : Int) (A1 : Option Addr) (c1 : Nat) (l1 : List (S23)) (r : Int) (w : World) (hr1 : Kd.C k23 w A1 l1.length l1) (hc1 : l1.length ≤ c1) (h : gristmillref06_Check.f k a0_0 a0_1 l1 = some r) :
  Calls Try.prog 22 #[.agg #[.int .i64 a0_0, .int .i64 a0_1], .slice A1 l1.length c1] w fun e w' => e = .returned (.int .i64 r) ∧ Below w.heap.size w w' := by
 have hu27 := Try.underlying27
 have hu23 := Try.underlying23
 have HR1 := Aside0.mk hr1
 have HC1 := Aside0.mk hc1
 clear hr1 hc1
 have HB := Aside0.mk (Below.refl w.heap.size w)
 have H : (if (l1.length : Int) > 16 then (some 1) else (gristmillref06_Check.l0 k l1 0 a0_0 a0_1)) = some r := h
 clear h
 by_cases c3 : (l1.length : Int) > 16
 ·rw [if_pos c3] at H
  have c3b0 : decide (16 < (l1.length : Int)) = true := decide_eq_true c3
  have c3b1 : decide (16 < l1.length) = true := decide_eq_true (by omega)
  clear c3
  obtain rfl := Option.some.inj H
  go_enter Try.func22, Try.ntmps22
  go_wp2_with (first | ((with_reducible refine gate_dst (N := 2) rfl ?_); refine bx_ (N := 2) (cs := #[.int .i64 a0_0, .int .i64 a0_1]) (t := 27) ?_; intro gb553 hg w4 hbox hb; have n0_ := Aside0.mk (below_step (bw_ HB.out) hb); have n1_ := Aside0.mk (hbox); have n2_ := Aside0.mk (sz_ hg (bw_ HB.out)); have n3_ := n2_; clear HB; have HB := n0_; have BK553 := n1_; have GW553 := n2_; have GE553 := n3_; clear n0_ n1_ n2_ n3_; clear hb hbox hg))
  go_ret
  exact ⟨by first | rfl | (simp [errW_none, errW_some] <;> rfl) | (simp [*, errW_none, errW_some] <;> rfl), by repeat (first | (with_reducible first | exact HB.out | apply below_alloc | apply pw_below_drewN | apply below_drew1 | refine below_set ?_ GE553.out) | exact HB.out)⟩
 ·rw [if_neg c3] at H
  have c3b0 : decide (16 < (l1.length : Int)) = false := decide_eq_false c3
  have c3b1 : decide (16 < l1.length) = false := decide_eq_false (by omega)
  clear c3
  have H' := Aside0.mk H
  clear H
  go_enter Try.func22, Try.ntmps22
  go_wp2_with (first | ((with_reducible refine gate_dst (N := 2) rfl ?_); refine bx_ (N := 2) (cs := #[.int .i64 a0_0, .int .i64 a0_1]) (t := 27) ?_; intro gb553 hg w5 hbox hb; have n0_ := Aside0.mk (below_step (bw_ HB.out) hb); have n1_ := Aside0.mk (hbox); have n2_ := Aside0.mk (sz_ hg (bw_ HB.out)); have n3_ := n2_; clear HB; have HB := n0_; have BK553 := n1_; have GW553 := n2_; have GE553 := n3_; clear n0_ n1_ n2_ n3_; clear hb hbox hg))
  go_loopg [5] k (fun kq v5 w' => ∃ (x5_1 : Int), v5 = .int .i64 x5_1 ∧ Aside0 (gristmillref06_Check.l0 kq l1 x5_1 a0_0 a0_1 = some r) ∧ Aside0 (kq ≤ k) ∧ Aside0 (w'.heap[gb553]? = some (.cells #[.int .i64 a0_0, .int .i64 a0_1] 27 (0, 0))) ∧ Aside0 (Below w.heap.size w w'))
  case atStart => exact ⟨(0), (by first | rfl | (simp; done) | (simp [*]; done)), H', ⟨Nat.le_refl _⟩, ⟨by (with_reducible repeat (first | refine blk_drewN ?_ _ | refine blk_drew ?_ | refine blk_alloc ?_ _)); exact BK553.out⟩, ⟨by repeat (first | (with_reducible first | exact HB.out | apply below_alloc | apply pw_below_drewN | apply below_drew1 | refine below_set ?_ GE553.out) | exact HB.out)⟩⟩
  case round =>
   clear H'
   try clear c1
   try clear c2
   try clear p2
   try clear c3
   try clear c3b0
   try clear c3b1
   obtain ⟨x5_1, rfl, HA, HK1, BK553, HB⟩ := hrel
   cases gk with
   | zero => exact absurd HA.out (by simp [gristmillref06_Check.l0])
   | succ k1 =>
    have H := HA.out
    clear HA
    simp only [gristmillref06_Check.l0] at H
    by_cases c6 : x5_1 < (l1.length : Int)
    ·rw [if_pos c6] at H
     have c6b0 : decide (x5_1 < (l1.length : Int)) = true := decide_eq_true c6
     clear c6
     by_cases c7 : 0 ≤ x5_1
     ·rw [if_pos c7] at H
      have c7b0 : decide (0 ≤ x5_1) = true := decide_eq_true c7
      clear c7
      replace H := Option.bind_eq_some_iff.mp H
      obtain ⟨t555, A80, H⟩ := H
      replace H : (if t555 = true then (gristmillref06_Check.l0 k1 l1 (wrap64 (x5_1 + 1)) a0_0 a0_1) else (some 1)) = some r := H
      have A8 := Aside0.mk A80
      clear A80
      by_cases c9 : t555 = true
      ·subst c9
       have H1 : (gristmillref06_Check.l0 k1 l1 (wrap64 (x5_1 + 1)) a0_0 a0_1) = some r := by rw [if_pos rfl] at H; exact H
       clear H
       have H := H1
       clear H1
       have H' := Aside0.mk H
       clear H
       try go_wp2
       have n0_ := Aside0.mk (blk_drew BK553.out)
       have n1_ := Aside0.mk (below_drew1 HB.out)
       clear BK553
       clear HB
       have BK553 := n0_
       have HB := n1_
       clear n0_ n1_
       have p554 : 0 ≤ (x5_1 : Int) := of_decide_eq_true (by assumption)
       have q554 : x5_1 < (l1.length : Int) := of_decide_eq_true (by assumption)
       obtain ⟨ad554, e554, hx554_0, hx554_1⟩ := at_T23 HR1.out x5_1 p554 q554
       have hw554_1 := hx554_1
       have hw554_0 := hx554_0
       cases e554
       replace hx554_0 := pw_cell_below HB.out hx554_0
       replace hx554_1 := pw_cell_below HB.out hx554_1
       replace p554 := eq_true p554
       replace q554 := eq_true q554
       refine start_ (n := 7) (S := fun w' => w'.cell? ⟨gb553, 0, none⟩ = some (.int .i64 a0_0) ∧ w'.cell? ⟨gb553, 1, none⟩ = some (.int .i64 a0_1) ∧ w'.cell? (ad554.add ((x5_1).toNat * 2)) = some (.int .i64 ((rd_T23 l1 x5_1).f0)) ∧ w'.cell? ⟨(ad554.add ((x5_1).toNat * 2)).block, (ad554.add ((x5_1).toNat * 2)).off + 1, none⟩ = some (.int .i64 ((rd_T23 l1 x5_1).f1))) (ds := []) #[false, false, false, false, false, false, false] (by kernel_rfl) rfl rfl ⟨(blk_cell BK553.out 0).trans rfl, (blk_cell BK553.out 1).trans rfl, (pw_cell_below HB.out hw554_0), (pw_cell_below HB.out hw554_1)⟩ (fun hHeld => ?_)
       generalize wr.drew = w10 at BK553 HB hx554_0 hx554_1 hHeld ⊢
       refine pure_ (i := 1) (N := some 17) (v := ?_) (a' := ?_) #[false, true, false, false, false, false, false] rfl rfl (by kernel_rfl) (fun _ _ _ h => h) (Or.inl ⟨by rfl, ?_⟩) ?_ ?_
       rotate_left
       ·intro w'
        go_simp
        with_reducible rfl
       rotate_left
       ·simp only [Act.put, q1_, q2_, q3_, i64_w, i32_w]
        rfl
       refine pure_ (i := 2) (N := some 18) (v := ?_) (a' := ?_) #[false, true, true, false, false, false, false] rfl rfl (by kernel_rfl) (fun _ _ _ h => h) (Or.inl ⟨by rfl, ?_⟩) ?_ ?_
       rotate_left
       ·intro w'
        go_simp
        with_reducible rfl
       rotate_left
       ·simp only [Act.put, q1_, q2_, q3_, i64_w, i32_w]
        rfl
       refine pure_ (i := 3) (N := some 19) (v := ?_) (a' := ?_) #[false, true, true, true, false, false, false] rfl rfl (by kernel_rfl) (fun _ _ _ h => h) (Or.inl ⟨by rfl, ?_⟩) ?_ ?_
       rotate_left
       ·intro w'
        go_simp
        with_reducible rfl
       rotate_left
       ·simp only [Act.put, q1_, q2_, q3_, i64_w, i32_w]
        rfl
       refine take_ (i := 0) (N := some 16) (v := ?_) (a' := ?_) #[true, true, true, true, false, false, false] rfl rfl (by kernel_rfl) (fun _ _ _ h => h) (Or.inl ⟨by rfl, ?_⟩) hHeld ?_ ?_
       rotate_left
       ·rintro w' ⟨s0, s1, s2, s3⟩
        go_simp
        with_reducible rfl
       rotate_left
       ·simp only [Act.put, q1_, q2_, q3_, i64_w, i32_w]
        rfl
       refine take_ (i := 4) (N := some 20) (v := ?_) (a' := ?_) #[true, true, true, true, true, false, false] rfl rfl (by kernel_rfl) (fun _ _ _ h => h) (Or.inl ⟨by rfl, ?_⟩) hHeld ?_ ?_
       rotate_left
       ·rintro w' ⟨s0, s1, s2, s3⟩
        go_simp
        with_reducible rfl
       rotate_left
       ·simp only [Act.put, q1_, q2_, q3_, i64_w, i32_w]
        rfl
       refine one_ (i := 5) (N := some 21) #[true, true, true, true, true, true, false] rfl rfl (by kernel_rfl) (by decide) (fun K hK => ?_)
       refine goes_ Try.func35 (by kernel_rfl) rfl #[.agg #[.int .i64 a0_0, .int .i64 a0_1], .agg #[.int .i64 ((rd_T23 l1 x5_1).f0), .int .i64 ((rd_T23 l1 x5_1).f1)]] (by rfl) rfl rfl (by (try simp only [List.map_toArray, List.map_cons, List.map_nil]); first | done | rfl | (simp only [List.length_drop, List.length_take]; rfl)) ?_
       with_reducible refine (gristmillref06_Fine.calls k1 a0_0 a0_1 ((rd_T23 l1 x5_1).f0) ((rd_T23 l1 x5_1).f1) true _ A8.out).mono ?_
       rintro e w11 ⟨rfl, hb⟩
       refine ⟨_, rfl, ?_⟩
       have n0_ := Aside0.mk (blk_below (bk_ BK553.out) hb)
       have n1_ := Aside0.mk (below_step (bw_ HB.out) hb)
       clear BK553
       clear HB
       have BK553 := n0_
       have HB := n1_
       clear n0_ n1_
       (try clear hb)
       (try clear hb2)
       (try clear hk)
       (try clear hi)
       refine hK.out _ _ ⟨(blk_cell BK553.out 0).trans rfl, (blk_cell BK553.out 1).trans rfl, (pw_cell_below HB.out hw554_0), (pw_cell_below HB.out hw554_1)⟩ (fun hHeld => ?_)
       clear hK K
       refine norm_ (a' := ?_) ?_ ?_
       rotate_left
       ·show Act.put _ (some 21) _ = _
        simp only [Act.put, q1_, q2_, q3_, i64_w, i32_w]
        rfl
       refine pure_ (i := 6) (N := some 6) (v := ?_) (a' := ?_) #[true, true, true, true, true, true, true] rfl rfl (by kernel_rfl) (fun _ _ _ h => h) (Or.inl ⟨by rfl, ?_⟩) ?_ ?_
       rotate_left
       ·intro w'
        go_simp
        with_reducible rfl
       rotate_left
       ·simp only [Act.put, q1_, q2_, q3_, i64_w, i32_w]
        rfl
       refine done_ (by kernel_rfl) ?_
       try go_wp2
       go_roundg k1
       case measure => have := HK1.out; omega
       case rel => exact ⟨(wrap64 (x5_1 + 1)), (by first | rfl | (simp; done) | (simp [*]; done)), H', ⟨by have := HK1.out; omega⟩, ⟨by (with_reducible repeat (first | refine blk_drewN ?_ _ | refine blk_drew ?_ | refine blk_alloc ?_ _)); exact BK553.out⟩, ⟨by repeat (first | (with_reducible first | exact HB.out | apply below_alloc | apply pw_below_drewN | apply below_drew1 | refine below_set ?_ GE553.out) | exact HB.out)⟩⟩
      ·replace c9 := Bool.eq_false_iff.mpr c9
       subst c9
       have H1 : (some 1) = some r := by rw [if_neg (show ¬ (false = true) by decide)] at H; exact H
       clear H
       have H := H1
       clear H1
       obtain rfl := Option.some.inj H
       try go_wp2
       have n0_ := Aside0.mk (blk_drew BK553.out)
       have n1_ := Aside0.mk (below_drew1 HB.out)
       clear BK553
       clear HB
       have BK553 := n0_
       have HB := n1_
       clear n0_ n1_
       have p554 : 0 ≤ (x5_1 : Int) := of_decide_eq_true (by assumption)
       have q554 : x5_1 < (l1.length : Int) := of_decide_eq_true (by assumption)
       obtain ⟨ad554, e554, hx554_0, hx554_1⟩ := at_T23 HR1.out x5_1 p554 q554
       have hw554_1 := hx554_1
       have hw554_0 := hx554_0
       cases e554
       replace hx554_0 := pw_cell_below HB.out hx554_0
       replace hx554_1 := pw_cell_below HB.out hx554_1
       replace p554 := eq_true p554
       replace q554 := eq_true q554
       refine start_ (n := 7) (S := fun w' => w'.cell? ⟨gb553, 0, none⟩ = some (.int .i64 a0_0) ∧ w'.cell? ⟨gb553, 1, none⟩ = some (.int .i64 a0_1) ∧ w'.cell? (ad554.add ((x5_1).toNat * 2)) = some (.int .i64 ((rd_T23 l1 x5_1).f0)) ∧ w'.cell? ⟨(ad554.add ((x5_1).toNat * 2)).block, (ad554.add ((x5_1).toNat * 2)).off + 1, none⟩ = some (.int .i64 ((rd_T23 l1 x5_1).f1))) (ds := []) #[false, false, false, false, false, false, false] (by kernel_rfl) rfl rfl ⟨(blk_cell BK553.out 0).trans rfl, (blk_cell BK553.out 1).trans rfl, (pw_cell_below HB.out hw554_0), (pw_cell_below HB.out hw554_1)⟩ (fun hHeld => ?_)
       generalize wr.drew = w12 at BK553 HB hx554_0 hx554_1 hHeld ⊢
       refine pure_ (i := 1) (N := some 17) (v := ?_) (a' := ?_) #[false, true, false, false, false, false, false] rfl rfl (by kernel_rfl) (fun _ _ _ h => h) (Or.inl ⟨by rfl, ?_⟩) ?_ ?_
       rotate_left
       ·intro w'
        go_simp
        with_reducible rfl
       rotate_left
       ·simp only [Act.put, q1_, q2_, q3_, i64_w, i32_w]
        rfl
       refine pure_ (i := 2) (N := some 18) (v := ?_) (a' := ?_) #[false, true, true, false, false, false, false] rfl rfl (by kernel_rfl) (fun _ _ _ h => h) (Or.inl ⟨by rfl, ?_⟩) ?_ ?_
       rotate_left
       ·intro w'
        go_simp
        with_reducible rfl
       rotate_left
       ·simp only [Act.put, q1_, q2_, q3_, i64_w, i32_w]
        rfl
       refine pure_ (i := 3) (N := some 19) (v := ?_) (a' := ?_) #[false, true, true, true, false, false, false] rfl rfl (by kernel_rfl) (fun _ _ _ h => h) (Or.inl ⟨by rfl, ?_⟩) ?_ ?_
       rotate_left
       ·intro w'
        go_simp
        with_reducible rfl
       rotate_left
       ·simp only [Act.put, q1_, q2_, q3_, i64_w, i32_w]
        rfl
       refine take_ (i := 0) (N := some 16) (v := ?_) (a' := ?_) #[true, true, true, true, false, false, false] rfl rfl (by kernel_rfl) (fun _ _ _ h => h) (Or.inl ⟨by rfl, ?_⟩) hHeld ?_ ?_
       rotate_left
       ·rintro w' ⟨s0, s1, s2, s3⟩
        go_simp
        with_reducible rfl
       rotate_left
       ·simp only [Act.put, q1_, q2_, q3_, i64_w, i32_w]
        rfl
       refine take_ (i := 4) (N := some 20) (v := ?_) (a' := ?_) #[true, true, true, true, true, false, false] rfl rfl (by kernel_rfl) (fun _ _ _ h => h) (Or.inl ⟨by rfl, ?_⟩) hHeld ?_ ?_
       rotate_left
       ·rintro w' ⟨s0, s1, s2, s3⟩
        go_simp
        with_reducible rfl
       rotate_left
       ·simp only [Act.put, q1_, q2_, q3_, i64_w, i32_w]
        rfl
       refine one_ (i := 5) (N := some 21) #[true, true, true, true, true, true, false] rfl rfl (by kernel_rfl) (by decide) (fun K hK => ?_)
       refine goes_ Try.func35 (by kernel_rfl) rfl #[.agg #[.int .i64 a0_0, .int .i64 a0_1], .agg #[.int .i64 ((rd_T23 l1 x5_1).f0), .int .i64 ((rd_T23 l1 x5_1).f1)]] (by rfl) rfl rfl (by (try simp only [List.map_toArray, List.map_cons, List.map_nil]); first | done | rfl | (simp only [List.length_drop, List.length_take]; rfl)) ?_
       with_reducible refine (gristmillref06_Fine.calls k1 a0_0 a0_1 ((rd_T23 l1 x5_1).f0) ((rd_T23 l1 x5_1).f1) false _ A8.out).mono ?_
       rintro e w13 ⟨rfl, hb⟩
       refine ⟨_, rfl, ?_⟩
       have n0_ := Aside0.mk (blk_below (bk_ BK553.out) hb)
       have n1_ := Aside0.mk (below_step (bw_ HB.out) hb)
       clear BK553
       clear HB
       have BK553 := n0_
       have HB := n1_
       clear n0_ n1_
       (try clear hb)
       (try clear hb2)
       (try clear hk)
       (try clear hi)
       refine hK.out _ _ ⟨(blk_cell BK553.out 0).trans rfl, (blk_cell BK553.out 1).trans rfl, (pw_cell_below HB.out hw554_0), (pw_cell_below HB.out hw554_1)⟩ (fun hHeld => ?_)
       clear hK K
       refine norm_ (a' := ?_) ?_ ?_
       rotate_left
       ·show Act.put _ (some 21) _ = _
        simp only [Act.put, q1_, q2_, q3_, i64_w, i32_w]
        rfl
       refine pure_ (i := 6) (N := some 6) (v := ?_) (a' := ?_) #[true, true, true, true, true, true, true] rfl rfl (by kernel_rfl) (fun _ _ _ h => h) (Or.inl ⟨by rfl, ?_⟩) ?_ ?_
       rotate_left
       ·intro w'
        go_simp
        with_reducible rfl
       rotate_left
       ·simp only [Act.put, q1_, q2_, q3_, i64_w, i32_w]
        rfl
       refine done_ (by kernel_rfl) ?_
       try go_wp2
       go_ret
       exact ⟨by first | rfl | (simp [errW_none, errW_some] <;> rfl) | (simp [*, errW_none, errW_some] <;> rfl), by repeat (first | (with_reducible first | exact HB.out | apply below_alloc | apply pw_below_drewN | apply below_drew1 | refine below_set ?_ GE553.out) | exact HB.out)⟩
     ·rw [if_neg c7] at H
      exact absurd H (by simp)
    ·rw [if_neg c6] at H
     have c6b0 : decide (x5_1 < (l1.length : Int)) = false := decide_eq_false c6
     clear c6
     obtain rfl := Option.some.inj H
     go_wp2
     go_ret
     exact ⟨by first | rfl | (simp [errW_none, errW_some] <;> rfl) | (simp [*, errW_none, errW_some] <;> rfl), by repeat (first | (with_reducible first | exact HB.out | apply below_alloc | apply pw_below_drewN | apply below_drew1 | refine below_set ?_ GE553.out) | exact HB.out)⟩

end Go.Proofs.Ytmjhgeinhhhodaa.P
