/- Texts of this repo, joined, without what this claim does not use: P9. -/
import Derived.Test.YtmjhgeinhhhodaaDAggMerges1
import Derived.Test.YtmjhgeinhhhodaaDAggMerges2
import Derived.Test.YtmjhgeinhhhodaaDAggMerges3
section
namespace Go.Proofs.Ytmjhgeinhhhodaa.P
open Go.RowKit Go.Proofs.YtmjhgeinhhhodaaW.PrintWords Go.Proofs.YtmjhgeinhhhodaaW.PrintLast Go.Proofs.YtmjhgeinhhhodaaW.PrintMore
attribute [local go_sem] max2_int min2_int max_two min_two max_three min_three max_four min_four   -- for this text's walks alone
set_option linter.unusedVariables false
set_option linter.unusedSimpArgs false
open Go.Proofs.Ytmjhgeinhhhodaa.Ext (q1_ q2_ q3_ bk_ bw_ sz_ ne_ bx_)
attribute [local go_sem high] Go.Proofs.Ytmjhgeinhhhodaa.Ext.gtr_str Go.Proofs.Ytmjhgeinhhhodaa.Ext.leq_str Go.Proofs.Ytmjhgeinhhhodaa.Ext.geq_str
set_option maxHeartbeats 8000000 in
set_option maxRecDepth 100000 in
theorem gristmillref06_Of.calls (k : Nat) (a0_0 : Int) (a0_1 : Int) (A1 : Option Addr) (c1 : Nat) (l1 : List (S44)) (r1 : Int) (r2 : Int) (r3 : List ByteArray) (w : World) (hr1 : Kd.C k44 w A1 l1.length l1) (hc1 : l1.length ≤ c1) (h : gristmillref06_Of.f k a0_0 a0_1 l1 = some (r1, r2, r3)) :
  Calls Try.prog 13 #[.agg #[.int .i64 a0_0, .int .i64 a0_1], .slice A1 l1.length c1] w fun e w' => ∃ v2_ : Value, e = .returned (.agg #[.int .u64 r1, .int .i64 r2, v2_]) ∧ Kd.R Kd.string 9 w' w.heap.size (fun _ => True) v2_ r3 ∧ Below w.heap.size w w' := by
 have hu23 := Try.underlying23
 have hu33 := Try.underlying33
 have HR1 := Aside0.mk hr1
 have HC1 := Aside0.mk hc1
 clear hr1 hc1
 have HB := Aside0.mk (Below.refl w.heap.size w)
 have H : (gristmillref06_Of.l0 k l1 true 0 a0_0 a0_1 0 0 ([] : List ByteArray)) = some (r1, r2, r3) := h
 clear h
 have H' := Aside0.mk H
 clear H
 go_enter Try.func13, Try.ntmps13
 go_wp2_with (first | ((with_reducible refine gate_dst (N := 2) rfl ?_); refine bx_ (N := 2) (cs := #[.int .i64 a0_0, .int .i64 a0_1]) (t := 23) ?_; intro gb187 hg w3 hbox hb; have n0_ := Aside0.mk (below_step (bw_ HB.out) hb); have n1_ := Aside0.mk (hbox); have n2_ := Aside0.mk (sz_ hg (bw_ HB.out)); have n3_ := n2_; clear HB; have HB := n0_; have BK187 := n1_; have GW187 := n2_; have GE187 := n3_; clear n0_ n1_ n2_ n3_; clear hb hbox hg) | ((with_reducible refine gate_dst (N := 4) rfl ?_); refine bx_ (N := 4) (cs := #[.int .u64 0, .int .i64 0, .slice none 0 0]) (t := 33) ?_; intro gb188 hg w4 hbox hb; have n0_ := Aside0.mk (blk_below (bk_ BK187.out) hb); have n1_ := Aside0.mk (below_step (bw_ HB.out) hb); have n2_ := Aside0.mk (hbox); have n3_ := Aside0.mk (sz_ hg (bw_ HB.out)); have n4_ := n3_; have n5_ := Aside0.mk (ne_ hg (blk_lt (bk_ BK187.out))); have n6_ := Aside0.mk n5_.out.symm; clear BK187 HB; have BK187 := n0_; have HB := n1_; have BK188 := n2_; have GW188 := n3_; have GE188 := n4_; have NB187_188 := n5_; have NB188_187 := n6_; clear n0_ n1_ n2_ n3_ n4_ n5_ n6_; clear hb hbox hg) | ((with_reducible refine gate_dst (N := 5) rfl ?_); refine bx_ (N := 5) (cs := #[.int .u64 0, .int .i64 0, .slice none 0 0]) (t := 33) ?_; intro gb189 hg w5 hbox hb; have n0_ := Aside0.mk (blk_below (bk_ BK187.out) hb); have n1_ := Aside0.mk (blk_below (bk_ BK188.out) hb); have n2_ := Aside0.mk (below_step (bw_ HB.out) hb); have n3_ := Aside0.mk (hbox); have n4_ := Aside0.mk (sz_ hg (bw_ HB.out)); have n5_ := n4_; have n6_ := Aside0.mk (ne_ hg (blk_lt (bk_ BK187.out))); have n7_ := Aside0.mk n6_.out.symm; have n8_ := Aside0.mk (ne_ hg (blk_lt (bk_ BK188.out))); have n9_ := Aside0.mk n8_.out.symm; clear BK187 BK188 HB; have BK187 := n0_; have BK188 := n1_; have HB := n2_; have BK189 := n3_; have GW189 := n4_; have GE189 := n5_; have NB187_189 := n6_; have NB189_187 := n7_; have NB188_189 := n8_; have NB189_188 := n9_; clear n0_ n1_ n2_ n3_ n4_ n5_ n6_ n7_ n8_ n9_; clear hb hbox hg))
 go_loopg [6, 7] k (fun kq v6 v7 w' => ∃ (x6_1 : Bool) (x7_1 : Int) (x190000_1 : Int) (x190001_1 : Int) (x190002_1 : List ByteArray) (u190002 : Value), v6 = .bool x6_1 ∧ v7 = .int .i64 x7_1 ∧ Aside0 (gristmillref06_Of.l0 kq l1 x6_1 x7_1 a0_0 a0_1 x190000_1 x190001_1 x190002_1 = some (r1, r2, r3)) ∧ Aside0 (kq ≤ k) ∧ Aside0 (Kd.R Kd.string 9 w' w.heap.size (fun _ => True) u190002 x190002_1) ∧ Aside0 (w'.heap[gb187]? = some (.cells #[.int .i64 a0_0, .int .i64 a0_1] 23 (0, 0))) ∧ Aside0 (w'.heap[gb188]? = some (.cells #[.int .u64 0, .int .i64 0, (.slice none 0 0)] 33 (0, 0))) ∧ Aside0 (w'.heap[gb189]? = some (.cells #[.int .u64 x190000_1, .int .i64 x190001_1, u190002] 33 (0, 0))) ∧ Aside0 (Below w.heap.size w w'))
 case atStart => exact ⟨(true), (0), (0), (0), (([] : List ByteArray)), (.slice none 0 0), (by first | rfl | (simp; done) | (simp [*]; done)), (by first | rfl | (simp; done) | (simp [*]; done)), H', ⟨Nat.le_refl _⟩, ⟨by first | exact Kd.R_nil _ _ _ _ _ | exact Kd.N_nil _ _ _ _ _ | exact Kd.V_nil _ _ _ _ _ | exact Kd.Q_nil _ _ _ _ _ | exact Kd.S_nil _ _ _ _ _⟩, ⟨by (with_reducible repeat (first | refine blk_drewN ?_ _ | refine blk_drew ?_ | refine blk_alloc ?_ _)); exact BK187.out⟩, ⟨by (with_reducible repeat (first | refine blk_drewN ?_ _ | refine blk_drew ?_ | refine blk_alloc ?_ _)); exact BK188.out⟩, ⟨by (with_reducible repeat (first | refine blk_drewN ?_ _ | refine blk_drew ?_ | refine blk_alloc ?_ _)); exact BK189.out⟩, ⟨by repeat (first | (with_reducible first | exact HB.out | apply below_alloc | apply pw_below_drewN | apply below_drew1 | refine below_set ?_ GE187.out | refine below_set ?_ GE188.out | refine below_set ?_ GE189.out) | exact HB.out)⟩⟩
 case round =>
  clear H'
  try clear c1
  try clear p2
  obtain ⟨x6_1, x7_1, x190000_1, x190001_1, x190002_1, u190002, rfl, rfl, HA, HK1, HO_190002, BK187, BK188, BK189, HB⟩ := hrel
  cases gk with
  | zero => exact absurd HA.out (by simp [gristmillref06_Of.l0])
  | succ k1 =>
   have H := HA.out
   clear HA
   simp only [gristmillref06_Of.l0] at H
   by_cases c6 : x7_1 < (l1.length : Int)
   ·rw [if_pos c6] at H
    have c6b0 : decide (x7_1 < (l1.length : Int)) = true := decide_eq_true c6
    clear c6
    by_cases c7 : 0 ≤ x7_1
    ·rw [if_pos c7] at H
     have c7b0 : decide (0 ≤ x7_1) = true := decide_eq_true c7
     clear c7
     by_cases c8 : ((rd_T44 l1 x7_1).f1) = 0
     ·rw [if_pos c8] at H
      have c8b0 : (((rd_T44 l1 x7_1).f1) == 0) = true := beq_iff_eq.mpr c8
      have c8b1 : (((rd_T44 l1 x7_1).f1) != 0) = false := bne_eq_false_iff_eq.mpr c8
      clear c8
      have H' := Aside0.mk H
      clear H
      have p190 : 0 ≤ (x7_1 : Int) := of_decide_eq_true (by assumption)
      have q190 : x7_1 < (l1.length : Int) := of_decide_eq_true (by assumption)
      obtain ⟨ad190, A190_1, c190_1, A190_2, c190_2, e190, hx190_0, hx190_1, hx190_2, hx190_3, hl190_1, hi190_1, hl190_2, hi190_2⟩ := at_T44 HR1.out x7_1 p190 q190
      cases e190
      replace hx190_0 := pw_cell_below HB.out hx190_0
      replace hx190_1 := pw_cell_below HB.out hx190_1
      replace hx190_2 := pw_cell_below HB.out hx190_2
      replace hx190_3 := pw_cell_below HB.out hx190_3
      have HR190_1 := Aside0.mk hi190_1
      have HC190_1 := Aside0.mk hl190_1
      clear hi190_1 hl190_1
      have HR190_2 := Aside0.mk hi190_2
      have HC190_2 := Aside0.mk hl190_2
      clear hi190_2 hl190_2
      replace p190 := eq_true p190
      replace q190 := eq_true q190
      go_wp2
      go_roundg k1
      case measure => have := HK1.out; omega
      case rel => exact ⟨(x6_1), (wrap64 (x7_1 + 1)), (x190000_1), (x190001_1), (x190002_1), (u190002), (by first | rfl | (simp; done) | (simp [*]; done)), (by first | rfl | (simp; done) | (simp [*]; done)), H', ⟨by have := HK1.out; omega⟩, ⟨by (with_reducible repeat (first | apply Kd.R_alloc | apply Kd.R_drewN | apply Kd.R_drew)); exact HO_190002.out⟩, ⟨by (with_reducible repeat (first | refine blk_drewN ?_ _ | refine blk_drew ?_ | refine blk_alloc ?_ _)); exact BK187.out⟩, ⟨by (with_reducible repeat (first | refine blk_drewN ?_ _ | refine blk_drew ?_ | refine blk_alloc ?_ _)); exact BK188.out⟩, ⟨by (with_reducible repeat (first | refine blk_drewN ?_ _ | refine blk_drew ?_ | refine blk_alloc ?_ _)); exact BK189.out⟩, ⟨by repeat (first | (with_reducible first | exact HB.out | apply below_alloc | apply pw_below_drewN | apply below_drew1 | refine below_set ?_ GE187.out | refine below_set ?_ GE188.out | refine below_set ?_ GE189.out) | exact HB.out)⟩⟩
     ·rw [if_neg c8] at H
      have c8b0 : (((rd_T44 l1 x7_1).f1) == 0) = false := beq_eq_false_iff_ne.mpr c8
      have c8b1 : (((rd_T44 l1 x7_1).f1) != 0) = true := bne_iff_ne.mpr c8
      by_cases c9 : a0_0 = 2
      ·rw [if_pos c9] at H
       have c9b0 : (a0_0 == 2) = true := beq_iff_eq.mpr c9
       have c9b1 : (a0_0 != 2) = false := bne_eq_false_iff_eq.mpr c9
       clear c9
       by_cases c10 : 0 ≤ a0_1
       ·rw [if_pos c10] at H
        have c10b0 : decide (0 ≤ a0_1) = true := decide_eq_true c10
        clear c10
        by_cases c11 : a0_1 < (((rd_T44 l1 x7_1).f0.f2).length : Int)
        ·rw [if_pos c11] at H
         have c11b0 : decide (a0_1 < (((rd_T44 l1 x7_1).f0.f2).length : Int)) = true := decide_eq_true c11
         clear c11
         have H' := Aside0.mk H
         clear H
         have p190 : 0 ≤ (x7_1 : Int) := of_decide_eq_true (by assumption)
         have q190 : x7_1 < (l1.length : Int) := of_decide_eq_true (by assumption)
         obtain ⟨ad190, A190_1, c190_1, A190_2, c190_2, e190, hx190_0, hx190_1, hx190_2, hx190_3, hl190_1, hi190_1, hl190_2, hi190_2⟩ := at_T44 HR1.out x7_1 p190 q190
         cases e190
         replace hx190_0 := pw_cell_below HB.out hx190_0
         replace hx190_1 := pw_cell_below HB.out hx190_1
         replace hx190_2 := pw_cell_below HB.out hx190_2
         replace hx190_3 := pw_cell_below HB.out hx190_3
         have HR190_1 := Aside0.mk hi190_1
         have HC190_1 := Aside0.mk hl190_1
         clear hi190_1 hl190_1
         have HR190_2 := Aside0.mk hi190_2
         have HC190_2 := Aside0.mk hl190_2
         clear hi190_2 hl190_2
         replace p190 := eq_true p190
         replace q190 := eq_true q190
         try go_wp2
         have n0_ := Aside0.mk (Kd.R_drew HO_190002.out)
         have n1_ := Aside0.mk (blk_drew BK187.out)
         have n2_ := Aside0.mk (blk_drew BK188.out)
         have n3_ := Aside0.mk (blk_drew BK189.out)
         have n4_ := Aside0.mk (below_drew1 HB.out)
         clear HO_190002
         clear BK187
         clear BK188
         clear BK189
         clear HB
         have HO_190002 := n0_
         have BK187 := n1_
         have BK188 := n2_
         have BK189 := n3_
         have HB := n4_
         clear n0_ n1_ n2_ n3_ n4_
         have p191 : 0 ≤ (x7_1 : Int) := of_decide_eq_true (by assumption)
         have q191 : x7_1 < (l1.length : Int) := of_decide_eq_true (by assumption)
         obtain ⟨ad191, A191_1, c191_1, A191_2, c191_2, e191, hx191_0, hx191_1, hx191_2, hx191_3, hl191_1, hi191_1, hl191_2, hi191_2⟩ := at_T44 HR1.out x7_1 p191 q191
         have hw191_3 := hx191_3
         have hw191_2 := hx191_2
         have hw191_1 := hx191_1
         have hw191_0 := hx191_0
         obtain rfl : ad190 = ad191 := (by injection e191)
         replace hx191_0 := pw_cell_below HB.out hx191_0
         replace hx191_1 := pw_cell_below HB.out hx191_1
         replace hx191_2 := pw_cell_below HB.out hx191_2
         replace hx191_3 := pw_cell_below HB.out hx191_3
         have HR191_1 := Aside0.mk hi191_1
         have HC191_1 := Aside0.mk hl191_1
         clear hi191_1 hl191_1
         have HR191_2 := Aside0.mk hi191_2
         have HC191_2 := Aside0.mk hl191_2
         clear hi191_2 hl191_2
         replace p191 := eq_true p191
         replace q191 := eq_true q191
         refine start_ (n := 10) (S := fun w' => w'.cell? ⟨gb189, 0, none⟩ = some (.int .u64 x190000_1) ∧ w'.cell? ⟨gb189, 1, none⟩ = some (.int .i64 x190001_1) ∧ w'.cell? ⟨gb189, 2, none⟩ = some (u190002) ∧ w'.cell? (ad190.add ((x7_1).toNat * 4)) = some (.int .i64 ((rd_T44 l1 x7_1).f0.f0)) ∧ w'.cell? ⟨(ad190.add ((x7_1).toNat * 4)).block, (ad190.add ((x7_1).toNat * 4)).off + 1, none⟩ = some (.slice A191_1 ((rd_T44 l1 x7_1).f0.f1).length c191_1) ∧ w'.cell? ⟨(ad190.add ((x7_1).toNat * 4)).block, (ad190.add ((x7_1).toNat * 4)).off + 2, none⟩ = some (.slice A191_2 ((rd_T44 l1 x7_1).f0.f2).length c191_2) ∧ w'.cell? ⟨(ad190.add ((x7_1).toNat * 4)).block, (ad190.add ((x7_1).toNat * 4)).off + 3, none⟩ = some (.int .u64 ((rd_T44 l1 x7_1).f1))) (ds := [9]) #[false, false, false, false, false, false, false, false, false, false] (by kernel_rfl) rfl rfl ⟨(blk_cell BK189.out 0).trans rfl, (blk_cell BK189.out 1).trans rfl, (blk_cell BK189.out 2).trans rfl, (pw_cell_below HB.out hw191_0), (pw_cell_below HB.out hw191_1), (pw_cell_below HB.out hw191_2), (pw_cell_below HB.out hw191_3)⟩ (fun hHeld => ?_); refine with_tabW gristmillref06_Of.tab7 gristmillref06_Of.bits7 (fun HT_ HW_ => ?_)
         generalize wr.drew = w12 at HO_190002 BK187 BK188 BK189 HB HR191_1 HR191_2 hx191_0 hx191_1 hx191_2 hx191_3 hHeld ⊢
         refine pure_ (i := 0) (N := some 20) (v := ?_) (a' := ?_) #[true, false, false, false, false, false, false, false, false, false] rfl rfl (any_of HT_.out (by kernel_rfl)) (fun _ _ _ h => h) (Or.inl ⟨by rfl, ?_⟩) ?_ ?_
         rotate_left
         ·intro w'
          go_simp
          with_reducible rfl
         rotate_left
         ·simp only [Act.put, q1_, q2_, q3_, i64_w, i32_w]
          rfl
         refine pure_ (i := 2) (N := some 22) (v := ?_) (a' := ?_) #[true, false, true, false, false, false, false, false, false, false] rfl rfl (any_of HT_.out (by kernel_rfl)) (fun _ _ _ h => h) (Or.inl ⟨by rfl, ?_⟩) ?_ ?_
         rotate_left
         ·intro w'
          go_simp
          with_reducible rfl
         rotate_left
         ·simp only [Act.put, q1_, q2_, q3_, i64_w, i32_w]
          rfl
         refine pure_ (i := 3) (N := some 23) (v := ?_) (a' := ?_) #[true, false, true, true, false, false, false, false, false, false] rfl rfl (any_of HT_.out (by kernel_rfl)) (fun _ _ _ h => h) (Or.inl ⟨by rfl, ?_⟩) ?_ ?_
         rotate_left
         ·intro w'
          go_simp
          with_reducible rfl
         rotate_left
         ·simp only [Act.put, q1_, q2_, q3_, i64_w, i32_w]
          rfl
         refine pure_ (i := 4) (N := some 24) (v := ?_) (a' := ?_) #[true, false, true, true, true, false, false, false, false, false] rfl rfl (any_of HT_.out (by kernel_rfl)) (fun _ _ _ h => h) (Or.inl ⟨by rfl, ?_⟩) ?_ ?_
         rotate_left
         ·intro w'
          go_simp
          with_reducible rfl
         rotate_left
         ·simp only [Act.put, q1_, q2_, q3_, i64_w, i32_w]
          rfl
         refine pure_ (i := 5) (N := some 25) (v := ?_) (a' := ?_) #[true, false, true, true, true, true, false, false, false, false] rfl rfl (any_of HT_.out (by kernel_rfl)) (fun _ _ _ h => h) (Or.inl ⟨by rfl, ?_⟩) ?_ ?_
         rotate_left
         ·intro w'
          go_simp
          with_reducible rfl
         rotate_left
         ·simp only [Act.put, q1_, q2_, q3_, i64_w, i32_w]
          rfl
         refine take_ (i := 1) (N := some 21) (v := ?_) (a' := ?_) #[true, true, true, true, true, true, false, false, false, false] rfl rfl (take_ofW HT_.out HW_.out (by kernel_rfl)) (fun _ _ _ h => h) (Or.inl ⟨by rfl, ?_⟩) hHeld ?_ ?_
         rotate_left
         ·rintro w' ⟨s0, s1, s2, s3, s4, s5, s6⟩
          go_simp
          with_reducible rfl
         rotate_left
         ·simp only [Act.put, q1_, q2_, q3_, i64_w, i32_w]
          rfl
         refine take_ (i := 6) (N := some 26) (v := ?_) (a' := ?_) #[true, true, true, true, true, true, true, false, false, false] rfl rfl (take_ofW HT_.out HW_.out (by kernel_rfl)) (fun _ _ _ h => h) (Or.inl ⟨by rfl, ?_⟩) hHeld ?_ ?_
         rotate_left
         ·rintro w' ⟨s0, s1, s2, s3, s4, s5, s6⟩
          go_simp
          with_reducible rfl
         rotate_left
         ·simp only [Act.put, q1_, q2_, q3_, i64_w, i32_w]
          rfl
         refine pure_ (i := 7) (N := some 27) (v := ?_) (a' := ?_) #[true, true, true, true, true, true, true, true, false, false] rfl rfl (any_of HT_.out (by kernel_rfl)) (fun _ _ _ h => h) (Or.inl ⟨by rfl, ?_⟩) ?_ ?_
         rotate_left
         ·intro w'
          go_simp
          with_reducible rfl
         rotate_left
         ·simp only [Act.put, q1_, q2_, q3_, i64_w, i32_w]
          rfl
         refine pure_ (i := 8) (N := some 28) (v := ?_) (a' := ?_) #[true, true, true, true, true, true, true, true, true, false] rfl rfl (any_of HT_.out (by kernel_rfl)) (fun _ _ _ h => h) (Or.inl ⟨by rfl, ?_⟩) ?_ ?_
         rotate_left
         ·intro w'
          go_simp
          with_reducible rfl
         rotate_left
         ·simp only [Act.put, q1_, q2_, q3_, i64_w, i32_w]
          rfl
         refine last_ (i := 9) (N := none) #[true, true, true, true, true, true, true, true, true, true] rfl rfl (one_of HT_.out (by kernel_rfl)) (by decide) (fun K hK => ?_)
         have hs13 : w12.cell? ⟨gb189, 0, none⟩ = some (.int .u64 x190000_1) := (blk_cell BK189.out 0).trans rfl
         have hfs13 := blk_frozen BK189.out 0
         have hns13_0 := NB187_189.out
         have hns13_1 := NB188_189.out
         have hms13_0 := NB189_187.out
         have hms13_1 := NB189_188.out
         refine skip_ (w1 := ?_) (by rfl) rfl ?_ ?_
         rotate_left
         ·go_simp
          rfl
         refine hK.out _ _ ?_
         clear hK K
         refine done_ (done_of HT_.out (by kernel_rfl)) ?_
         have hnb14 := NB187_188.out
         have hnc14 := NB188_187.out
         have hnb15 := NB187_189.out
         have hnc15 := NB189_187.out
         have hcz16_0 : w12.cell? ⟨gb187, 0, none⟩ = some (.int .i64 a0_0) := (blk_cell BK187.out 0).trans rfl
         have hcz16_1 : w12.cell? ⟨gb187, 1, none⟩ = some (.int .i64 a0_1) := (blk_cell BK187.out 1).trans rfl
         have hfz16_0 := blk_frozen BK187.out 0
         have hfz16_1 := blk_frozen BK187.out 1
         try go_wp2
         have n0_ : Aside0 (Kd.R Kd.string 9 (w12.setCell ⟨gb189, 0, none⟩ (.int .u64 (IntKind.u64.wrap (x190000_1 + ((rd_T44 l1 x7_1).f1))))) w.heap.size (fun _ => True) u190002 x190002_1) := ⟨by (with_reducible repeat (first | apply Kd.R_alloc | apply Kd.R_drewN | apply Kd.R_drew)); exact Kd.R_mono (Kd.R_far (p := ⟨gb189, 0, none⟩) (Kd.R_types HO_190002.out BK189.out (by decide)) (fun _ hk => hk.2) (.int .u64 (IntKind.u64.wrap (x190000_1 + ((rd_T44 l1 x7_1).f1))))) (fun _ hk => trivial)⟩
         have n1_ : Aside0 ((w12.setCell ⟨gb189, 0, none⟩ (.int .u64 (IntKind.u64.wrap (x190000_1 + ((rd_T44 l1 x7_1).f1))))).heap[gb187]? = some (.cells #[.int .i64 a0_0, .int .i64 a0_1] 23 (0, 0))) := ⟨by (with_reducible repeat (first | refine blk_drewN ?_ _ | refine blk_drew ?_ | refine blk_alloc ?_ _)); refine blk_far ?_ NB187_189.out _; (with_reducible repeat (first | refine blk_drewN ?_ _ | refine blk_drew ?_ | refine blk_alloc ?_ _)); exact BK187.out⟩
         have n2_ : Aside0 ((w12.setCell ⟨gb189, 0, none⟩ (.int .u64 (IntKind.u64.wrap (x190000_1 + ((rd_T44 l1 x7_1).f1))))).heap[gb188]? = some (.cells #[.int .u64 0, .int .i64 0, .slice none 0 0] 33 (0, 0))) := ⟨by (with_reducible repeat (first | refine blk_drewN ?_ _ | refine blk_drew ?_ | refine blk_alloc ?_ _)); refine blk_far ?_ NB188_189.out _; (with_reducible repeat (first | refine blk_drewN ?_ _ | refine blk_drew ?_ | refine blk_alloc ?_ _)); exact BK188.out⟩
         have n3_ : Aside0 ((w12.setCell ⟨gb189, 0, none⟩ (.int .u64 (IntKind.u64.wrap (x190000_1 + ((rd_T44 l1 x7_1).f1))))).heap[gb189]? = some (.cells #[.int .u64 (IntKind.u64.wrap (x190000_1 + ((rd_T44 l1 x7_1).f1))), .int .i64 x190001_1, u190002] 33 (0, 0))) := ⟨by (with_reducible repeat (first | refine blk_drewN ?_ _ | refine blk_drew ?_ | refine blk_alloc ?_ _)); refine blk_put (cs := #[.int .u64 x190000_1, .int .i64 x190001_1, u190002]) ?_ 0 _ rfl; (with_reducible repeat (first | refine blk_drewN ?_ _ | refine blk_drew ?_ | refine blk_alloc ?_ _)); exact BK189.out⟩
         have n4_ : Aside0 (Below w.heap.size w (w12.setCell ⟨gb189, 0, none⟩ (.int .u64 (IntKind.u64.wrap (x190000_1 + ((rd_T44 l1 x7_1).f1)))))) := ⟨by repeat (first | (with_reducible first | exact HB.out | apply below_alloc | apply pw_below_drewN | apply below_drew1 | refine below_set ?_ GE187.out | refine below_set ?_ GE188.out | refine below_set ?_ GE189.out) | exact HB.out)⟩
         (try clear HO_190002)
         (try clear BK187)
         (try clear BK188)
         (try clear BK189)
         (try clear HB)
         generalize (w12.setCell ⟨gb189, 0, none⟩ (.int .u64 (IntKind.u64.wrap (x190000_1 + ((rd_T44 l1 x7_1).f1))))) = w17 at n0_ n1_ n2_ n3_ n4_ ⊢
         have HO_190002 := n0_
         have BK187 := n1_
         have BK188 := n2_
         have BK189 := n3_
         have HB := n4_
         clear n0_ n1_ n2_ n3_ n4_
         have n0_ := Aside0.mk (Kd.R_drew HO_190002.out)
         have n1_ := Aside0.mk (blk_drew BK187.out)
         have n2_ := Aside0.mk (blk_drew BK188.out)
         have n3_ := Aside0.mk (blk_drew BK189.out)
         have n4_ := Aside0.mk (below_drew1 HB.out)
         clear HO_190002
         clear BK187
         clear BK188
         clear BK189
         clear HB
         have HO_190002 := n0_
         have BK187 := n1_
         have BK188 := n2_
         have BK189 := n3_
         have HB := n4_
         clear n0_ n1_ n2_ n3_ n4_
         have p192 : 0 ≤ (x7_1 : Int) := of_decide_eq_true (by assumption)
         have q192 : x7_1 < (l1.length : Int) := of_decide_eq_true (by assumption)
         obtain ⟨ad192, A192_1, c192_1, A192_2, c192_2, e192, hx192_0, hx192_1, hx192_2, hx192_3, hl192_1, hi192_1, hl192_2, hi192_2⟩ := at_T44 HR1.out x7_1 p192 q192
         have hw192_3 := hx192_3
         have hw192_2 := hx192_2
         have hw192_1 := hx192_1
         have hw192_0 := hx192_0
         obtain rfl : ad190 = ad192 := (by injection e192)
         replace hx192_0 := pw_cell_below HB.out hx192_0
         replace hx192_1 := pw_cell_below HB.out hx192_1
         replace hx192_2 := pw_cell_below HB.out hx192_2
         replace hx192_3 := pw_cell_below HB.out hx192_3
         have HR192_1 := Aside0.mk hi192_1
         have HC192_1 := Aside0.mk hl192_1
         clear hi192_1 hl192_1
         have HR192_2 := Aside0.mk hi192_2
         have HC192_2 := Aside0.mk hl192_2
         clear hi192_2 hl192_2
         replace p192 := eq_true p192
         replace q192 := eq_true q192
         have p193 : 0 ≤ (a0_1 : Int) := of_decide_eq_true (by assumption)
         have q193 : a0_1 < (((rd_T44 l1 x7_1).f0.f2).length : Int) := of_decide_eq_true (by assumption)
         obtain ⟨ad193, e193, hx193_0⟩ := Kd.at_int HR192_2.out a0_1 p193 q193
         have hw193_0 := hx193_0
         cases e193
         replace hx193_0 := pw_cell_below HB.out hx193_0
         replace p193 := eq_true p193
         replace q193 := eq_true q193
         have p194 : 0 ≤ (x7_1 : Int) := of_decide_eq_true (by assumption)
         have q194 : x7_1 < (l1.length : Int) := of_decide_eq_true (by assumption)
         obtain ⟨ad194, A194_1, c194_1, A194_2, c194_2, e194, hx194_0, hx194_1, hx194_2, hx194_3, hl194_1, hi194_1, hl194_2, hi194_2⟩ := at_T44 HR1.out x7_1 p194 q194
         have hw194_3 := hx194_3
         have hw194_2 := hx194_2
         have hw194_1 := hx194_1
         have hw194_0 := hx194_0
         obtain rfl : ad190 = ad194 := (by injection e194)
         replace hx194_0 := pw_cell_below HB.out hx194_0
         replace hx194_1 := pw_cell_below HB.out hx194_1
         replace hx194_2 := pw_cell_below HB.out hx194_2
         replace hx194_3 := pw_cell_below HB.out hx194_3
         have HR194_1 := Aside0.mk hi194_1
         have HC194_1 := Aside0.mk hl194_1
         clear hi194_1 hl194_1
         have HR194_2 := Aside0.mk hi194_2
         have HC194_2 := Aside0.mk hl194_2
         clear hi194_2 hl194_2
         replace p194 := eq_true p194
         replace q194 := eq_true q194
         have ea_ := Option.some.inj (hx192_1.symm.trans hx194_1)
         injection ea_ with ea_ en_ ec_
         subst ea_
         subst ec_
         clear en_
         have ea_ := Option.some.inj (hx192_2.symm.trans hx194_2)
         injection ea_ with ea_ en_ ec_
         subst ea_
         subst ec_
         clear en_
         refine start_ (n := 22) (S := fun w' => w'.cell? ⟨gb189, 0, none⟩ = some (.int .u64 (IntKind.u64.wrap (x190000_1 + ((rd_T44 l1 x7_1).f1)))) ∧ w'.cell? ⟨gb189, 1, none⟩ = some (.int .i64 x190001_1) ∧ w'.cell? ⟨gb189, 2, none⟩ = some (u190002) ∧ w'.cell? ⟨gb187, 0, none⟩ = some (.int .i64 a0_0) ∧ w'.cell? ⟨gb187, 1, none⟩ = some (.int .i64 a0_1) ∧ w'.cell? (ad190.add ((x7_1).toNat * 4)) = some (.int .i64 ((rd_T44 l1 x7_1).f0.f0)) ∧ w'.cell? ⟨(ad190.add ((x7_1).toNat * 4)).block, (ad190.add ((x7_1).toNat * 4)).off + 1, none⟩ = some (.slice A192_1 ((rd_T44 l1 x7_1).f0.f1).length c192_1) ∧ w'.cell? ⟨(ad190.add ((x7_1).toNat * 4)).block, (ad190.add ((x7_1).toNat * 4)).off + 2, none⟩ = some (.slice (some ad193) ((rd_T44 l1 x7_1).f0.f2).length c192_2) ∧ w'.cell? ⟨(ad190.add ((x7_1).toNat * 4)).block, (ad190.add ((x7_1).toNat * 4)).off + 3, none⟩ = some (.int .u64 ((rd_T44 l1 x7_1).f1)) ∧ w'.cell? (ad193.add (a0_1).toNat) = some (.int .i64 (rd ((rd_T44 l1 x7_1).f0.f2) a0_1)) ∧ w'.cell? (ad190.add ((x7_1).toNat * 4)) = some (.int .i64 ((rd_T44 l1 x7_1).f0.f0)) ∧ w'.cell? ⟨(ad190.add ((x7_1).toNat * 4)).block, (ad190.add ((x7_1).toNat * 4)).off + 1, none⟩ = some (.slice A192_1 ((rd_T44 l1 x7_1).f0.f1).length c192_1) ∧ w'.cell? ⟨(ad190.add ((x7_1).toNat * 4)).block, (ad190.add ((x7_1).toNat * 4)).off + 2, none⟩ = some (.slice (some ad193) ((rd_T44 l1 x7_1).f0.f2).length c192_2) ∧ w'.cell? ⟨(ad190.add ((x7_1).toNat * 4)).block, (ad190.add ((x7_1).toNat * 4)).off + 3, none⟩ = some (.int .u64 ((rd_T44 l1 x7_1).f1))) (ds := [21]) #[false, false, false, false, false, false, false, false, false, false, false, false, false, false, false, false, false, false, false, false, false, false] (by kernel_rfl) rfl rfl ⟨(blk_cell BK189.out 0).trans rfl, (blk_cell BK189.out 1).trans rfl, (blk_cell BK189.out 2).trans rfl, (blk_cell BK187.out 0).trans rfl, (blk_cell BK187.out 1).trans rfl, (pw_cell_below HB.out hw192_0), (pw_cell_below HB.out hw192_1), (pw_cell_below HB.out hw192_2), (pw_cell_below HB.out hw192_3), (pw_cell_below HB.out hw193_0), (pw_cell_below HB.out hw194_0), (pw_cell_below HB.out hw194_1), (pw_cell_below HB.out hw194_2), (pw_cell_below HB.out hw194_3)⟩ (fun hHeld => ?_); refine with_tabW gristmillref06_Of.tab10 gristmillref06_Of.bits10 (fun HT_ HW_ => ?_)
         generalize w17.drew = w18 at HO_190002 BK187 BK188 BK189 HB HR192_1 HR192_2 HR194_1 HR194_2 hx192_0 hx192_1 hx192_2 hx192_3 hx193_0 hx194_0 hx194_1 hx194_2 hx194_3 hHeld ⊢
         refine pure_ (i := 0) (N := some 33) (v := ?_) (a' := ?_) #[true, false, false, false, false, false, false, false, false, false, false, false, false, false, false, false, false, false, false, false, false, false] rfl rfl (any_of HT_.out (by kernel_rfl)) (fun _ _ _ h => h) (Or.inl ⟨by rfl, ?_⟩) ?_ ?_
         rotate_left
         ·intro w'
          go_simp
          with_reducible rfl
         rotate_left
         ·simp only [Act.put, q1_, q2_, q3_, i64_w, i32_w]
          rfl
         refine pure_ (i := 2) (N := some 35) (v := ?_) (a' := ?_) #[true, false, true, false, false, false, false, false, false, false, false, false, false, false, false, false, false, false, false, false, false, false] rfl rfl (any_of HT_.out (by kernel_rfl)) (fun _ _ _ h => h) (Or.inl ⟨by rfl, ?_⟩) ?_ ?_
         rotate_left
         ·intro w'
          go_simp
          with_reducible rfl
         rotate_left
         ·simp only [Act.put, q1_, q2_, q3_, i64_w, i32_w]
          rfl
         refine pure_ (i := 3) (N := some 36) (v := ?_) (a' := ?_) #[true, false, true, true, false, false, false, false, false, false, false, false, false, false, false, false, false, false, false, false, false, false] rfl rfl (any_of HT_.out (by kernel_rfl)) (fun _ _ _ h => h) (Or.inl ⟨by rfl, ?_⟩) ?_ ?_
         rotate_left
         ·intro w'
          go_simp
          with_reducible rfl
         rotate_left
         ·simp only [Act.put, q1_, q2_, q3_, i64_w, i32_w]
          rfl
         refine pure_ (i := 4) (N := some 37) (v := ?_) (a' := ?_) #[true, false, true, true, true, false, false, false, false, false, false, false, false, false, false, false, false, false, false, false, false, false] rfl rfl (any_of HT_.out (by kernel_rfl)) (fun _ _ _ h => h) (Or.inl ⟨by rfl, ?_⟩) ?_ ?_
         rotate_left
         ·intro w'
          go_simp
          with_reducible rfl
         rotate_left
         ·simp only [Act.put, q1_, q2_, q3_, i64_w, i32_w]
          rfl
         refine pure_ (i := 5) (N := some 38) (v := ?_) (a' := ?_) #[true, false, true, true, true, true, false, false, false, false, false, false, false, false, false, false, false, false, false, false, false, false] rfl rfl (any_of HT_.out (by kernel_rfl)) (fun _ _ _ h => h) (Or.inl ⟨by rfl, ?_⟩) ?_ ?_
         rotate_left
         ·intro w'
          go_simp
          with_reducible rfl
         rotate_left
         ·simp only [Act.put, q1_, q2_, q3_, i64_w, i32_w]
          rfl
         refine pure_ (i := 6) (N := some 39) (v := ?_) (a' := ?_) #[true, false, true, true, true, true, true, false, false, false, false, false, false, false, false, false, false, false, false, false, false, false] rfl rfl (any_of HT_.out (by kernel_rfl)) (fun _ _ _ h => h) (Or.inl ⟨by rfl, ?_⟩) ?_ ?_
         rotate_left
         ·intro w'
          go_simp
          with_reducible rfl
         rotate_left
         ·simp only [Act.put, q1_, q2_, q3_, i64_w, i32_w]
          rfl
         refine pure_ (i := 8) (N := some 41) (v := ?_) (a' := ?_) #[true, false, true, true, true, true, true, false, true, false, false, false, false, false, false, false, false, false, false, false, false, false] rfl rfl (any_of HT_.out (by kernel_rfl)) (fun _ _ _ h => h) (Or.inl ⟨by rfl, ?_⟩) ?_ ?_
         rotate_left
         ·intro w'
          go_simp
          with_reducible rfl
         rotate_left
         ·simp only [Act.put, q1_, q2_, q3_, i64_w, i32_w]
          rfl
         refine pure_ (i := 12) (N := some 45) (v := ?_) (a' := ?_) #[true, false, true, true, true, true, true, false, true, false, false, false, true, false, false, false, false, false, false, false, false, false] rfl rfl (any_of HT_.out (by kernel_rfl)) (fun _ _ _ h => h) (Or.inl ⟨by rfl, ?_⟩) ?_ ?_
         rotate_left
         ·intro w'
          go_simp
          with_reducible rfl
         rotate_left
         ·simp only [Act.put, q1_, q2_, q3_, i64_w, i32_w]
          rfl
         refine pure_ (i := 13) (N := some 46) (v := ?_) (a' := ?_) #[true, false, true, true, true, true, true, false, true, false, false, false, true, true, false, false, false, false, false, false, false, false] rfl rfl (any_of HT_.out (by kernel_rfl)) (fun _ _ _ h => h) (Or.inl ⟨by rfl, ?_⟩) ?_ ?_
         rotate_left
         ·intro w'
          go_simp
          with_reducible rfl
         rotate_left
         ·simp only [Act.put, q1_, q2_, q3_, i64_w, i32_w]
          rfl
         refine pure_ (i := 14) (N := some 47) (v := ?_) (a' := ?_) #[true, false, true, true, true, true, true, false, true, false, false, false, true, true, true, false, false, false, false, false, false, false] rfl rfl (any_of HT_.out (by kernel_rfl)) (fun _ _ _ h => h) (Or.inl ⟨by rfl, ?_⟩) ?_ ?_
         rotate_left
         ·intro w'
          go_simp
          with_reducible rfl
         rotate_left
         ·simp only [Act.put, q1_, q2_, q3_, i64_w, i32_w]
          rfl
         refine pure_ (i := 15) (N := some 48) (v := ?_) (a' := ?_) #[true, false, true, true, true, true, true, false, true, false, false, false, true, true, true, true, false, false, false, false, false, false] rfl rfl (any_of HT_.out (by kernel_rfl)) (fun _ _ _ h => h) (Or.inl ⟨by rfl, ?_⟩) ?_ ?_
         rotate_left
         ·intro w'
          go_simp
          with_reducible rfl
         rotate_left
         ·simp only [Act.put, q1_, q2_, q3_, i64_w, i32_w]
          rfl
         refine take_ (i := 1) (N := some 34) (v := ?_) (a' := ?_) #[true, true, true, true, true, true, true, false, true, false, false, false, true, true, true, true, false, false, false, false, false, false] rfl rfl (take_ofW HT_.out HW_.out (by kernel_rfl)) (fun _ _ _ h => h) (Or.inl ⟨by rfl, ?_⟩) hHeld ?_ ?_
         rotate_left
         ·rintro w' ⟨s0, s1, s2, s3, s4, s5, s6, s7, s8, s9, s10, s11, s12, s13⟩
          go_simp
          with_reducible rfl
         rotate_left
         ·simp only [Act.put, q1_, q2_, q3_, i64_w, i32_w]
          rfl
         refine take_ (i := 7) (N := some 40) (v := ?_) (a' := ?_) #[true, true, true, true, true, true, true, true, true, false, false, false, true, true, true, true, false, false, false, false, false, false] rfl rfl (take_ofW HT_.out HW_.out (by kernel_rfl)) (fun _ _ _ h => h) (Or.inl ⟨by rfl, ?_⟩) hHeld ?_ ?_
         rotate_left
         ·rintro w' ⟨s0, s1, s2, s3, s4, s5, s6, s7, s8, s9, s10, s11, s12, s13⟩
          go_simp
          with_reducible rfl
         rotate_left
         ·simp only [Act.put, q1_, q2_, q3_, i64_w, i32_w]
          rfl
         refine take_ (i := 9) (N := some 42) (v := ?_) (a' := ?_) #[true, true, true, true, true, true, true, true, true, true, false, false, true, true, true, true, false, false, false, false, false, false] rfl rfl (take_ofW HT_.out HW_.out (by kernel_rfl)) (fun _ _ _ h => h) (Or.inl ⟨by rfl, ?_⟩) hHeld ?_ ?_
         rotate_left
         ·rintro w' ⟨s0, s1, s2, s3, s4, s5, s6, s7, s8, s9, s10, s11, s12, s13⟩
          go_simp
          with_reducible rfl
         rotate_left
         ·simp only [Act.put, q1_, q2_, q3_, i64_w, i32_w]
          rfl
         refine pure_ (i := 10) (N := some 43) (v := ?_) (a' := ?_) #[true, true, true, true, true, true, true, true, true, true, true, false, true, true, true, true, false, false, false, false, false, false] rfl rfl (any_of HT_.out (by kernel_rfl)) (fun _ _ _ h => h) (Or.inl ⟨by rfl, ?_⟩) ?_ ?_
         rotate_left
         ·intro w'
          go_simp
          with_reducible rfl
         rotate_left
         ·simp only [Act.put, q1_, q2_, q3_, i64_w, i32_w]
          rfl
         refine take_ (i := 11) (N := some 44) (v := ?_) (a' := ?_) #[true, true, true, true, true, true, true, true, true, true, true, true, true, true, true, true, false, false, false, false, false, false] rfl rfl (take_ofW HT_.out HW_.out (by kernel_rfl)) (fun _ _ _ h => h) (Or.inl ⟨by rfl, ?_⟩) hHeld ?_ ?_
         rotate_left
         ·rintro w' ⟨s0, s1, s2, s3, s4, s5, s6, s7, s8, s9, s10, s11, s12, s13⟩
          go_simp
          with_reducible rfl
         rotate_left
         ·simp only [Act.put, q1_, q2_, q3_, i64_w, i32_w]
          rfl
         refine take_ (i := 16) (N := some 49) (v := ?_) (a' := ?_) #[true, true, true, true, true, true, true, true, true, true, true, true, true, true, true, true, true, false, false, false, false, false] rfl rfl (take_ofW HT_.out HW_.out (by kernel_rfl)) (fun _ _ _ h => h) (Or.inl ⟨by rfl, ?_⟩) hHeld ?_ ?_
         rotate_left
         ·rintro w' ⟨s0, s1, s2, s3, s4, s5, s6, s7, s8, s9, s10, s11, s12, s13⟩
          go_simp
          with_reducible rfl
         rotate_left
         ·simp only [Act.put, q1_, q2_, q3_, i64_w, i32_w]
          rfl
         refine pure_ (i := 17) (N := some 50) (v := ?_) (a' := ?_) #[true, true, true, true, true, true, true, true, true, true, true, true, true, true, true, true, true, true, false, false, false, false] rfl rfl (any_of HT_.out (by kernel_rfl)) (fun _ _ _ h => h) (Or.inl ⟨by rfl, ?_⟩) ?_ ?_
         rotate_left
         ·intro w'
          go_simp
          with_reducible rfl
         rotate_left
         ·simp only [Act.put, q1_, q2_, q3_, i64_w, i32_w]
          rfl
         refine pure_ (i := 18) (N := some 51) (v := ?_) (a' := ?_) #[true, true, true, true, true, true, true, true, true, true, true, true, true, true, true, true, true, true, true, false, false, false] rfl rfl (any_of HT_.out (by kernel_rfl)) (fun _ _ _ h => h) (Or.inl ⟨by rfl, ?_⟩) ?_ ?_
         rotate_left
         ·intro w'
          go_simp
          with_reducible rfl
         rotate_left
         ·simp only [Act.put, q1_, q2_, q3_, i64_w, i32_w]
          rfl
         refine pure_ (i := 19) (N := some 52) (v := ?_) (a' := ?_) #[true, true, true, true, true, true, true, true, true, true, true, true, true, true, true, true, true, true, true, true, false, false] rfl rfl (any_of HT_.out (by kernel_rfl)) (fun _ _ _ h => h) (Or.inl ⟨by rfl, ?_⟩) ?_ ?_
         rotate_left
         ·intro w'
          go_simp
          with_reducible rfl
         rotate_left
         ·simp only [Act.put, q1_, q2_, q3_, i64_w, i32_w]
          rfl
         refine pure_ (i := 20) (N := some 53) (v := ?_) (a' := ?_) #[true, true, true, true, true, true, true, true, true, true, true, true, true, true, true, true, true, true, true, true, true, false] rfl rfl (any_of HT_.out (by kernel_rfl)) (fun _ _ _ h => h) (Or.inl ⟨by rfl, ?_⟩) ?_ ?_
         rotate_left
         ·intro w'
          go_simp
          with_reducible rfl
         rotate_left
         ·simp only [Act.put, q1_, q2_, q3_, i64_w, i32_w]
          rfl
         refine last_ (i := 21) (N := none) #[true, true, true, true, true, true, true, true, true, true, true, true, true, true, true, true, true, true, true, true, true, true] rfl rfl (one_of HT_.out (by kernel_rfl)) (by decide) (fun K hK => ?_)
         have hs19 : w18.cell? ⟨gb189, 1, none⟩ = some (.int .i64 x190001_1) := (blk_cell BK189.out 1).trans rfl
         have hfs19 := blk_frozen BK189.out 1
         have hns19_0 := NB187_189.out
         have hns19_1 := NB188_189.out
         have hms19_0 := NB189_187.out
         have hms19_1 := NB189_188.out
         refine skip_ (w1 := ?_) (by rfl) rfl ?_ ?_
         rotate_left
         ·go_simp
          rfl
         refine hK.out _ _ ?_
         clear hK K
         refine done_ (done_of HT_.out (by kernel_rfl)) ?_
         try go_wp2
         go_roundg k1
         case measure => have := HK1.out; omega
         case rel => exact ⟨(false), (wrap64 (x7_1 + 1)), (IntKind.u64.wrap (x190000_1 + ((rd_T44 l1 x7_1).f1))), (wrap64 (x190001_1 + (wrap64 ((rd ((rd_T44 l1 x7_1).f0.f2) a0_1) * (wrap64 ((rd_T44 l1 x7_1).f1)))))), (x190002_1), (u190002), (by first | rfl | (simp; done) | (simp [*]; done)), (by first | rfl | (simp; done) | (simp [*]; done)), H', ⟨by have := HK1.out; omega⟩, ⟨by (with_reducible repeat (first | apply Kd.R_alloc | apply Kd.R_drewN | apply Kd.R_drew)); exact Kd.R_mono (Kd.R_far (p := ⟨gb189, 1, none⟩) (Kd.R_types HO_190002.out BK189.out (by decide)) (fun _ hk => hk.2) (.int .i64 (wrap64 (x190001_1 + (wrap64 ((rd ((rd_T44 l1 x7_1).f0.f2) a0_1) * (wrap64 ((rd_T44 l1 x7_1).f1)))))))) (fun _ hk => trivial)⟩, ⟨by (with_reducible repeat (first | refine blk_drewN ?_ _ | refine blk_drew ?_ | refine blk_alloc ?_ _)); refine blk_far ?_ NB187_189.out _; (with_reducible repeat (first | refine blk_drewN ?_ _ | refine blk_drew ?_ | refine blk_alloc ?_ _)); exact BK187.out⟩, ⟨by (with_reducible repeat (first | refine blk_drewN ?_ _ | refine blk_drew ?_ | refine blk_alloc ?_ _)); refine blk_far ?_ NB188_189.out _; (with_reducible repeat (first | refine blk_drewN ?_ _ | refine blk_drew ?_ | refine blk_alloc ?_ _)); exact BK188.out⟩, ⟨by (with_reducible repeat (first | refine blk_drewN ?_ _ | refine blk_drew ?_ | refine blk_alloc ?_ _)); refine blk_put (cs := #[.int .u64 (IntKind.u64.wrap (x190000_1 + ((rd_T44 l1 x7_1).f1))), .int .i64 x190001_1, u190002]) ?_ 1 _ rfl; (with_reducible repeat (first | refine blk_drewN ?_ _ | refine blk_drew ?_ | refine blk_alloc ?_ _)); exact BK189.out⟩, ⟨by repeat (first | (with_reducible first | exact HB.out | apply below_alloc | apply pw_below_drewN | apply below_drew1 | refine below_set ?_ GE187.out | refine below_set ?_ GE188.out | refine below_set ?_ GE189.out) | exact HB.out)⟩⟩
        ·rw [if_neg c11] at H
         exact absurd H (by simp)
       ·rw [if_neg c10] at H
        exact absurd H (by simp)
      ·rw [if_neg c9] at H
       have c9b0 : (a0_0 == 2) = false := beq_eq_false_iff_ne.mpr c9
       have c9b1 : (a0_0 != 2) = true := bne_iff_ne.mpr c9
       by_cases c20 : a0_0 = 3
       ·rw [if_pos c20] at H
        have c20b0 : (a0_0 == 3) = true := beq_iff_eq.mpr c20
        have c20b1 : (a0_0 != 3) = false := bne_eq_false_iff_eq.mpr c20
        clear c20
        by_cases c21 : x6_1 = true
        ·subst c21
         have H1 : (if 0 ≤ a0_1 then (if a0_1 < (((rd_T44 l1 x7_1).f0.f2).length : Int) then (gristmillref06_Of.l0 k1 l1 false (wrap64 (x7_1 + 1)) a0_0 a0_1 (IntKind.u64.wrap (x190000_1 + ((rd_T44 l1 x7_1).f1))) (rd ((rd_T44 l1 x7_1).f0.f2) a0_1) x190002_1) else (none)) else (none)) = some (r1, r2, r3) := by rw [if_pos rfl] at H; exact H
         clear H
         have H := H1
         clear H1
         by_cases c22 : 0 ≤ a0_1
         ·rw [if_pos c22] at H
          have c22b0 : decide (0 ≤ a0_1) = true := decide_eq_true c22
          clear c22
          by_cases c23 : a0_1 < (((rd_T44 l1 x7_1).f0.f2).length : Int)
          ·rw [if_pos c23] at H
           have c23b0 : decide (a0_1 < (((rd_T44 l1 x7_1).f0.f2).length : Int)) = true := decide_eq_true c23
           clear c23
           have H' := Aside0.mk H
           clear H
           have p190 : 0 ≤ (x7_1 : Int) := of_decide_eq_true (by assumption)
           have q190 : x7_1 < (l1.length : Int) := of_decide_eq_true (by assumption)
           obtain ⟨ad190, A190_1, c190_1, A190_2, c190_2, e190, hx190_0, hx190_1, hx190_2, hx190_3, hl190_1, hi190_1, hl190_2, hi190_2⟩ := at_T44 HR1.out x7_1 p190 q190
           cases e190
           replace hx190_0 := pw_cell_below HB.out hx190_0
           replace hx190_1 := pw_cell_below HB.out hx190_1
           replace hx190_2 := pw_cell_below HB.out hx190_2
           replace hx190_3 := pw_cell_below HB.out hx190_3
           have HR190_1 := Aside0.mk hi190_1
           have HC190_1 := Aside0.mk hl190_1
           clear hi190_1 hl190_1
           have HR190_2 := Aside0.mk hi190_2
           have HC190_2 := Aside0.mk hl190_2
           clear hi190_2 hl190_2
           replace p190 := eq_true p190
           replace q190 := eq_true q190
           try go_wp2
           have n0_ := Aside0.mk (Kd.R_drew HO_190002.out)
           have n1_ := Aside0.mk (blk_drew BK187.out)
           have n2_ := Aside0.mk (blk_drew BK188.out)
           have n3_ := Aside0.mk (blk_drew BK189.out)
           have n4_ := Aside0.mk (below_drew1 HB.out)
           clear HO_190002
           clear BK187
           clear BK188
           clear BK189
           clear HB
           have HO_190002 := n0_
           have BK187 := n1_
           have BK188 := n2_
           have BK189 := n3_
           have HB := n4_
           clear n0_ n1_ n2_ n3_ n4_
           have p191 : 0 ≤ (x7_1 : Int) := of_decide_eq_true (by assumption)
           have q191 : x7_1 < (l1.length : Int) := of_decide_eq_true (by assumption)
           obtain ⟨ad191, A191_1, c191_1, A191_2, c191_2, e191, hx191_0, hx191_1, hx191_2, hx191_3, hl191_1, hi191_1, hl191_2, hi191_2⟩ := at_T44 HR1.out x7_1 p191 q191
           have hw191_3 := hx191_3
           have hw191_2 := hx191_2
           have hw191_1 := hx191_1
           have hw191_0 := hx191_0
           obtain rfl : ad190 = ad191 := (by injection e191)
           replace hx191_0 := pw_cell_below HB.out hx191_0
           replace hx191_1 := pw_cell_below HB.out hx191_1
           replace hx191_2 := pw_cell_below HB.out hx191_2
           replace hx191_3 := pw_cell_below HB.out hx191_3
           have HR191_1 := Aside0.mk hi191_1
           have HC191_1 := Aside0.mk hl191_1
           clear hi191_1 hl191_1
           have HR191_2 := Aside0.mk hi191_2
           have HC191_2 := Aside0.mk hl191_2
           clear hi191_2 hl191_2
           replace p191 := eq_true p191
           replace q191 := eq_true q191
           refine start_ (n := 10) (S := fun w' => w'.cell? ⟨gb189, 0, none⟩ = some (.int .u64 x190000_1) ∧ w'.cell? ⟨gb189, 1, none⟩ = some (.int .i64 x190001_1) ∧ w'.cell? ⟨gb189, 2, none⟩ = some (u190002) ∧ w'.cell? (ad190.add ((x7_1).toNat * 4)) = some (.int .i64 ((rd_T44 l1 x7_1).f0.f0)) ∧ w'.cell? ⟨(ad190.add ((x7_1).toNat * 4)).block, (ad190.add ((x7_1).toNat * 4)).off + 1, none⟩ = some (.slice A191_1 ((rd_T44 l1 x7_1).f0.f1).length c191_1) ∧ w'.cell? ⟨(ad190.add ((x7_1).toNat * 4)).block, (ad190.add ((x7_1).toNat * 4)).off + 2, none⟩ = some (.slice A191_2 ((rd_T44 l1 x7_1).f0.f2).length c191_2) ∧ w'.cell? ⟨(ad190.add ((x7_1).toNat * 4)).block, (ad190.add ((x7_1).toNat * 4)).off + 3, none⟩ = some (.int .u64 ((rd_T44 l1 x7_1).f1))) (ds := [9]) #[false, false, false, false, false, false, false, false, false, false] (by kernel_rfl) rfl rfl ⟨(blk_cell BK189.out 0).trans rfl, (blk_cell BK189.out 1).trans rfl, (blk_cell BK189.out 2).trans rfl, (pw_cell_below HB.out hw191_0), (pw_cell_below HB.out hw191_1), (pw_cell_below HB.out hw191_2), (pw_cell_below HB.out hw191_3)⟩ (fun hHeld => ?_); refine with_tabW gristmillref06_Of.tab7 gristmillref06_Of.bits7 (fun HT_ HW_ => ?_)
           generalize wr.drew = w24 at HO_190002 BK187 BK188 BK189 HB HR191_1 HR191_2 hx191_0 hx191_1 hx191_2 hx191_3 hHeld ⊢
           refine pure_ (i := 0) (N := some 20) (v := ?_) (a' := ?_) #[true, false, false, false, false, false, false, false, false, false] rfl rfl (any_of HT_.out (by kernel_rfl)) (fun _ _ _ h => h) (Or.inl ⟨by rfl, ?_⟩) ?_ ?_
           rotate_left
           ·intro w'
            go_simp
            with_reducible rfl
           rotate_left
           ·simp only [Act.put, q1_, q2_, q3_, i64_w, i32_w]
            rfl
           refine pure_ (i := 2) (N := some 22) (v := ?_) (a' := ?_) #[true, false, true, false, false, false, false, false, false, false] rfl rfl (any_of HT_.out (by kernel_rfl)) (fun _ _ _ h => h) (Or.inl ⟨by rfl, ?_⟩) ?_ ?_
           rotate_left
           ·intro w'
            go_simp
            with_reducible rfl
           rotate_left
           ·simp only [Act.put, q1_, q2_, q3_, i64_w, i32_w]
            rfl
           refine pure_ (i := 3) (N := some 23) (v := ?_) (a' := ?_) #[true, false, true, true, false, false, false, false, false, false] rfl rfl (any_of HT_.out (by kernel_rfl)) (fun _ _ _ h => h) (Or.inl ⟨by rfl, ?_⟩) ?_ ?_
           rotate_left
           ·intro w'
            go_simp
            with_reducible rfl
           rotate_left
           ·simp only [Act.put, q1_, q2_, q3_, i64_w, i32_w]
            rfl
           refine pure_ (i := 4) (N := some 24) (v := ?_) (a' := ?_) #[true, false, true, true, true, false, false, false, false, false] rfl rfl (any_of HT_.out (by kernel_rfl)) (fun _ _ _ h => h) (Or.inl ⟨by rfl, ?_⟩) ?_ ?_
           rotate_left
           ·intro w'
            go_simp
            with_reducible rfl
           rotate_left
           ·simp only [Act.put, q1_, q2_, q3_, i64_w, i32_w]
            rfl
           refine pure_ (i := 5) (N := some 25) (v := ?_) (a' := ?_) #[true, false, true, true, true, true, false, false, false, false] rfl rfl (any_of HT_.out (by kernel_rfl)) (fun _ _ _ h => h) (Or.inl ⟨by rfl, ?_⟩) ?_ ?_
           rotate_left
           ·intro w'
            go_simp
            with_reducible rfl
           rotate_left
           ·simp only [Act.put, q1_, q2_, q3_, i64_w, i32_w]
            rfl
           refine take_ (i := 1) (N := some 21) (v := ?_) (a' := ?_) #[true, true, true, true, true, true, false, false, false, false] rfl rfl (take_ofW HT_.out HW_.out (by kernel_rfl)) (fun _ _ _ h => h) (Or.inl ⟨by rfl, ?_⟩) hHeld ?_ ?_
           rotate_left
           ·rintro w' ⟨s0, s1, s2, s3, s4, s5, s6⟩
            go_simp
            with_reducible rfl
           rotate_left
           ·simp only [Act.put, q1_, q2_, q3_, i64_w, i32_w]
            rfl
           refine take_ (i := 6) (N := some 26) (v := ?_) (a' := ?_) #[true, true, true, true, true, true, true, false, false, false] rfl rfl (take_ofW HT_.out HW_.out (by kernel_rfl)) (fun _ _ _ h => h) (Or.inl ⟨by rfl, ?_⟩) hHeld ?_ ?_
           rotate_left
           ·rintro w' ⟨s0, s1, s2, s3, s4, s5, s6⟩
            go_simp
            with_reducible rfl
           rotate_left
           ·simp only [Act.put, q1_, q2_, q3_, i64_w, i32_w]
            rfl
           refine pure_ (i := 7) (N := some 27) (v := ?_) (a' := ?_) #[true, true, true, true, true, true, true, true, false, false] rfl rfl (any_of HT_.out (by kernel_rfl)) (fun _ _ _ h => h) (Or.inl ⟨by rfl, ?_⟩) ?_ ?_
           rotate_left
           ·intro w'
            go_simp
            with_reducible rfl
           rotate_left
           ·simp only [Act.put, q1_, q2_, q3_, i64_w, i32_w]
            rfl
           refine pure_ (i := 8) (N := some 28) (v := ?_) (a' := ?_) #[true, true, true, true, true, true, true, true, true, false] rfl rfl (any_of HT_.out (by kernel_rfl)) (fun _ _ _ h => h) (Or.inl ⟨by rfl, ?_⟩) ?_ ?_
           rotate_left
           ·intro w'
            go_simp
            with_reducible rfl
           rotate_left
           ·simp only [Act.put, q1_, q2_, q3_, i64_w, i32_w]
            rfl
           refine last_ (i := 9) (N := none) #[true, true, true, true, true, true, true, true, true, true] rfl rfl (one_of HT_.out (by kernel_rfl)) (by decide) (fun K hK => ?_)
           have hs25 : w24.cell? ⟨gb189, 0, none⟩ = some (.int .u64 x190000_1) := (blk_cell BK189.out 0).trans rfl
           have hfs25 := blk_frozen BK189.out 0
           have hns25_0 := NB187_189.out
           have hns25_1 := NB188_189.out
           have hms25_0 := NB189_187.out
           have hms25_1 := NB189_188.out
           refine skip_ (w1 := ?_) (by rfl) rfl ?_ ?_
           rotate_left
           ·go_simp
            rfl
           refine hK.out _ _ ?_
           clear hK K
           refine done_ (done_of HT_.out (by kernel_rfl)) ?_
           have hnb26 := NB187_188.out
           have hnc26 := NB188_187.out
           have hnb27 := NB187_189.out
           have hnc27 := NB189_187.out
           have hcz28_0 : w24.cell? ⟨gb187, 0, none⟩ = some (.int .i64 a0_0) := (blk_cell BK187.out 0).trans rfl
           have hcz28_1 : w24.cell? ⟨gb187, 1, none⟩ = some (.int .i64 a0_1) := (blk_cell BK187.out 1).trans rfl
           have hfz28_0 := blk_frozen BK187.out 0
           have hfz28_1 := blk_frozen BK187.out 1
           try go_wp2
           have n0_ : Aside0 (Kd.R Kd.string 9 (w24.setCell ⟨gb189, 0, none⟩ (.int .u64 (IntKind.u64.wrap (x190000_1 + ((rd_T44 l1 x7_1).f1))))) w.heap.size (fun _ => True) u190002 x190002_1) := ⟨by (with_reducible repeat (first | apply Kd.R_alloc | apply Kd.R_drewN | apply Kd.R_drew)); exact Kd.R_mono (Kd.R_far (p := ⟨gb189, 0, none⟩) (Kd.R_types HO_190002.out BK189.out (by decide)) (fun _ hk => hk.2) (.int .u64 (IntKind.u64.wrap (x190000_1 + ((rd_T44 l1 x7_1).f1))))) (fun _ hk => trivial)⟩
           have n1_ : Aside0 ((w24.setCell ⟨gb189, 0, none⟩ (.int .u64 (IntKind.u64.wrap (x190000_1 + ((rd_T44 l1 x7_1).f1))))).heap[gb187]? = some (.cells #[.int .i64 a0_0, .int .i64 a0_1] 23 (0, 0))) := ⟨by (with_reducible repeat (first | refine blk_drewN ?_ _ | refine blk_drew ?_ | refine blk_alloc ?_ _)); refine blk_far ?_ NB187_189.out _; (with_reducible repeat (first | refine blk_drewN ?_ _ | refine blk_drew ?_ | refine blk_alloc ?_ _)); exact BK187.out⟩
           have n2_ : Aside0 ((w24.setCell ⟨gb189, 0, none⟩ (.int .u64 (IntKind.u64.wrap (x190000_1 + ((rd_T44 l1 x7_1).f1))))).heap[gb188]? = some (.cells #[.int .u64 0, .int .i64 0, .slice none 0 0] 33 (0, 0))) := ⟨by (with_reducible repeat (first | refine blk_drewN ?_ _ | refine blk_drew ?_ | refine blk_alloc ?_ _)); refine blk_far ?_ NB188_189.out _; (with_reducible repeat (first | refine blk_drewN ?_ _ | refine blk_drew ?_ | refine blk_alloc ?_ _)); exact BK188.out⟩
           have n3_ : Aside0 ((w24.setCell ⟨gb189, 0, none⟩ (.int .u64 (IntKind.u64.wrap (x190000_1 + ((rd_T44 l1 x7_1).f1))))).heap[gb189]? = some (.cells #[.int .u64 (IntKind.u64.wrap (x190000_1 + ((rd_T44 l1 x7_1).f1))), .int .i64 x190001_1, u190002] 33 (0, 0))) := ⟨by (with_reducible repeat (first | refine blk_drewN ?_ _ | refine blk_drew ?_ | refine blk_alloc ?_ _)); refine blk_put (cs := #[.int .u64 x190000_1, .int .i64 x190001_1, u190002]) ?_ 0 _ rfl; (with_reducible repeat (first | refine blk_drewN ?_ _ | refine blk_drew ?_ | refine blk_alloc ?_ _)); exact BK189.out⟩
           have n4_ : Aside0 (Below w.heap.size w (w24.setCell ⟨gb189, 0, none⟩ (.int .u64 (IntKind.u64.wrap (x190000_1 + ((rd_T44 l1 x7_1).f1)))))) := ⟨by repeat (first | (with_reducible first | exact HB.out | apply below_alloc | apply pw_below_drewN | apply below_drew1 | refine below_set ?_ GE187.out | refine below_set ?_ GE188.out | refine below_set ?_ GE189.out) | exact HB.out)⟩
           (try clear HO_190002)
           (try clear BK187)
           (try clear BK188)
           (try clear BK189)
           (try clear HB)
           generalize (w24.setCell ⟨gb189, 0, none⟩ (.int .u64 (IntKind.u64.wrap (x190000_1 + ((rd_T44 l1 x7_1).f1))))) = w29 at n0_ n1_ n2_ n3_ n4_ ⊢
           have HO_190002 := n0_
           have BK187 := n1_
           have BK188 := n2_
           have BK189 := n3_
           have HB := n4_
           clear n0_ n1_ n2_ n3_ n4_
           have n0_ := Aside0.mk (Kd.R_drew HO_190002.out)
           have n1_ := Aside0.mk (blk_drew BK187.out)
           have n2_ := Aside0.mk (blk_drew BK188.out)
           have n3_ := Aside0.mk (blk_drew BK189.out)
           have n4_ := Aside0.mk (below_drew1 HB.out)
           clear HO_190002
           clear BK187
           clear BK188
           clear BK189
           clear HB
           have HO_190002 := n0_
           have BK187 := n1_
           have BK188 := n2_
           have BK189 := n3_
           have HB := n4_
           clear n0_ n1_ n2_ n3_ n4_
           refine start_ (n := 16) (S := fun w' => True) (ds := []) #[false, false, false, false, false, false, false, false, false, false, false, false, false, false, false, false] (by kernel_rfl) rfl rfl trivial (fun hHeld => ?_); refine with_tabW gristmillref06_Of.tab12 gristmillref06_Of.bits12 (fun HT_ HW_ => ?_)
           generalize w29.drew = w30 at HO_190002 BK187 BK188 BK189 HB hHeld ⊢
           refine pure_ (i := 0) (N := some 56) (v := ?_) (a' := ?_) #[true, false, false, false, false, false, false, false, false, false, false, false, false, false, false, false] rfl rfl (any_of HT_.out (by kernel_rfl)) (fun _ _ _ h => h) (Or.inl ⟨by rfl, ?_⟩) ?_ ?_
           rotate_left
           ·intro w'
            go_simp
            with_reducible rfl
           rotate_left
           ·simp only [Act.put, q1_, q2_, q3_, i64_w, i32_w]
            rfl
           refine pure_ (i := 1) (N := some 57) (v := ?_) (a' := ?_) #[true, true, false, false, false, false, false, false, false, false, false, false, false, false, false, false] rfl rfl (any_of HT_.out (by kernel_rfl)) (fun _ _ _ h => h) (Or.inl ⟨by rfl, ?_⟩) ?_ ?_
           rotate_left
           ·intro w'
            go_simp
            with_reducible rfl
           rotate_left
           ·simp only [Act.put, q1_, q2_, q3_, i64_w, i32_w]
            rfl
           refine pure_ (i := 2) (N := some 58) (v := undef) (a' := ?_) #[true, true, true, false, false, false, false, false, false, false, false, false, false, false, false, false] rfl rfl (any_of HT_.out (by kernel_rfl)) (fun _ _ _ h => h) (Or.inr ⟨by rfl, rfl⟩) ?_ ?_
           rotate_left
           ·simp only [Act.put, q1_, q2_, q3_, i64_w, i32_w]
            rfl
           refine pure_ (i := 3) (N := some 59) (v := undef) (a' := ?_) #[true, true, true, true, false, false, false, false, false, false, false, false, false, false, false, false] rfl rfl (any_of HT_.out (by kernel_rfl)) (fun _ _ _ h => h) (Or.inr ⟨by rfl, rfl⟩) ?_ ?_
           rotate_left
           ·simp only [Act.put, q1_, q2_, q3_, i64_w, i32_w]
            rfl
           refine pure_ (i := 4) (N := some 60) (v := undef) (a' := ?_) #[true, true, true, true, true, false, false, false, false, false, false, false, false, false, false, false] rfl rfl (any_of HT_.out (by kernel_rfl)) (fun _ _ _ h => h) (Or.inr ⟨by rfl, rfl⟩) ?_ ?_
           rotate_left
           ·simp only [Act.put, q1_, q2_, q3_, i64_w, i32_w]
            rfl
           refine pure_ (i := 5) (N := some 61) (v := undef) (a' := ?_) #[true, true, true, true, true, true, false, false, false, false, false, false, false, false, false, false] rfl rfl (any_of HT_.out (by kernel_rfl)) (fun _ _ _ h => h) (Or.inr ⟨by rfl, rfl⟩) ?_ ?_
           rotate_left
           ·simp only [Act.put, q1_, q2_, q3_, i64_w, i32_w]
            rfl
           refine pure_ (i := 6) (N := some 62) (v := undef) (a' := ?_) #[true, true, true, true, true, true, true, false, false, false, false, false, false, false, false, false] rfl rfl (any_of HT_.out (by kernel_rfl)) (fun _ _ _ h => h) (Or.inr ⟨by rfl, rfl⟩) ?_ ?_
           rotate_left
           ·simp only [Act.put, q1_, q2_, q3_, i64_w, i32_w]
            rfl
           refine pure_ (i := 7) (N := some 63) (v := undef) (a' := ?_) #[true, true, true, true, true, true, true, true, false, false, false, false, false, false, false, false] rfl rfl (any_of HT_.out (by kernel_rfl)) (fun _ _ _ h => h) (Or.inr ⟨by rfl, rfl⟩) ?_ ?_
           rotate_left
           ·simp only [Act.put, q1_, q2_, q3_, i64_w, i32_w]
            rfl
           refine pure_ (i := 8) (N := some 64) (v := undef) (a' := ?_) #[true, true, true, true, true, true, true, true, true, false, false, false, false, false, false, false] rfl rfl (any_of HT_.out (by kernel_rfl)) (fun _ _ _ h => h) (Or.inr ⟨by rfl, rfl⟩) ?_ ?_
           rotate_left
           ·simp only [Act.put, q1_, q2_, q3_, i64_w, i32_w]
            rfl
           refine pure_ (i := 9) (N := some 65) (v := undef) (a' := ?_) #[true, true, true, true, true, true, true, true, true, true, false, false, false, false, false, false] rfl rfl (any_of HT_.out (by kernel_rfl)) (fun _ _ _ h => h) (Or.inr ⟨by rfl, rfl⟩) ?_ ?_
           rotate_left
           ·simp only [Act.put, q1_, q2_, q3_, i64_w, i32_w]
            rfl
           refine pure_ (i := 10) (N := some 66) (v := undef) (a' := ?_) #[true, true, true, true, true, true, true, true, true, true, true, false, false, false, false, false] rfl rfl (any_of HT_.out (by kernel_rfl)) (fun _ _ _ h => h) (Or.inr ⟨by rfl, rfl⟩) ?_ ?_
           rotate_left
           ·simp only [Act.put, q1_, q2_, q3_, i64_w, i32_w]
            rfl
           refine pure_ (i := 11) (N := some 67) (v := undef) (a' := ?_) #[true, true, true, true, true, true, true, true, true, true, true, true, false, false, false, false] rfl rfl (any_of HT_.out (by kernel_rfl)) (fun _ _ _ h => h) (Or.inr ⟨by rfl, rfl⟩) ?_ ?_
           rotate_left
           ·simp only [Act.put, q1_, q2_, q3_, i64_w, i32_w]
            rfl
           refine pure_ (i := 12) (N := some 68) (v := undef) (a' := ?_) #[true, true, true, true, true, true, true, true, true, true, true, true, true, false, false, false] rfl rfl (any_of HT_.out (by kernel_rfl)) (fun _ _ _ h => h) (Or.inr ⟨by rfl, rfl⟩) ?_ ?_
           rotate_left
           ·simp only [Act.put, q1_, q2_, q3_, i64_w, i32_w]
            rfl
           refine pure_ (i := 13) (N := some 69) (v := undef) (a' := ?_) #[true, true, true, true, true, true, true, true, true, true, true, true, true, true, false, false] rfl rfl (any_of HT_.out (by kernel_rfl)) (fun _ _ _ h => h) (Or.inr ⟨by rfl, rfl⟩) ?_ ?_
           rotate_left
           ·simp only [Act.put, q1_, q2_, q3_, i64_w, i32_w]
            rfl
           refine pure_ (i := 14) (N := some 70) (v := undef) (a' := ?_) #[true, true, true, true, true, true, true, true, true, true, true, true, true, true, true, false] rfl rfl (any_of HT_.out (by kernel_rfl)) (fun _ _ _ h => h) (Or.inr ⟨by rfl, rfl⟩) ?_ ?_
           rotate_left
           ·simp only [Act.put, q1_, q2_, q3_, i64_w, i32_w]
            rfl
           refine pure_ (i := 15) (N := some 71) (v := ?_) (a' := ?_) #[true, true, true, true, true, true, true, true, true, true, true, true, true, true, true, true] rfl rfl (any_of HT_.out (by kernel_rfl)) (fun _ _ _ h => h) (Or.inl ⟨by rfl, ?_⟩) ?_ ?_
           rotate_left
           ·intro w'
            go_simp
            with_reducible rfl
           rotate_left
           ·simp only [Act.put, q1_, q2_, q3_, i64_w, i32_w]
            rfl
           refine done_ (done_of HT_.out (by kernel_rfl)) ?_
           try go_wp2
           have n0_ := Aside0.mk (Kd.R_drew HO_190002.out)
           have n1_ := Aside0.mk (blk_drew BK187.out)
           have n2_ := Aside0.mk (blk_drew BK188.out)
           have n3_ := Aside0.mk (blk_drew BK189.out)
           have n4_ := Aside0.mk (below_drew1 HB.out)
           clear HO_190002
           clear BK187
           clear BK188
           clear BK189
           clear HB
           have HO_190002 := n0_
           have BK187 := n1_
           have BK188 := n2_
           have BK189 := n3_
           have HB := n4_
           clear n0_ n1_ n2_ n3_ n4_
           have p195 : 0 ≤ (x7_1 : Int) := of_decide_eq_true (by assumption)
           have q195 : x7_1 < (l1.length : Int) := of_decide_eq_true (by assumption)
           obtain ⟨ad195, A195_1, c195_1, A195_2, c195_2, e195, hx195_0, hx195_1, hx195_2, hx195_3, hl195_1, hi195_1, hl195_2, hi195_2⟩ := at_T44 HR1.out x7_1 p195 q195
           have hw195_3 := hx195_3
           have hw195_2 := hx195_2
           have hw195_1 := hx195_1
           have hw195_0 := hx195_0
           obtain rfl : ad190 = ad195 := (by injection e195)
           replace hx195_0 := pw_cell_below HB.out hx195_0
           replace hx195_1 := pw_cell_below HB.out hx195_1
           replace hx195_2 := pw_cell_below HB.out hx195_2
           replace hx195_3 := pw_cell_below HB.out hx195_3
           have HR195_1 := Aside0.mk hi195_1
           have HC195_1 := Aside0.mk hl195_1
           clear hi195_1 hl195_1
           have HR195_2 := Aside0.mk hi195_2
           have HC195_2 := Aside0.mk hl195_2
           clear hi195_2 hl195_2
           replace p195 := eq_true p195
           replace q195 := eq_true q195
           have p196 : 0 ≤ (a0_1 : Int) := of_decide_eq_true (by assumption)
           have q196 : a0_1 < (((rd_T44 l1 x7_1).f0.f2).length : Int) := of_decide_eq_true (by assumption)
           obtain ⟨ad196, e196, hx196_0⟩ := Kd.at_int HR195_2.out a0_1 p196 q196
           have hw196_0 := hx196_0
           cases e196
           replace hx196_0 := pw_cell_below HB.out hx196_0
           replace p196 := eq_true p196
           replace q196 := eq_true q196
           refine start_ (n := 12) (S := fun w' => w'.cell? ⟨gb187, 0, none⟩ = some (.int .i64 a0_0) ∧ w'.cell? ⟨gb187, 1, none⟩ = some (.int .i64 a0_1) ∧ w'.cell? (ad190.add ((x7_1).toNat * 4)) = some (.int .i64 ((rd_T44 l1 x7_1).f0.f0)) ∧ w'.cell? ⟨(ad190.add ((x7_1).toNat * 4)).block, (ad190.add ((x7_1).toNat * 4)).off + 1, none⟩ = some (.slice A195_1 ((rd_T44 l1 x7_1).f0.f1).length c195_1) ∧ w'.cell? ⟨(ad190.add ((x7_1).toNat * 4)).block, (ad190.add ((x7_1).toNat * 4)).off + 2, none⟩ = some (.slice (some ad196) ((rd_T44 l1 x7_1).f0.f2).length c195_2) ∧ w'.cell? ⟨(ad190.add ((x7_1).toNat * 4)).block, (ad190.add ((x7_1).toNat * 4)).off + 3, none⟩ = some (.int .u64 ((rd_T44 l1 x7_1).f1)) ∧ w'.cell? (ad196.add (a0_1).toNat) = some (.int .i64 (rd ((rd_T44 l1 x7_1).f0.f2) a0_1))) (ds := []) #[false, false, false, false, false, false, false, false, false, false, false, false] (by kernel_rfl) rfl rfl ⟨(blk_cell BK187.out 0).trans rfl, (blk_cell BK187.out 1).trans rfl, (pw_cell_below HB.out hw195_0), (pw_cell_below HB.out hw195_1), (pw_cell_below HB.out hw195_2), (pw_cell_below HB.out hw195_3), (pw_cell_below HB.out hw196_0)⟩ (fun hHeld => ?_); refine with_tabW gristmillref06_Of.tab13 gristmillref06_Of.bits13 (fun HT_ HW_ => ?_)
           generalize w30.drew = w31 at HO_190002 BK187 BK188 BK189 HB HR195_1 HR195_2 hx195_0 hx195_1 hx195_2 hx195_3 hx196_0 hHeld ⊢
           refine pure_ (i := 0) (N := some 72) (v := ?_) (a' := ?_) #[true, false, false, false, false, false, false, false, false, false, false, false] rfl rfl (any_of HT_.out (by kernel_rfl)) (fun _ _ _ h => h) (Or.inl ⟨by rfl, ?_⟩) ?_ ?_
           rotate_left
           ·intro w'
            go_simp
            with_reducible rfl
           rotate_left
           ·simp only [Act.put, q1_, q2_, q3_, i64_w, i32_w]
            rfl
           refine pure_ (i := 1) (N := some 73) (v := ?_) (a' := ?_) #[true, true, false, false, false, false, false, false, false, false, false, false] rfl rfl (any_of HT_.out (by kernel_rfl)) (fun _ _ _ h => h) (Or.inl ⟨by rfl, ?_⟩) ?_ ?_
           rotate_left
           ·intro w'
            go_simp
            with_reducible rfl
           rotate_left
           ·simp only [Act.put, q1_, q2_, q3_, i64_w, i32_w]
            rfl
           refine pure_ (i := 2) (N := some 74) (v := ?_) (a' := ?_) #[true, true, true, false, false, false, false, false, false, false, false, false] rfl rfl (any_of HT_.out (by kernel_rfl)) (fun _ _ _ h => h) (Or.inl ⟨by rfl, ?_⟩) ?_ ?_
           rotate_left
           ·intro w'
            go_simp
            with_reducible rfl
           rotate_left
           ·simp only [Act.put, q1_, q2_, q3_, i64_w, i32_w]
            rfl
           refine pure_ (i := 3) (N := some 75) (v := ?_) (a' := ?_) #[true, true, true, true, false, false, false, false, false, false, false, false] rfl rfl (any_of HT_.out (by kernel_rfl)) (fun _ _ _ h => h) (Or.inl ⟨by rfl, ?_⟩) ?_ ?_
           rotate_left
           ·intro w'
            go_simp
            with_reducible rfl
           rotate_left
           ·simp only [Act.put, q1_, q2_, q3_, i64_w, i32_w]
            rfl
           refine pure_ (i := 4) (N := some 76) (v := ?_) (a' := ?_) #[true, true, true, true, true, false, false, false, false, false, false, false] rfl rfl (any_of HT_.out (by kernel_rfl)) (fun _ _ _ h => h) (Or.inl ⟨by rfl, ?_⟩) ?_ ?_
           rotate_left
           ·intro w'
            go_simp
            with_reducible rfl
           rotate_left
           ·simp only [Act.put, q1_, q2_, q3_, i64_w, i32_w]
            rfl
           refine pure_ (i := 6) (N := some 78) (v := ?_) (a' := ?_) #[true, true, true, true, true, false, true, false, false, false, false, false] rfl rfl (any_of HT_.out (by kernel_rfl)) (fun _ _ _ h => h) (Or.inl ⟨by rfl, ?_⟩) ?_ ?_
           rotate_left
           ·intro w'
            go_simp
            with_reducible rfl
           rotate_left
           ·simp only [Act.put, q1_, q2_, q3_, i64_w, i32_w]
            rfl
           refine take_ (i := 5) (N := some 77) (v := ?_) (a' := ?_) #[true, true, true, true, true, true, true, false, false, false, false, false] rfl rfl (take_ofW HT_.out HW_.out (by kernel_rfl)) (fun _ _ _ h => h) (Or.inl ⟨by rfl, ?_⟩) hHeld ?_ ?_
           rotate_left
           ·rintro w' ⟨s0, s1, s2, s3, s4, s5, s6⟩
            go_simp
            with_reducible rfl
           rotate_left
           ·simp only [Act.put, q1_, q2_, q3_, i64_w, i32_w]
            rfl
           refine take_ (i := 7) (N := some 79) (v := ?_) (a' := ?_) #[true, true, true, true, true, true, true, true, false, false, false, false] rfl rfl (take_ofW HT_.out HW_.out (by kernel_rfl)) (fun _ _ _ h => h) (Or.inl ⟨by rfl, ?_⟩) hHeld ?_ ?_
           rotate_left
           ·rintro w' ⟨s0, s1, s2, s3, s4, s5, s6⟩
            go_simp
            with_reducible rfl
           rotate_left
           ·simp only [Act.put, q1_, q2_, q3_, i64_w, i32_w]
            rfl
           refine pure_ (i := 8) (N := some 80) (v := ?_) (a' := ?_) #[true, true, true, true, true, true, true, true, true, false, false, false] rfl rfl (any_of HT_.out (by kernel_rfl)) (fun _ _ _ h => h) (Or.inl ⟨by rfl, ?_⟩) ?_ ?_
           rotate_left
           ·intro w'
            go_simp
            with_reducible rfl
           rotate_left
           ·simp only [Act.put, q1_, q2_, q3_, i64_w, i32_w]
            rfl
           refine take_ (i := 9) (N := some 81) (v := ?_) (a' := ?_) #[true, true, true, true, true, true, true, true, true, true, false, false] rfl rfl (take_ofW HT_.out HW_.out (by kernel_rfl)) (fun _ _ _ h => h) (Or.inl ⟨by rfl, ?_⟩) hHeld ?_ ?_
           rotate_left
           ·rintro w' ⟨s0, s1, s2, s3, s4, s5, s6⟩
            go_simp
            with_reducible rfl
           rotate_left
           ·simp only [Act.put, q1_, q2_, q3_, i64_w, i32_w]
            rfl
           refine pure_ (i := 10) (N := some 82) (v := ?_) (a' := ?_) #[true, true, true, true, true, true, true, true, true, true, true, false] rfl rfl (any_of HT_.out (by kernel_rfl)) (fun _ _ _ h => h) (Or.inl ⟨by rfl, ?_⟩) ?_ ?_
           rotate_left
           ·intro w'
            go_simp
            with_reducible rfl
           rotate_left
           ·simp only [Act.put, q1_, q2_, q3_, i64_w, i32_w]
            rfl
           refine one_ (i := 11) (N := none) #[true, true, true, true, true, true, true, true, true, true, true, true] rfl rfl (one_of HT_.out (by kernel_rfl)) (by decide) (fun K hK => ?_)
           have hs32 : w31.cell? ⟨gb189, 1, none⟩ = some (.int .i64 x190001_1) := (blk_cell BK189.out 1).trans rfl
           have hfs32 := blk_frozen BK189.out 1
           have hns32_0 := NB187_189.out
           have hns32_1 := NB188_189.out
           have hms32_0 := NB189_187.out
           have hms32_1 := NB189_188.out
           refine skip_ (w1 := ?_) (by rfl) rfl ?_ ?_
           rotate_left
           ·go_simp
            rfl
           refine hK.out _ _ ⟨((cell_far (p := ⟨gb189, _, none⟩) NB187_189.out _).trans (hHeld.1)), ((cell_far (p := ⟨gb189, _, none⟩) NB187_189.out _).trans (hHeld.2.1)), ((cell_far (p := ⟨gb189, _, none⟩) (by first | exact Nat.ne_of_lt (Nat.lt_of_lt_of_le (by have := World.block_lt_of_cell? _ _ hw195_0; first | rwa [add_block] at this | exact this) GW189.out) | (rw [add_block]; exact Nat.ne_of_lt (Nat.lt_of_lt_of_le (by have := World.block_lt_of_cell? _ _ hw195_0; first | rwa [add_block] at this | exact this) GW189.out)) | (show (Addr.add _ _).block ≠ _; rw [add_block]; exact Nat.ne_of_lt (Nat.lt_of_lt_of_le (by have := World.block_lt_of_cell? _ _ hw195_0; first | rwa [add_block] at this | exact this) GW189.out)) | (dsimp only; exact Nat.ne_of_lt (Nat.lt_of_lt_of_le (by have := World.block_lt_of_cell? _ _ hw195_0; first | rwa [add_block] at this | exact this) GW189.out))) _).trans (hHeld.2.2.1)), ((cell_far (p := ⟨gb189, _, none⟩) (by first | exact Nat.ne_of_lt (Nat.lt_of_lt_of_le (by have := World.block_lt_of_cell? _ _ hw195_1; first | rwa [add_block] at this | exact this) GW189.out) | (rw [add_block]; exact Nat.ne_of_lt (Nat.lt_of_lt_of_le (by have := World.block_lt_of_cell? _ _ hw195_1; first | rwa [add_block] at this | exact this) GW189.out)) | (show (Addr.add _ _).block ≠ _; rw [add_block]; exact Nat.ne_of_lt (Nat.lt_of_lt_of_le (by have := World.block_lt_of_cell? _ _ hw195_1; first | rwa [add_block] at this | exact this) GW189.out)) | (dsimp only; exact Nat.ne_of_lt (Nat.lt_of_lt_of_le (by have := World.block_lt_of_cell? _ _ hw195_1; first | rwa [add_block] at this | exact this) GW189.out))) _).trans (hHeld.2.2.2.1)), ((cell_far (p := ⟨gb189, _, none⟩) (by first | exact Nat.ne_of_lt (Nat.lt_of_lt_of_le (by have := World.block_lt_of_cell? _ _ hw195_2; first | rwa [add_block] at this | exact this) GW189.out) | (rw [add_block]; exact Nat.ne_of_lt (Nat.lt_of_lt_of_le (by have := World.block_lt_of_cell? _ _ hw195_2; first | rwa [add_block] at this | exact this) GW189.out)) | (show (Addr.add _ _).block ≠ _; rw [add_block]; exact Nat.ne_of_lt (Nat.lt_of_lt_of_le (by have := World.block_lt_of_cell? _ _ hw195_2; first | rwa [add_block] at this | exact this) GW189.out)) | (dsimp only; exact Nat.ne_of_lt (Nat.lt_of_lt_of_le (by have := World.block_lt_of_cell? _ _ hw195_2; first | rwa [add_block] at this | exact this) GW189.out))) _).trans (hHeld.2.2.2.2.1)), ((cell_far (p := ⟨gb189, _, none⟩) (by first | exact Nat.ne_of_lt (Nat.lt_of_lt_of_le (by have := World.block_lt_of_cell? _ _ hw195_3; first | rwa [add_block] at this | exact this) GW189.out) | (rw [add_block]; exact Nat.ne_of_lt (Nat.lt_of_lt_of_le (by have := World.block_lt_of_cell? _ _ hw195_3; first | rwa [add_block] at this | exact this) GW189.out)) | (show (Addr.add _ _).block ≠ _; rw [add_block]; exact Nat.ne_of_lt (Nat.lt_of_lt_of_le (by have := World.block_lt_of_cell? _ _ hw195_3; first | rwa [add_block] at this | exact this) GW189.out)) | (dsimp only; exact Nat.ne_of_lt (Nat.lt_of_lt_of_le (by have := World.block_lt_of_cell? _ _ hw195_3; first | rwa [add_block] at this | exact this) GW189.out))) _).trans (hHeld.2.2.2.2.2.1)), ((cell_far (p := ⟨gb189, _, none⟩) (by first | exact Nat.ne_of_lt (Nat.lt_of_lt_of_le (by have := World.block_lt_of_cell? _ _ hw196_0; first | rwa [add_block] at this | exact this) GW189.out) | (rw [add_block]; exact Nat.ne_of_lt (Nat.lt_of_lt_of_le (by have := World.block_lt_of_cell? _ _ hw196_0; first | rwa [add_block] at this | exact this) GW189.out)) | (show (Addr.add _ _).block ≠ _; rw [add_block]; exact Nat.ne_of_lt (Nat.lt_of_lt_of_le (by have := World.block_lt_of_cell? _ _ hw196_0; first | rwa [add_block] at this | exact this) GW189.out)) | (dsimp only; exact Nat.ne_of_lt (Nat.lt_of_lt_of_le (by have := World.block_lt_of_cell? _ _ hw196_0; first | rwa [add_block] at this | exact this) GW189.out))) _).trans (hHeld.2.2.2.2.2.2))⟩ (fun hHeld => ?_)
           clear hK K
           refine done_ (done_of HT_.out (by kernel_rfl)) ?_
           try go_wp2
           go_roundg k1
           case measure => have := HK1.out; omega
           case rel => exact ⟨(false), (wrap64 (x7_1 + 1)), (IntKind.u64.wrap (x190000_1 + ((rd_T44 l1 x7_1).f1))), (rd ((rd_T44 l1 x7_1).f0.f2) a0_1), (x190002_1), (u190002), (by first | rfl | (simp; done) | (simp [*]; done)), (by first | rfl | (simp; done) | (simp [*]; done)), H', ⟨by have := HK1.out; omega⟩, ⟨by (with_reducible repeat (first | apply Kd.R_alloc | apply Kd.R_drewN | apply Kd.R_drew)); exact Kd.R_mono (Kd.R_far (p := ⟨gb189, 1, none⟩) (Kd.R_types HO_190002.out BK189.out (by decide)) (fun _ hk => hk.2) (.int .i64 (rd ((rd_T44 l1 x7_1).f0.f2) a0_1))) (fun _ hk => trivial)⟩, ⟨by (with_reducible repeat (first | refine blk_drewN ?_ _ | refine blk_drew ?_ | refine blk_alloc ?_ _)); refine blk_far ?_ NB187_189.out _; (with_reducible repeat (first | refine blk_drewN ?_ _ | refine blk_drew ?_ | refine blk_alloc ?_ _)); exact BK187.out⟩, ⟨by (with_reducible repeat (first | refine blk_drewN ?_ _ | refine blk_drew ?_ | refine blk_alloc ?_ _)); refine blk_far ?_ NB188_189.out _; (with_reducible repeat (first | refine blk_drewN ?_ _ | refine blk_drew ?_ | refine blk_alloc ?_ _)); exact BK188.out⟩, ⟨by (with_reducible repeat (first | refine blk_drewN ?_ _ | refine blk_drew ?_ | refine blk_alloc ?_ _)); refine blk_put (cs := #[.int .u64 (IntKind.u64.wrap (x190000_1 + ((rd_T44 l1 x7_1).f1))), .int .i64 x190001_1, u190002]) ?_ 1 _ rfl; (with_reducible repeat (first | refine blk_drewN ?_ _ | refine blk_drew ?_ | refine blk_alloc ?_ _)); exact BK189.out⟩, ⟨by repeat (first | (with_reducible first | exact HB.out | apply below_alloc | apply pw_below_drewN | apply below_drew1 | refine below_set ?_ GE187.out | refine below_set ?_ GE188.out | refine below_set ?_ GE189.out) | exact HB.out)⟩⟩
          ·rw [if_neg c23] at H
           exact absurd H (by simp)
         ·rw [if_neg c22] at H
          exact absurd H (by simp)
        ·replace c21 := Bool.eq_false_iff.mpr c21
         subst c21
         have H1 : (if 0 ≤ a0_1 then (if a0_1 < (((rd_T44 l1 x7_1).f0.f2).length : Int) then (if (rd ((rd_T44 l1 x7_1).f0.f2) a0_1) < x190001_1 then (gristmillref06_Of.l0 k1 l1 false (wrap64 (x7_1 + 1)) a0_0 a0_1 (IntKind.u64.wrap (x190000_1 + ((rd_T44 l1 x7_1).f1))) (rd ((rd_T44 l1 x7_1).f0.f2) a0_1) x190002_1) else (gristmillref06_Of.l0 k1 l1 false (wrap64 (x7_1 + 1)) a0_0 a0_1 (IntKind.u64.wrap (x190000_1 + ((rd_T44 l1 x7_1).f1))) x190001_1 x190002_1)) else (none)) else (none)) = some (r1, r2, r3) := by rw [if_neg (show ¬ (false = true) by decide)] at H; exact H
         clear H
         have H := H1
         clear H1
         by_cases c33 : 0 ≤ a0_1
         ·rw [if_pos c33] at H
          have c33b0 : decide (0 ≤ a0_1) = true := decide_eq_true c33
          clear c33
          by_cases c34 : a0_1 < (((rd_T44 l1 x7_1).f0.f2).length : Int)
          ·rw [if_pos c34] at H
           have c34b0 : decide (a0_1 < (((rd_T44 l1 x7_1).f0.f2).length : Int)) = true := decide_eq_true c34
           clear c34
           by_cases c35 : (rd ((rd_T44 l1 x7_1).f0.f2) a0_1) < x190001_1
           ·rw [if_pos c35] at H
            have c35b0 : decide ((rd ((rd_T44 l1 x7_1).f0.f2) a0_1) < x190001_1) = true := decide_eq_true c35
            clear c35
            have H' := Aside0.mk H
            clear H
            have p190 : 0 ≤ (x7_1 : Int) := of_decide_eq_true (by assumption)
            have q190 : x7_1 < (l1.length : Int) := of_decide_eq_true (by assumption)
            obtain ⟨ad190, A190_1, c190_1, A190_2, c190_2, e190, hx190_0, hx190_1, hx190_2, hx190_3, hl190_1, hi190_1, hl190_2, hi190_2⟩ := at_T44 HR1.out x7_1 p190 q190
            cases e190
            replace hx190_0 := pw_cell_below HB.out hx190_0
            replace hx190_1 := pw_cell_below HB.out hx190_1
            replace hx190_2 := pw_cell_below HB.out hx190_2
            replace hx190_3 := pw_cell_below HB.out hx190_3
            have HR190_1 := Aside0.mk hi190_1
            have HC190_1 := Aside0.mk hl190_1
            clear hi190_1 hl190_1
            have HR190_2 := Aside0.mk hi190_2
            have HC190_2 := Aside0.mk hl190_2
            clear hi190_2 hl190_2
            replace p190 := eq_true p190
            replace q190 := eq_true q190
            try go_wp2
            have n0_ := Aside0.mk (Kd.R_drew HO_190002.out)
            have n1_ := Aside0.mk (blk_drew BK187.out)
            have n2_ := Aside0.mk (blk_drew BK188.out)
            have n3_ := Aside0.mk (blk_drew BK189.out)
            have n4_ := Aside0.mk (below_drew1 HB.out)
            clear HO_190002
            clear BK187
            clear BK188
            clear BK189
            clear HB
            have HO_190002 := n0_
            have BK187 := n1_
            have BK188 := n2_
            have BK189 := n3_
            have HB := n4_
            clear n0_ n1_ n2_ n3_ n4_
            have p191 : 0 ≤ (x7_1 : Int) := of_decide_eq_true (by assumption)
            have q191 : x7_1 < (l1.length : Int) := of_decide_eq_true (by assumption)
            obtain ⟨ad191, A191_1, c191_1, A191_2, c191_2, e191, hx191_0, hx191_1, hx191_2, hx191_3, hl191_1, hi191_1, hl191_2, hi191_2⟩ := at_T44 HR1.out x7_1 p191 q191
            have hw191_3 := hx191_3
            have hw191_2 := hx191_2
            have hw191_1 := hx191_1
            have hw191_0 := hx191_0
            obtain rfl : ad190 = ad191 := (by injection e191)
            replace hx191_0 := pw_cell_below HB.out hx191_0
            replace hx191_1 := pw_cell_below HB.out hx191_1
            replace hx191_2 := pw_cell_below HB.out hx191_2
            replace hx191_3 := pw_cell_below HB.out hx191_3
            have HR191_1 := Aside0.mk hi191_1
            have HC191_1 := Aside0.mk hl191_1
            clear hi191_1 hl191_1
            have HR191_2 := Aside0.mk hi191_2
            have HC191_2 := Aside0.mk hl191_2
            clear hi191_2 hl191_2
            replace p191 := eq_true p191
            replace q191 := eq_true q191
            refine start_ (n := 10) (S := fun w' => w'.cell? ⟨gb189, 0, none⟩ = some (.int .u64 x190000_1) ∧ w'.cell? ⟨gb189, 1, none⟩ = some (.int .i64 x190001_1) ∧ w'.cell? ⟨gb189, 2, none⟩ = some (u190002) ∧ w'.cell? (ad190.add ((x7_1).toNat * 4)) = some (.int .i64 ((rd_T44 l1 x7_1).f0.f0)) ∧ w'.cell? ⟨(ad190.add ((x7_1).toNat * 4)).block, (ad190.add ((x7_1).toNat * 4)).off + 1, none⟩ = some (.slice A191_1 ((rd_T44 l1 x7_1).f0.f1).length c191_1) ∧ w'.cell? ⟨(ad190.add ((x7_1).toNat * 4)).block, (ad190.add ((x7_1).toNat * 4)).off + 2, none⟩ = some (.slice A191_2 ((rd_T44 l1 x7_1).f0.f2).length c191_2) ∧ w'.cell? ⟨(ad190.add ((x7_1).toNat * 4)).block, (ad190.add ((x7_1).toNat * 4)).off + 3, none⟩ = some (.int .u64 ((rd_T44 l1 x7_1).f1))) (ds := [9]) #[false, false, false, false, false, false, false, false, false, false] (by kernel_rfl) rfl rfl ⟨(blk_cell BK189.out 0).trans rfl, (blk_cell BK189.out 1).trans rfl, (blk_cell BK189.out 2).trans rfl, (pw_cell_below HB.out hw191_0), (pw_cell_below HB.out hw191_1), (pw_cell_below HB.out hw191_2), (pw_cell_below HB.out hw191_3)⟩ (fun hHeld => ?_); refine with_tabW gristmillref06_Of.tab7 gristmillref06_Of.bits7 (fun HT_ HW_ => ?_)
            generalize wr.drew = w36 at HO_190002 BK187 BK188 BK189 HB HR191_1 HR191_2 hx191_0 hx191_1 hx191_2 hx191_3 hHeld ⊢
            refine pure_ (i := 0) (N := some 20) (v := ?_) (a' := ?_) #[true, false, false, false, false, false, false, false, false, false] rfl rfl (any_of HT_.out (by kernel_rfl)) (fun _ _ _ h => h) (Or.inl ⟨by rfl, ?_⟩) ?_ ?_
            rotate_left
            ·intro w'
             go_simp
             with_reducible rfl
            rotate_left
            ·simp only [Act.put, q1_, q2_, q3_, i64_w, i32_w]
             rfl
            refine pure_ (i := 2) (N := some 22) (v := ?_) (a' := ?_) #[true, false, true, false, false, false, false, false, false, false] rfl rfl (any_of HT_.out (by kernel_rfl)) (fun _ _ _ h => h) (Or.inl ⟨by rfl, ?_⟩) ?_ ?_
            rotate_left
            ·intro w'
             go_simp
             with_reducible rfl
            rotate_left
            ·simp only [Act.put, q1_, q2_, q3_, i64_w, i32_w]
             rfl
            refine pure_ (i := 3) (N := some 23) (v := ?_) (a' := ?_) #[true, false, true, true, false, false, false, false, false, false] rfl rfl (any_of HT_.out (by kernel_rfl)) (fun _ _ _ h => h) (Or.inl ⟨by rfl, ?_⟩) ?_ ?_
            rotate_left
            ·intro w'
             go_simp
             with_reducible rfl
            rotate_left
            ·simp only [Act.put, q1_, q2_, q3_, i64_w, i32_w]
             rfl
            refine pure_ (i := 4) (N := some 24) (v := ?_) (a' := ?_) #[true, false, true, true, true, false, false, false, false, false] rfl rfl (any_of HT_.out (by kernel_rfl)) (fun _ _ _ h => h) (Or.inl ⟨by rfl, ?_⟩) ?_ ?_
            rotate_left
            ·intro w'
             go_simp
             with_reducible rfl
            rotate_left
            ·simp only [Act.put, q1_, q2_, q3_, i64_w, i32_w]
             rfl
            refine pure_ (i := 5) (N := some 25) (v := ?_) (a' := ?_) #[true, false, true, true, true, true, false, false, false, false] rfl rfl (any_of HT_.out (by kernel_rfl)) (fun _ _ _ h => h) (Or.inl ⟨by rfl, ?_⟩) ?_ ?_
            rotate_left
            ·intro w'
             go_simp
             with_reducible rfl
            rotate_left
            ·simp only [Act.put, q1_, q2_, q3_, i64_w, i32_w]
             rfl
            refine take_ (i := 1) (N := some 21) (v := ?_) (a' := ?_) #[true, true, true, true, true, true, false, false, false, false] rfl rfl (take_ofW HT_.out HW_.out (by kernel_rfl)) (fun _ _ _ h => h) (Or.inl ⟨by rfl, ?_⟩) hHeld ?_ ?_
            rotate_left
            ·rintro w' ⟨s0, s1, s2, s3, s4, s5, s6⟩
             go_simp
             with_reducible rfl
            rotate_left
            ·simp only [Act.put, q1_, q2_, q3_, i64_w, i32_w]
             rfl
            refine take_ (i := 6) (N := some 26) (v := ?_) (a' := ?_) #[true, true, true, true, true, true, true, false, false, false] rfl rfl (take_ofW HT_.out HW_.out (by kernel_rfl)) (fun _ _ _ h => h) (Or.inl ⟨by rfl, ?_⟩) hHeld ?_ ?_
            rotate_left
            ·rintro w' ⟨s0, s1, s2, s3, s4, s5, s6⟩
             go_simp
             with_reducible rfl
            rotate_left
            ·simp only [Act.put, q1_, q2_, q3_, i64_w, i32_w]
             rfl
            refine pure_ (i := 7) (N := some 27) (v := ?_) (a' := ?_) #[true, true, true, true, true, true, true, true, false, false] rfl rfl (any_of HT_.out (by kernel_rfl)) (fun _ _ _ h => h) (Or.inl ⟨by rfl, ?_⟩) ?_ ?_
            rotate_left
            ·intro w'
             go_simp
             with_reducible rfl
            rotate_left
            ·simp only [Act.put, q1_, q2_, q3_, i64_w, i32_w]
             rfl
            refine pure_ (i := 8) (N := some 28) (v := ?_) (a' := ?_) #[true, true, true, true, true, true, true, true, true, false] rfl rfl (any_of HT_.out (by kernel_rfl)) (fun _ _ _ h => h) (Or.inl ⟨by rfl, ?_⟩) ?_ ?_
            rotate_left
            ·intro w'
             go_simp
             with_reducible rfl
            rotate_left
            ·simp only [Act.put, q1_, q2_, q3_, i64_w, i32_w]
             rfl
            refine last_ (i := 9) (N := none) #[true, true, true, true, true, true, true, true, true, true] rfl rfl (one_of HT_.out (by kernel_rfl)) (by decide) (fun K hK => ?_)
            have hs37 : w36.cell? ⟨gb189, 0, none⟩ = some (.int .u64 x190000_1) := (blk_cell BK189.out 0).trans rfl
            have hfs37 := blk_frozen BK189.out 0
            have hns37_0 := NB187_189.out
            have hns37_1 := NB188_189.out
            have hms37_0 := NB189_187.out
            have hms37_1 := NB189_188.out
            refine skip_ (w1 := ?_) (by rfl) rfl ?_ ?_
            rotate_left
            ·go_simp
             rfl
            refine hK.out _ _ ?_
            clear hK K
            refine done_ (done_of HT_.out (by kernel_rfl)) ?_
            have hnb38 := NB187_188.out
            have hnc38 := NB188_187.out
            have hnb39 := NB187_189.out
            have hnc39 := NB189_187.out
            have hcz40_0 : w36.cell? ⟨gb187, 0, none⟩ = some (.int .i64 a0_0) := (blk_cell BK187.out 0).trans rfl
            have hcz40_1 : w36.cell? ⟨gb187, 1, none⟩ = some (.int .i64 a0_1) := (blk_cell BK187.out 1).trans rfl
            have hfz40_0 := blk_frozen BK187.out 0
            have hfz40_1 := blk_frozen BK187.out 1
            try go_wp2
            have n0_ : Aside0 (Kd.R Kd.string 9 (w36.setCell ⟨gb189, 0, none⟩ (.int .u64 (IntKind.u64.wrap (x190000_1 + ((rd_T44 l1 x7_1).f1))))) w.heap.size (fun _ => True) u190002 x190002_1) := ⟨by (with_reducible repeat (first | apply Kd.R_alloc | apply Kd.R_drewN | apply Kd.R_drew)); exact Kd.R_mono (Kd.R_far (p := ⟨gb189, 0, none⟩) (Kd.R_types HO_190002.out BK189.out (by decide)) (fun _ hk => hk.2) (.int .u64 (IntKind.u64.wrap (x190000_1 + ((rd_T44 l1 x7_1).f1))))) (fun _ hk => trivial)⟩
            have n1_ : Aside0 ((w36.setCell ⟨gb189, 0, none⟩ (.int .u64 (IntKind.u64.wrap (x190000_1 + ((rd_T44 l1 x7_1).f1))))).heap[gb187]? = some (.cells #[.int .i64 a0_0, .int .i64 a0_1] 23 (0, 0))) := ⟨by (with_reducible repeat (first | refine blk_drewN ?_ _ | refine blk_drew ?_ | refine blk_alloc ?_ _)); refine blk_far ?_ NB187_189.out _; (with_reducible repeat (first | refine blk_drewN ?_ _ | refine blk_drew ?_ | refine blk_alloc ?_ _)); exact BK187.out⟩
            have n2_ : Aside0 ((w36.setCell ⟨gb189, 0, none⟩ (.int .u64 (IntKind.u64.wrap (x190000_1 + ((rd_T44 l1 x7_1).f1))))).heap[gb188]? = some (.cells #[.int .u64 0, .int .i64 0, .slice none 0 0] 33 (0, 0))) := ⟨by (with_reducible repeat (first | refine blk_drewN ?_ _ | refine blk_drew ?_ | refine blk_alloc ?_ _)); refine blk_far ?_ NB188_189.out _; (with_reducible repeat (first | refine blk_drewN ?_ _ | refine blk_drew ?_ | refine blk_alloc ?_ _)); exact BK188.out⟩
            have n3_ : Aside0 ((w36.setCell ⟨gb189, 0, none⟩ (.int .u64 (IntKind.u64.wrap (x190000_1 + ((rd_T44 l1 x7_1).f1))))).heap[gb189]? = some (.cells #[.int .u64 (IntKind.u64.wrap (x190000_1 + ((rd_T44 l1 x7_1).f1))), .int .i64 x190001_1, u190002] 33 (0, 0))) := ⟨by (with_reducible repeat (first | refine blk_drewN ?_ _ | refine blk_drew ?_ | refine blk_alloc ?_ _)); refine blk_put (cs := #[.int .u64 x190000_1, .int .i64 x190001_1, u190002]) ?_ 0 _ rfl; (with_reducible repeat (first | refine blk_drewN ?_ _ | refine blk_drew ?_ | refine blk_alloc ?_ _)); exact BK189.out⟩
            have n4_ : Aside0 (Below w.heap.size w (w36.setCell ⟨gb189, 0, none⟩ (.int .u64 (IntKind.u64.wrap (x190000_1 + ((rd_T44 l1 x7_1).f1)))))) := ⟨by repeat (first | (with_reducible first | exact HB.out | apply below_alloc | apply pw_below_drewN | apply below_drew1 | refine below_set ?_ GE187.out | refine below_set ?_ GE188.out | refine below_set ?_ GE189.out) | exact HB.out)⟩
            (try clear HO_190002)
            (try clear BK187)
            (try clear BK188)
            (try clear BK189)
            (try clear HB)
            generalize (w36.setCell ⟨gb189, 0, none⟩ (.int .u64 (IntKind.u64.wrap (x190000_1 + ((rd_T44 l1 x7_1).f1))))) = w41 at n0_ n1_ n2_ n3_ n4_ ⊢
            have HO_190002 := n0_
            have BK187 := n1_
            have BK188 := n2_
            have BK189 := n3_
            have HB := n4_
            clear n0_ n1_ n2_ n3_ n4_
            have n0_ := Aside0.mk (Kd.R_drew HO_190002.out)
            have n1_ := Aside0.mk (blk_drew BK187.out)
            have n2_ := Aside0.mk (blk_drew BK188.out)
            have n3_ := Aside0.mk (blk_drew BK189.out)
            have n4_ := Aside0.mk (below_drew1 HB.out)
            clear HO_190002
            clear BK187
            clear BK188
            clear BK189
            clear HB
            have HO_190002 := n0_
            have BK187 := n1_
            have BK188 := n2_
            have BK189 := n3_
            have HB := n4_
            clear n0_ n1_ n2_ n3_ n4_
            have p197 : 0 ≤ (x7_1 : Int) := of_decide_eq_true (by assumption)
            have q197 : x7_1 < (l1.length : Int) := of_decide_eq_true (by assumption)
            obtain ⟨ad197, A197_1, c197_1, A197_2, c197_2, e197, hx197_0, hx197_1, hx197_2, hx197_3, hl197_1, hi197_1, hl197_2, hi197_2⟩ := at_T44 HR1.out x7_1 p197 q197
            have hw197_3 := hx197_3
            have hw197_2 := hx197_2
            have hw197_1 := hx197_1
            have hw197_0 := hx197_0
            obtain rfl : ad190 = ad197 := (by injection e197)
            replace hx197_0 := pw_cell_below HB.out hx197_0
            replace hx197_1 := pw_cell_below HB.out hx197_1
            replace hx197_2 := pw_cell_below HB.out hx197_2
            replace hx197_3 := pw_cell_below HB.out hx197_3
            have HR197_1 := Aside0.mk hi197_1
            have HC197_1 := Aside0.mk hl197_1
            clear hi197_1 hl197_1
            have HR197_2 := Aside0.mk hi197_2
            have HC197_2 := Aside0.mk hl197_2
            clear hi197_2 hl197_2
            replace p197 := eq_true p197
            replace q197 := eq_true q197
            have p198 : 0 ≤ (a0_1 : Int) := of_decide_eq_true (by assumption)
            have q198 : a0_1 < (((rd_T44 l1 x7_1).f0.f2).length : Int) := of_decide_eq_true (by assumption)
            obtain ⟨ad198, e198, hx198_0⟩ := Kd.at_int HR197_2.out a0_1 p198 q198
            have hw198_0 := hx198_0
            cases e198
            replace hx198_0 := pw_cell_below HB.out hx198_0
            replace p198 := eq_true p198
            replace q198 := eq_true q198
            refine start_ (n := 16) (S := fun w' => w'.cell? ⟨gb187, 0, none⟩ = some (.int .i64 a0_0) ∧ w'.cell? ⟨gb187, 1, none⟩ = some (.int .i64 a0_1) ∧ w'.cell? ⟨gb189, 0, none⟩ = some (.int .u64 (IntKind.u64.wrap (x190000_1 + ((rd_T44 l1 x7_1).f1)))) ∧ w'.cell? ⟨gb189, 1, none⟩ = some (.int .i64 x190001_1) ∧ w'.cell? ⟨gb189, 2, none⟩ = some (u190002) ∧ w'.cell? (ad190.add ((x7_1).toNat * 4)) = some (.int .i64 ((rd_T44 l1 x7_1).f0.f0)) ∧ w'.cell? ⟨(ad190.add ((x7_1).toNat * 4)).block, (ad190.add ((x7_1).toNat * 4)).off + 1, none⟩ = some (.slice A197_1 ((rd_T44 l1 x7_1).f0.f1).length c197_1) ∧ w'.cell? ⟨(ad190.add ((x7_1).toNat * 4)).block, (ad190.add ((x7_1).toNat * 4)).off + 2, none⟩ = some (.slice (some ad198) ((rd_T44 l1 x7_1).f0.f2).length c197_2) ∧ w'.cell? ⟨(ad190.add ((x7_1).toNat * 4)).block, (ad190.add ((x7_1).toNat * 4)).off + 3, none⟩ = some (.int .u64 ((rd_T44 l1 x7_1).f1)) ∧ w'.cell? (ad198.add (a0_1).toNat) = some (.int .i64 (rd ((rd_T44 l1 x7_1).f0.f2) a0_1))) (ds := []) #[false, false, false, false, false, false, false, false, false, false, false, false, false, false, false, false] (by kernel_rfl) rfl rfl ⟨(blk_cell BK187.out 0).trans rfl, (blk_cell BK187.out 1).trans rfl, (blk_cell BK189.out 0).trans rfl, (blk_cell BK189.out 1).trans rfl, (blk_cell BK189.out 2).trans rfl, (pw_cell_below HB.out hw197_0), (pw_cell_below HB.out hw197_1), (pw_cell_below HB.out hw197_2), (pw_cell_below HB.out hw197_3), (pw_cell_below HB.out hw198_0)⟩ (fun hHeld => ?_); refine with_tabW gristmillref06_Of.tab12 gristmillref06_Of.bits12 (fun HT_ HW_ => ?_)
            generalize w41.drew = w42 at HO_190002 BK187 BK188 BK189 HB HR197_1 HR197_2 hx197_0 hx197_1 hx197_2 hx197_3 hx198_0 hHeld ⊢
            refine pure_ (i := 0) (N := some 56) (v := ?_) (a' := ?_) #[true, false, false, false, false, false, false, false, false, false, false, false, false, false, false, false] rfl rfl (any_of HT_.out (by kernel_rfl)) (fun _ _ _ h => h) (Or.inl ⟨by rfl, ?_⟩) ?_ ?_
            rotate_left
            ·intro w'
             go_simp
             with_reducible rfl
            rotate_left
            ·simp only [Act.put, q1_, q2_, q3_, i64_w, i32_w]
             rfl
            refine pure_ (i := 1) (N := some 57) (v := ?_) (a' := ?_) #[true, true, false, false, false, false, false, false, false, false, false, false, false, false, false, false] rfl rfl (any_of HT_.out (by kernel_rfl)) (fun _ _ _ h => h) (Or.inl ⟨by rfl, ?_⟩) ?_ ?_
            rotate_left
            ·intro w'
             go_simp
             with_reducible rfl
            rotate_left
            ·simp only [Act.put, q1_, q2_, q3_, i64_w, i32_w]
             rfl
            refine pure_ (i := 2) (N := some 58) (v := ?_) (a' := ?_) #[true, true, true, false, false, false, false, false, false, false, false, false, false, false, false, false] rfl rfl (any_of HT_.out (by kernel_rfl)) (fun _ _ _ h => h) (Or.inl ⟨by rfl, ?_⟩) ?_ ?_
            rotate_left
            ·intro w'
             go_simp
             with_reducible rfl
            rotate_left
            ·simp only [Act.put, q1_, q2_, q3_, i64_w, i32_w]
             rfl
            refine pure_ (i := 3) (N := some 59) (v := ?_) (a' := ?_) #[true, true, true, true, false, false, false, false, false, false, false, false, false, false, false, false] rfl rfl (any_of HT_.out (by kernel_rfl)) (fun _ _ _ h => h) (Or.inl ⟨by rfl, ?_⟩) ?_ ?_
            rotate_left
            ·intro w'
             go_simp
             with_reducible rfl
            rotate_left
            ·simp only [Act.put, q1_, q2_, q3_, i64_w, i32_w]
             rfl
            refine pure_ (i := 4) (N := some 60) (v := ?_) (a' := ?_) #[true, true, true, true, true, false, false, false, false, false, false, false, false, false, false, false] rfl rfl (any_of HT_.out (by kernel_rfl)) (fun _ _ _ h => h) (Or.inl ⟨by rfl, ?_⟩) ?_ ?_
            rotate_left
            ·intro w'
             go_simp
             with_reducible rfl
            rotate_left
            ·simp only [Act.put, q1_, q2_, q3_, i64_w, i32_w]
             rfl
            refine pure_ (i := 5) (N := some 61) (v := ?_) (a' := ?_) #[true, true, true, true, true, true, false, false, false, false, false, false, false, false, false, false] rfl rfl (any_of HT_.out (by kernel_rfl)) (fun _ _ _ h => h) (Or.inl ⟨by rfl, ?_⟩) ?_ ?_
            rotate_left
            ·intro w'
             go_simp
             with_reducible rfl
            rotate_left
            ·simp only [Act.put, q1_, q2_, q3_, i64_w, i32_w]
             rfl
            refine pure_ (i := 6) (N := some 62) (v := ?_) (a' := ?_) #[true, true, true, true, true, true, true, false, false, false, false, false, false, false, false, false] rfl rfl (any_of HT_.out (by kernel_rfl)) (fun _ _ _ h => h) (Or.inl ⟨by rfl, ?_⟩) ?_ ?_
            rotate_left
            ·intro w'
             go_simp
             with_reducible rfl
            rotate_left
            ·simp only [Act.put, q1_, q2_, q3_, i64_w, i32_w]
             rfl
            refine pure_ (i := 8) (N := some 64) (v := ?_) (a' := ?_) #[true, true, true, true, true, true, true, false, true, false, false, false, false, false, false, false] rfl rfl (any_of HT_.out (by kernel_rfl)) (fun _ _ _ h => h) (Or.inl ⟨by rfl, ?_⟩) ?_ ?_
            rotate_left
            ·intro w'
             go_simp
             with_reducible rfl
            rotate_left
            ·simp only [Act.put, q1_, q2_, q3_, i64_w, i32_w]
             rfl
            refine pure_ (i := 12) (N := some 68) (v := ?_) (a' := ?_) #[true, true, true, true, true, true, true, false, true, false, false, false, true, false, false, false] rfl rfl (any_of HT_.out (by kernel_rfl)) (fun _ _ _ h => h) (Or.inl ⟨by rfl, ?_⟩) ?_ ?_
            rotate_left
            ·intro w'
             go_simp
             with_reducible rfl
            rotate_left
            ·simp only [Act.put, q1_, q2_, q3_, i64_w, i32_w]
             rfl
            refine take_ (i := 7) (N := some 63) (v := ?_) (a' := ?_) #[true, true, true, true, true, true, true, true, true, false, false, false, true, false, false, false] rfl rfl (take_ofW HT_.out HW_.out (by kernel_rfl)) (fun _ _ _ h => h) (Or.inl ⟨by rfl, ?_⟩) hHeld ?_ ?_
            rotate_left
            ·rintro w' ⟨s0, s1, s2, s3, s4, s5, s6, s7, s8, s9⟩
             go_simp
             with_reducible rfl
            rotate_left
            ·simp only [Act.put, q1_, q2_, q3_, i64_w, i32_w]
             rfl
            refine take_ (i := 9) (N := some 65) (v := ?_) (a' := ?_) #[true, true, true, true, true, true, true, true, true, true, false, false, true, false, false, false] rfl rfl (take_ofW HT_.out HW_.out (by kernel_rfl)) (fun _ _ _ h => h) (Or.inl ⟨by rfl, ?_⟩) hHeld ?_ ?_
            rotate_left
            ·rintro w' ⟨s0, s1, s2, s3, s4, s5, s6, s7, s8, s9⟩
             go_simp
             with_reducible rfl
            rotate_left
            ·simp only [Act.put, q1_, q2_, q3_, i64_w, i32_w]
             rfl
            refine pure_ (i := 10) (N := some 66) (v := ?_) (a' := ?_) #[true, true, true, true, true, true, true, true, true, true, true, false, true, false, false, false] rfl rfl (any_of HT_.out (by kernel_rfl)) (fun _ _ _ h => h) (Or.inl ⟨by rfl, ?_⟩) ?_ ?_
            rotate_left
            ·intro w'
             go_simp
             with_reducible rfl
            rotate_left
            ·simp only [Act.put, q1_, q2_, q3_, i64_w, i32_w]
             rfl
            refine take_ (i := 11) (N := some 67) (v := ?_) (a' := ?_) #[true, true, true, true, true, true, true, true, true, true, true, true, true, false, false, false] rfl rfl (take_ofW HT_.out HW_.out (by kernel_rfl)) (fun _ _ _ h => h) (Or.inl ⟨by rfl, ?_⟩) hHeld ?_ ?_
            rotate_left
            ·rintro w' ⟨s0, s1, s2, s3, s4, s5, s6, s7, s8, s9⟩
             go_simp
             with_reducible rfl
            rotate_left
            ·simp only [Act.put, q1_, q2_, q3_, i64_w, i32_w]
             rfl
            refine take_ (i := 13) (N := some 69) (v := ?_) (a' := ?_) #[true, true, true, true, true, true, true, true, true, true, true, true, true, true, false, false] rfl rfl (take_ofW HT_.out HW_.out (by kernel_rfl)) (fun _ _ _ h => h) (Or.inl ⟨by rfl, ?_⟩) hHeld ?_ ?_
            rotate_left
            ·rintro w' ⟨s0, s1, s2, s3, s4, s5, s6, s7, s8, s9⟩
             go_simp
             with_reducible rfl
            rotate_left
            ·simp only [Act.put, q1_, q2_, q3_, i64_w, i32_w]
             rfl
            refine pure_ (i := 14) (N := some 70) (v := ?_) (a' := ?_) #[true, true, true, true, true, true, true, true, true, true, true, true, true, true, true, false] rfl rfl (any_of HT_.out (by kernel_rfl)) (fun _ _ _ h => h) (Or.inl ⟨by rfl, ?_⟩) ?_ ?_
            rotate_left
            ·intro w'
             go_simp
             with_reducible rfl
            rotate_left
            ·simp only [Act.put, q1_, q2_, q3_, i64_w, i32_w]
             rfl
            refine pure_ (i := 15) (N := some 71) (v := ?_) (a' := ?_) #[true, true, true, true, true, true, true, true, true, true, true, true, true, true, true, true] rfl rfl (any_of HT_.out (by kernel_rfl)) (fun _ _ _ h => h) (Or.inl ⟨by rfl, ?_⟩) ?_ ?_
            rotate_left
            ·intro w'
             go_simp
             with_reducible rfl
            rotate_left
            ·simp only [Act.put, q1_, q2_, q3_, i64_w, i32_w]
             rfl
            refine done_ (done_of HT_.out (by kernel_rfl)) ?_
            try go_wp2
            have n0_ := Aside0.mk (Kd.R_drew HO_190002.out)
            have n1_ := Aside0.mk (blk_drew BK187.out)
            have n2_ := Aside0.mk (blk_drew BK188.out)
            have n3_ := Aside0.mk (blk_drew BK189.out)
            have n4_ := Aside0.mk (below_drew1 HB.out)
            clear HO_190002
            clear BK187
            clear BK188
            clear BK189
            clear HB
            have HO_190002 := n0_
            have BK187 := n1_
            have BK188 := n2_
            have BK189 := n3_
            have HB := n4_
            clear n0_ n1_ n2_ n3_ n4_
            have p199 : 0 ≤ (x7_1 : Int) := of_decide_eq_true (by assumption)
            have q199 : x7_1 < (l1.length : Int) := of_decide_eq_true (by assumption)
            obtain ⟨ad199, A199_1, c199_1, A199_2, c199_2, e199, hx199_0, hx199_1, hx199_2, hx199_3, hl199_1, hi199_1, hl199_2, hi199_2⟩ := at_T44 HR1.out x7_1 p199 q199
            have hw199_3 := hx199_3
            have hw199_2 := hx199_2
            have hw199_1 := hx199_1
            have hw199_0 := hx199_0
            obtain rfl : ad190 = ad199 := (by injection e199)
            replace hx199_0 := pw_cell_below HB.out hx199_0
            replace hx199_1 := pw_cell_below HB.out hx199_1
            replace hx199_2 := pw_cell_below HB.out hx199_2
            replace hx199_3 := pw_cell_below HB.out hx199_3
            have HR199_1 := Aside0.mk hi199_1
            have HC199_1 := Aside0.mk hl199_1
            clear hi199_1 hl199_1
            have HR199_2 := Aside0.mk hi199_2
            have HC199_2 := Aside0.mk hl199_2
            clear hi199_2 hl199_2
            replace p199 := eq_true p199
            replace q199 := eq_true q199
            have p200 : 0 ≤ (a0_1 : Int) := of_decide_eq_true (by assumption)
            have q200 : a0_1 < (((rd_T44 l1 x7_1).f0.f2).length : Int) := of_decide_eq_true (by assumption)
            obtain ⟨ad200, e200, hx200_0⟩ := Kd.at_int HR199_2.out a0_1 p200 q200
            have hw200_0 := hx200_0
            cases e200
            replace hx200_0 := pw_cell_below HB.out hx200_0
            replace p200 := eq_true p200
            replace q200 := eq_true q200
            refine start_ (n := 12) (S := fun w' => w'.cell? ⟨gb187, 0, none⟩ = some (.int .i64 a0_0) ∧ w'.cell? ⟨gb187, 1, none⟩ = some (.int .i64 a0_1) ∧ w'.cell? (ad190.add ((x7_1).toNat * 4)) = some (.int .i64 ((rd_T44 l1 x7_1).f0.f0)) ∧ w'.cell? ⟨(ad190.add ((x7_1).toNat * 4)).block, (ad190.add ((x7_1).toNat * 4)).off + 1, none⟩ = some (.slice A199_1 ((rd_T44 l1 x7_1).f0.f1).length c199_1) ∧ w'.cell? ⟨(ad190.add ((x7_1).toNat * 4)).block, (ad190.add ((x7_1).toNat * 4)).off + 2, none⟩ = some (.slice (some ad200) ((rd_T44 l1 x7_1).f0.f2).length c199_2) ∧ w'.cell? ⟨(ad190.add ((x7_1).toNat * 4)).block, (ad190.add ((x7_1).toNat * 4)).off + 3, none⟩ = some (.int .u64 ((rd_T44 l1 x7_1).f1)) ∧ w'.cell? (ad200.add (a0_1).toNat) = some (.int .i64 (rd ((rd_T44 l1 x7_1).f0.f2) a0_1))) (ds := []) #[false, false, false, false, false, false, false, false, false, false, false, false] (by kernel_rfl) rfl rfl ⟨(blk_cell BK187.out 0).trans rfl, (blk_cell BK187.out 1).trans rfl, (pw_cell_below HB.out hw199_0), (pw_cell_below HB.out hw199_1), (pw_cell_below HB.out hw199_2), (pw_cell_below HB.out hw199_3), (pw_cell_below HB.out hw200_0)⟩ (fun hHeld => ?_); refine with_tabW gristmillref06_Of.tab13 gristmillref06_Of.bits13 (fun HT_ HW_ => ?_)
            generalize w42.drew = w43 at HO_190002 BK187 BK188 BK189 HB HR199_1 HR199_2 hx199_0 hx199_1 hx199_2 hx199_3 hx200_0 hHeld ⊢
            refine pure_ (i := 0) (N := some 72) (v := ?_) (a' := ?_) #[true, false, false, false, false, false, false, false, false, false, false, false] rfl rfl (any_of HT_.out (by kernel_rfl)) (fun _ _ _ h => h) (Or.inl ⟨by rfl, ?_⟩) ?_ ?_
            rotate_left
            ·intro w'
             go_simp
             with_reducible rfl
            rotate_left
            ·simp only [Act.put, q1_, q2_, q3_, i64_w, i32_w]
             rfl
            refine pure_ (i := 1) (N := some 73) (v := ?_) (a' := ?_) #[true, true, false, false, false, false, false, false, false, false, false, false] rfl rfl (any_of HT_.out (by kernel_rfl)) (fun _ _ _ h => h) (Or.inl ⟨by rfl, ?_⟩) ?_ ?_
            rotate_left
            ·intro w'
             go_simp
             with_reducible rfl
            rotate_left
            ·simp only [Act.put, q1_, q2_, q3_, i64_w, i32_w]
             rfl
            refine pure_ (i := 2) (N := some 74) (v := ?_) (a' := ?_) #[true, true, true, false, false, false, false, false, false, false, false, false] rfl rfl (any_of HT_.out (by kernel_rfl)) (fun _ _ _ h => h) (Or.inl ⟨by rfl, ?_⟩) ?_ ?_
            rotate_left
            ·intro w'
             go_simp
             with_reducible rfl
            rotate_left
            ·simp only [Act.put, q1_, q2_, q3_, i64_w, i32_w]
             rfl
            refine pure_ (i := 3) (N := some 75) (v := ?_) (a' := ?_) #[true, true, true, true, false, false, false, false, false, false, false, false] rfl rfl (any_of HT_.out (by kernel_rfl)) (fun _ _ _ h => h) (Or.inl ⟨by rfl, ?_⟩) ?_ ?_
            rotate_left
            ·intro w'
             go_simp
             with_reducible rfl
            rotate_left
            ·simp only [Act.put, q1_, q2_, q3_, i64_w, i32_w]
             rfl
            refine pure_ (i := 4) (N := some 76) (v := ?_) (a' := ?_) #[true, true, true, true, true, false, false, false, false, false, false, false] rfl rfl (any_of HT_.out (by kernel_rfl)) (fun _ _ _ h => h) (Or.inl ⟨by rfl, ?_⟩) ?_ ?_
            rotate_left
            ·intro w'
             go_simp
             with_reducible rfl
            rotate_left
            ·simp only [Act.put, q1_, q2_, q3_, i64_w, i32_w]
             rfl
            refine pure_ (i := 6) (N := some 78) (v := ?_) (a' := ?_) #[true, true, true, true, true, false, true, false, false, false, false, false] rfl rfl (any_of HT_.out (by kernel_rfl)) (fun _ _ _ h => h) (Or.inl ⟨by rfl, ?_⟩) ?_ ?_
            rotate_left
            ·intro w'
             go_simp
             with_reducible rfl
            rotate_left
            ·simp only [Act.put, q1_, q2_, q3_, i64_w, i32_w]
             rfl
            refine take_ (i := 5) (N := some 77) (v := ?_) (a' := ?_) #[true, true, true, true, true, true, true, false, false, false, false, false] rfl rfl (take_ofW HT_.out HW_.out (by kernel_rfl)) (fun _ _ _ h => h) (Or.inl ⟨by rfl, ?_⟩) hHeld ?_ ?_
            rotate_left
            ·rintro w' ⟨s0, s1, s2, s3, s4, s5, s6⟩
             go_simp
             with_reducible rfl
            rotate_left
            ·simp only [Act.put, q1_, q2_, q3_, i64_w, i32_w]
             rfl
            refine take_ (i := 7) (N := some 79) (v := ?_) (a' := ?_) #[true, true, true, true, true, true, true, true, false, false, false, false] rfl rfl (take_ofW HT_.out HW_.out (by kernel_rfl)) (fun _ _ _ h => h) (Or.inl ⟨by rfl, ?_⟩) hHeld ?_ ?_
            rotate_left
            ·rintro w' ⟨s0, s1, s2, s3, s4, s5, s6⟩
             go_simp
             with_reducible rfl
            rotate_left
            ·simp only [Act.put, q1_, q2_, q3_, i64_w, i32_w]
             rfl
            refine pure_ (i := 8) (N := some 80) (v := ?_) (a' := ?_) #[true, true, true, true, true, true, true, true, true, false, false, false] rfl rfl (any_of HT_.out (by kernel_rfl)) (fun _ _ _ h => h) (Or.inl ⟨by rfl, ?_⟩) ?_ ?_
            rotate_left
            ·intro w'
             go_simp
             with_reducible rfl
            rotate_left
            ·simp only [Act.put, q1_, q2_, q3_, i64_w, i32_w]
             rfl
            refine take_ (i := 9) (N := some 81) (v := ?_) (a' := ?_) #[true, true, true, true, true, true, true, true, true, true, false, false] rfl rfl (take_ofW HT_.out HW_.out (by kernel_rfl)) (fun _ _ _ h => h) (Or.inl ⟨by rfl, ?_⟩) hHeld ?_ ?_
            rotate_left
            ·rintro w' ⟨s0, s1, s2, s3, s4, s5, s6⟩
             go_simp
             with_reducible rfl
            rotate_left
            ·simp only [Act.put, q1_, q2_, q3_, i64_w, i32_w]
             rfl
            refine pure_ (i := 10) (N := some 82) (v := ?_) (a' := ?_) #[true, true, true, true, true, true, true, true, true, true, true, false] rfl rfl (any_of HT_.out (by kernel_rfl)) (fun _ _ _ h => h) (Or.inl ⟨by rfl, ?_⟩) ?_ ?_
            rotate_left
            ·intro w'
             go_simp
             with_reducible rfl
            rotate_left
            ·simp only [Act.put, q1_, q2_, q3_, i64_w, i32_w]
             rfl
            refine one_ (i := 11) (N := none) #[true, true, true, true, true, true, true, true, true, true, true, true] rfl rfl (one_of HT_.out (by kernel_rfl)) (by decide) (fun K hK => ?_)
            have hs44 : w43.cell? ⟨gb189, 1, none⟩ = some (.int .i64 x190001_1) := (blk_cell BK189.out 1).trans rfl
            have hfs44 := blk_frozen BK189.out 1
            have hns44_0 := NB187_189.out
            have hns44_1 := NB188_189.out
            have hms44_0 := NB189_187.out
            have hms44_1 := NB189_188.out
            refine skip_ (w1 := ?_) (by rfl) rfl ?_ ?_
            rotate_left
            ·go_simp
             rfl
            refine hK.out _ _ ⟨((cell_far (p := ⟨gb189, _, none⟩) NB187_189.out _).trans (hHeld.1)), ((cell_far (p := ⟨gb189, _, none⟩) NB187_189.out _).trans (hHeld.2.1)), ((cell_far (p := ⟨gb189, _, none⟩) (by first | exact Nat.ne_of_lt (Nat.lt_of_lt_of_le (by have := World.block_lt_of_cell? _ _ hw199_0; first | rwa [add_block] at this | exact this) GW189.out) | (rw [add_block]; exact Nat.ne_of_lt (Nat.lt_of_lt_of_le (by have := World.block_lt_of_cell? _ _ hw199_0; first | rwa [add_block] at this | exact this) GW189.out)) | (show (Addr.add _ _).block ≠ _; rw [add_block]; exact Nat.ne_of_lt (Nat.lt_of_lt_of_le (by have := World.block_lt_of_cell? _ _ hw199_0; first | rwa [add_block] at this | exact this) GW189.out)) | (dsimp only; exact Nat.ne_of_lt (Nat.lt_of_lt_of_le (by have := World.block_lt_of_cell? _ _ hw199_0; first | rwa [add_block] at this | exact this) GW189.out))) _).trans (hHeld.2.2.1)), ((cell_far (p := ⟨gb189, _, none⟩) (by first | exact Nat.ne_of_lt (Nat.lt_of_lt_of_le (by have := World.block_lt_of_cell? _ _ hw199_1; first | rwa [add_block] at this | exact this) GW189.out) | (rw [add_block]; exact Nat.ne_of_lt (Nat.lt_of_lt_of_le (by have := World.block_lt_of_cell? _ _ hw199_1; first | rwa [add_block] at this | exact this) GW189.out)) | (show (Addr.add _ _).block ≠ _; rw [add_block]; exact Nat.ne_of_lt (Nat.lt_of_lt_of_le (by have := World.block_lt_of_cell? _ _ hw199_1; first | rwa [add_block] at this | exact this) GW189.out)) | (dsimp only; exact Nat.ne_of_lt (Nat.lt_of_lt_of_le (by have := World.block_lt_of_cell? _ _ hw199_1; first | rwa [add_block] at this | exact this) GW189.out))) _).trans (hHeld.2.2.2.1)), ((cell_far (p := ⟨gb189, _, none⟩) (by first | exact Nat.ne_of_lt (Nat.lt_of_lt_of_le (by have := World.block_lt_of_cell? _ _ hw199_2; first | rwa [add_block] at this | exact this) GW189.out) | (rw [add_block]; exact Nat.ne_of_lt (Nat.lt_of_lt_of_le (by have := World.block_lt_of_cell? _ _ hw199_2; first | rwa [add_block] at this | exact this) GW189.out)) | (show (Addr.add _ _).block ≠ _; rw [add_block]; exact Nat.ne_of_lt (Nat.lt_of_lt_of_le (by have := World.block_lt_of_cell? _ _ hw199_2; first | rwa [add_block] at this | exact this) GW189.out)) | (dsimp only; exact Nat.ne_of_lt (Nat.lt_of_lt_of_le (by have := World.block_lt_of_cell? _ _ hw199_2; first | rwa [add_block] at this | exact this) GW189.out))) _).trans (hHeld.2.2.2.2.1)), ((cell_far (p := ⟨gb189, _, none⟩) (by first | exact Nat.ne_of_lt (Nat.lt_of_lt_of_le (by have := World.block_lt_of_cell? _ _ hw199_3; first | rwa [add_block] at this | exact this) GW189.out) | (rw [add_block]; exact Nat.ne_of_lt (Nat.lt_of_lt_of_le (by have := World.block_lt_of_cell? _ _ hw199_3; first | rwa [add_block] at this | exact this) GW189.out)) | (show (Addr.add _ _).block ≠ _; rw [add_block]; exact Nat.ne_of_lt (Nat.lt_of_lt_of_le (by have := World.block_lt_of_cell? _ _ hw199_3; first | rwa [add_block] at this | exact this) GW189.out)) | (dsimp only; exact Nat.ne_of_lt (Nat.lt_of_lt_of_le (by have := World.block_lt_of_cell? _ _ hw199_3; first | rwa [add_block] at this | exact this) GW189.out))) _).trans (hHeld.2.2.2.2.2.1)), ((cell_far (p := ⟨gb189, _, none⟩) (by first | exact Nat.ne_of_lt (Nat.lt_of_lt_of_le (by have := World.block_lt_of_cell? _ _ hw200_0; first | rwa [add_block] at this | exact this) GW189.out) | (rw [add_block]; exact Nat.ne_of_lt (Nat.lt_of_lt_of_le (by have := World.block_lt_of_cell? _ _ hw200_0; first | rwa [add_block] at this | exact this) GW189.out)) | (show (Addr.add _ _).block ≠ _; rw [add_block]; exact Nat.ne_of_lt (Nat.lt_of_lt_of_le (by have := World.block_lt_of_cell? _ _ hw200_0; first | rwa [add_block] at this | exact this) GW189.out)) | (dsimp only; exact Nat.ne_of_lt (Nat.lt_of_lt_of_le (by have := World.block_lt_of_cell? _ _ hw200_0; first | rwa [add_block] at this | exact this) GW189.out))) _).trans (hHeld.2.2.2.2.2.2))⟩ (fun hHeld => ?_)
            clear hK K
            refine done_ (done_of HT_.out (by kernel_rfl)) ?_
            try go_wp2
            go_roundg k1
            case measure => have := HK1.out; omega
            case rel => exact ⟨(false), (wrap64 (x7_1 + 1)), (IntKind.u64.wrap (x190000_1 + ((rd_T44 l1 x7_1).f1))), (rd ((rd_T44 l1 x7_1).f0.f2) a0_1), (x190002_1), (u190002), (by first | rfl | (simp; done) | (simp [*]; done)), (by first | rfl | (simp; done) | (simp [*]; done)), H', ⟨by have := HK1.out; omega⟩, ⟨by (with_reducible repeat (first | apply Kd.R_alloc | apply Kd.R_drewN | apply Kd.R_drew)); exact Kd.R_mono (Kd.R_far (p := ⟨gb189, 1, none⟩) (Kd.R_types HO_190002.out BK189.out (by decide)) (fun _ hk => hk.2) (.int .i64 (rd ((rd_T44 l1 x7_1).f0.f2) a0_1))) (fun _ hk => trivial)⟩, ⟨by (with_reducible repeat (first | refine blk_drewN ?_ _ | refine blk_drew ?_ | refine blk_alloc ?_ _)); refine blk_far ?_ NB187_189.out _; (with_reducible repeat (first | refine blk_drewN ?_ _ | refine blk_drew ?_ | refine blk_alloc ?_ _)); exact BK187.out⟩, ⟨by (with_reducible repeat (first | refine blk_drewN ?_ _ | refine blk_drew ?_ | refine blk_alloc ?_ _)); refine blk_far ?_ NB188_189.out _; (with_reducible repeat (first | refine blk_drewN ?_ _ | refine blk_drew ?_ | refine blk_alloc ?_ _)); exact BK188.out⟩, ⟨by (with_reducible repeat (first | refine blk_drewN ?_ _ | refine blk_drew ?_ | refine blk_alloc ?_ _)); refine blk_put (cs := #[.int .u64 (IntKind.u64.wrap (x190000_1 + ((rd_T44 l1 x7_1).f1))), .int .i64 x190001_1, u190002]) ?_ 1 _ rfl; (with_reducible repeat (first | refine blk_drewN ?_ _ | refine blk_drew ?_ | refine blk_alloc ?_ _)); exact BK189.out⟩, ⟨by repeat (first | (with_reducible first | exact HB.out | apply below_alloc | apply pw_below_drewN | apply below_drew1 | refine below_set ?_ GE187.out | refine below_set ?_ GE188.out | refine below_set ?_ GE189.out) | exact HB.out)⟩⟩
           ·rw [if_neg c35] at H
            have c35b0 : decide ((rd ((rd_T44 l1 x7_1).f0.f2) a0_1) < x190001_1) = false := decide_eq_false c35
            clear c35
            have H' := Aside0.mk H
            clear H
            have p190 : 0 ≤ (x7_1 : Int) := of_decide_eq_true (by assumption)
            have q190 : x7_1 < (l1.length : Int) := of_decide_eq_true (by assumption)
            obtain ⟨ad190, A190_1, c190_1, A190_2, c190_2, e190, hx190_0, hx190_1, hx190_2, hx190_3, hl190_1, hi190_1, hl190_2, hi190_2⟩ := at_T44 HR1.out x7_1 p190 q190
            cases e190
            replace hx190_0 := pw_cell_below HB.out hx190_0
            replace hx190_1 := pw_cell_below HB.out hx190_1
            replace hx190_2 := pw_cell_below HB.out hx190_2
            replace hx190_3 := pw_cell_below HB.out hx190_3
            have HR190_1 := Aside0.mk hi190_1
            have HC190_1 := Aside0.mk hl190_1
            clear hi190_1 hl190_1
            have HR190_2 := Aside0.mk hi190_2
            have HC190_2 := Aside0.mk hl190_2
            clear hi190_2 hl190_2
            replace p190 := eq_true p190
            replace q190 := eq_true q190
            try go_wp2
            have n0_ := Aside0.mk (Kd.R_drew HO_190002.out)
            have n1_ := Aside0.mk (blk_drew BK187.out)
            have n2_ := Aside0.mk (blk_drew BK188.out)
            have n3_ := Aside0.mk (blk_drew BK189.out)
            have n4_ := Aside0.mk (below_drew1 HB.out)
            clear HO_190002
            clear BK187
            clear BK188
            clear BK189
            clear HB
            have HO_190002 := n0_
            have BK187 := n1_
            have BK188 := n2_
            have BK189 := n3_
            have HB := n4_
            clear n0_ n1_ n2_ n3_ n4_
            have p191 : 0 ≤ (x7_1 : Int) := of_decide_eq_true (by assumption)
            have q191 : x7_1 < (l1.length : Int) := of_decide_eq_true (by assumption)
            obtain ⟨ad191, A191_1, c191_1, A191_2, c191_2, e191, hx191_0, hx191_1, hx191_2, hx191_3, hl191_1, hi191_1, hl191_2, hi191_2⟩ := at_T44 HR1.out x7_1 p191 q191
            have hw191_3 := hx191_3
            have hw191_2 := hx191_2
            have hw191_1 := hx191_1
            have hw191_0 := hx191_0
            obtain rfl : ad190 = ad191 := (by injection e191)
            replace hx191_0 := pw_cell_below HB.out hx191_0
            replace hx191_1 := pw_cell_below HB.out hx191_1
            replace hx191_2 := pw_cell_below HB.out hx191_2
            replace hx191_3 := pw_cell_below HB.out hx191_3
            have HR191_1 := Aside0.mk hi191_1
            have HC191_1 := Aside0.mk hl191_1
            clear hi191_1 hl191_1
            have HR191_2 := Aside0.mk hi191_2
            have HC191_2 := Aside0.mk hl191_2
            clear hi191_2 hl191_2
            replace p191 := eq_true p191
            replace q191 := eq_true q191
            refine start_ (n := 10) (S := fun w' => w'.cell? ⟨gb189, 0, none⟩ = some (.int .u64 x190000_1) ∧ w'.cell? ⟨gb189, 1, none⟩ = some (.int .i64 x190001_1) ∧ w'.cell? ⟨gb189, 2, none⟩ = some (u190002) ∧ w'.cell? (ad190.add ((x7_1).toNat * 4)) = some (.int .i64 ((rd_T44 l1 x7_1).f0.f0)) ∧ w'.cell? ⟨(ad190.add ((x7_1).toNat * 4)).block, (ad190.add ((x7_1).toNat * 4)).off + 1, none⟩ = some (.slice A191_1 ((rd_T44 l1 x7_1).f0.f1).length c191_1) ∧ w'.cell? ⟨(ad190.add ((x7_1).toNat * 4)).block, (ad190.add ((x7_1).toNat * 4)).off + 2, none⟩ = some (.slice A191_2 ((rd_T44 l1 x7_1).f0.f2).length c191_2) ∧ w'.cell? ⟨(ad190.add ((x7_1).toNat * 4)).block, (ad190.add ((x7_1).toNat * 4)).off + 3, none⟩ = some (.int .u64 ((rd_T44 l1 x7_1).f1))) (ds := [9]) #[false, false, false, false, false, false, false, false, false, false] (by kernel_rfl) rfl rfl ⟨(blk_cell BK189.out 0).trans rfl, (blk_cell BK189.out 1).trans rfl, (blk_cell BK189.out 2).trans rfl, (pw_cell_below HB.out hw191_0), (pw_cell_below HB.out hw191_1), (pw_cell_below HB.out hw191_2), (pw_cell_below HB.out hw191_3)⟩ (fun hHeld => ?_); refine with_tabW gristmillref06_Of.tab7 gristmillref06_Of.bits7 (fun HT_ HW_ => ?_)
            generalize wr.drew = w45 at HO_190002 BK187 BK188 BK189 HB HR191_1 HR191_2 hx191_0 hx191_1 hx191_2 hx191_3 hHeld ⊢
            refine pure_ (i := 0) (N := some 20) (v := ?_) (a' := ?_) #[true, false, false, false, false, false, false, false, false, false] rfl rfl (any_of HT_.out (by kernel_rfl)) (fun _ _ _ h => h) (Or.inl ⟨by rfl, ?_⟩) ?_ ?_
            rotate_left
            ·intro w'
             go_simp
             with_reducible rfl
            rotate_left
            ·simp only [Act.put, q1_, q2_, q3_, i64_w, i32_w]
             rfl
            refine pure_ (i := 2) (N := some 22) (v := ?_) (a' := ?_) #[true, false, true, false, false, false, false, false, false, false] rfl rfl (any_of HT_.out (by kernel_rfl)) (fun _ _ _ h => h) (Or.inl ⟨by rfl, ?_⟩) ?_ ?_
            rotate_left
            ·intro w'
             go_simp
             with_reducible rfl
            rotate_left
            ·simp only [Act.put, q1_, q2_, q3_, i64_w, i32_w]
             rfl
            refine pure_ (i := 3) (N := some 23) (v := ?_) (a' := ?_) #[true, false, true, true, false, false, false, false, false, false] rfl rfl (any_of HT_.out (by kernel_rfl)) (fun _ _ _ h => h) (Or.inl ⟨by rfl, ?_⟩) ?_ ?_
            rotate_left
            ·intro w'
             go_simp
             with_reducible rfl
            rotate_left
            ·simp only [Act.put, q1_, q2_, q3_, i64_w, i32_w]
             rfl
            refine pure_ (i := 4) (N := some 24) (v := ?_) (a' := ?_) #[true, false, true, true, true, false, false, false, false, false] rfl rfl (any_of HT_.out (by kernel_rfl)) (fun _ _ _ h => h) (Or.inl ⟨by rfl, ?_⟩) ?_ ?_
            rotate_left
            ·intro w'
             go_simp
             with_reducible rfl
            rotate_left
            ·simp only [Act.put, q1_, q2_, q3_, i64_w, i32_w]
             rfl
            refine pure_ (i := 5) (N := some 25) (v := ?_) (a' := ?_) #[true, false, true, true, true, true, false, false, false, false] rfl rfl (any_of HT_.out (by kernel_rfl)) (fun _ _ _ h => h) (Or.inl ⟨by rfl, ?_⟩) ?_ ?_
            rotate_left
            ·intro w'
             go_simp
             with_reducible rfl
            rotate_left
            ·simp only [Act.put, q1_, q2_, q3_, i64_w, i32_w]
             rfl
            refine take_ (i := 1) (N := some 21) (v := ?_) (a' := ?_) #[true, true, true, true, true, true, false, false, false, false] rfl rfl (take_ofW HT_.out HW_.out (by kernel_rfl)) (fun _ _ _ h => h) (Or.inl ⟨by rfl, ?_⟩) hHeld ?_ ?_
            rotate_left
            ·rintro w' ⟨s0, s1, s2, s3, s4, s5, s6⟩
             go_simp
             with_reducible rfl
            rotate_left
            ·simp only [Act.put, q1_, q2_, q3_, i64_w, i32_w]
             rfl
            refine take_ (i := 6) (N := some 26) (v := ?_) (a' := ?_) #[true, true, true, true, true, true, true, false, false, false] rfl rfl (take_ofW HT_.out HW_.out (by kernel_rfl)) (fun _ _ _ h => h) (Or.inl ⟨by rfl, ?_⟩) hHeld ?_ ?_
            rotate_left
            ·rintro w' ⟨s0, s1, s2, s3, s4, s5, s6⟩
             go_simp
             with_reducible rfl
            rotate_left
            ·simp only [Act.put, q1_, q2_, q3_, i64_w, i32_w]
             rfl
            refine pure_ (i := 7) (N := some 27) (v := ?_) (a' := ?_) #[true, true, true, true, true, true, true, true, false, false] rfl rfl (any_of HT_.out (by kernel_rfl)) (fun _ _ _ h => h) (Or.inl ⟨by rfl, ?_⟩) ?_ ?_
            rotate_left
            ·intro w'
             go_simp
             with_reducible rfl
            rotate_left
            ·simp only [Act.put, q1_, q2_, q3_, i64_w, i32_w]
             rfl
            refine pure_ (i := 8) (N := some 28) (v := ?_) (a' := ?_) #[true, true, true, true, true, true, true, true, true, false] rfl rfl (any_of HT_.out (by kernel_rfl)) (fun _ _ _ h => h) (Or.inl ⟨by rfl, ?_⟩) ?_ ?_
            rotate_left
            ·intro w'
             go_simp
             with_reducible rfl
            rotate_left
            ·simp only [Act.put, q1_, q2_, q3_, i64_w, i32_w]
             rfl
            refine last_ (i := 9) (N := none) #[true, true, true, true, true, true, true, true, true, true] rfl rfl (one_of HT_.out (by kernel_rfl)) (by decide) (fun K hK => ?_)
            have hs46 : w45.cell? ⟨gb189, 0, none⟩ = some (.int .u64 x190000_1) := (blk_cell BK189.out 0).trans rfl
            have hfs46 := blk_frozen BK189.out 0
            have hns46_0 := NB187_189.out
            have hns46_1 := NB188_189.out
            have hms46_0 := NB189_187.out
            have hms46_1 := NB189_188.out
            refine skip_ (w1 := ?_) (by rfl) rfl ?_ ?_
            rotate_left
            ·go_simp
             rfl
            refine hK.out _ _ ?_
            clear hK K
            refine done_ (done_of HT_.out (by kernel_rfl)) ?_
            have hnb47 := NB187_188.out
            have hnc47 := NB188_187.out
            have hnb48 := NB187_189.out
            have hnc48 := NB189_187.out
            have hcz49_0 : w45.cell? ⟨gb187, 0, none⟩ = some (.int .i64 a0_0) := (blk_cell BK187.out 0).trans rfl
            have hcz49_1 : w45.cell? ⟨gb187, 1, none⟩ = some (.int .i64 a0_1) := (blk_cell BK187.out 1).trans rfl
            have hfz49_0 := blk_frozen BK187.out 0
            have hfz49_1 := blk_frozen BK187.out 1
            try go_wp2
            have n0_ : Aside0 (Kd.R Kd.string 9 (w45.setCell ⟨gb189, 0, none⟩ (.int .u64 (IntKind.u64.wrap (x190000_1 + ((rd_T44 l1 x7_1).f1))))) w.heap.size (fun _ => True) u190002 x190002_1) := ⟨by (with_reducible repeat (first | apply Kd.R_alloc | apply Kd.R_drewN | apply Kd.R_drew)); exact Kd.R_mono (Kd.R_far (p := ⟨gb189, 0, none⟩) (Kd.R_types HO_190002.out BK189.out (by decide)) (fun _ hk => hk.2) (.int .u64 (IntKind.u64.wrap (x190000_1 + ((rd_T44 l1 x7_1).f1))))) (fun _ hk => trivial)⟩
            have n1_ : Aside0 ((w45.setCell ⟨gb189, 0, none⟩ (.int .u64 (IntKind.u64.wrap (x190000_1 + ((rd_T44 l1 x7_1).f1))))).heap[gb187]? = some (.cells #[.int .i64 a0_0, .int .i64 a0_1] 23 (0, 0))) := ⟨by (with_reducible repeat (first | refine blk_drewN ?_ _ | refine blk_drew ?_ | refine blk_alloc ?_ _)); refine blk_far ?_ NB187_189.out _; (with_reducible repeat (first | refine blk_drewN ?_ _ | refine blk_drew ?_ | refine blk_alloc ?_ _)); exact BK187.out⟩
            have n2_ : Aside0 ((w45.setCell ⟨gb189, 0, none⟩ (.int .u64 (IntKind.u64.wrap (x190000_1 + ((rd_T44 l1 x7_1).f1))))).heap[gb188]? = some (.cells #[.int .u64 0, .int .i64 0, .slice none 0 0] 33 (0, 0))) := ⟨by (with_reducible repeat (first | refine blk_drewN ?_ _ | refine blk_drew ?_ | refine blk_alloc ?_ _)); refine blk_far ?_ NB188_189.out _; (with_reducible repeat (first | refine blk_drewN ?_ _ | refine blk_drew ?_ | refine blk_alloc ?_ _)); exact BK188.out⟩
            have n3_ : Aside0 ((w45.setCell ⟨gb189, 0, none⟩ (.int .u64 (IntKind.u64.wrap (x190000_1 + ((rd_T44 l1 x7_1).f1))))).heap[gb189]? = some (.cells #[.int .u64 (IntKind.u64.wrap (x190000_1 + ((rd_T44 l1 x7_1).f1))), .int .i64 x190001_1, u190002] 33 (0, 0))) := ⟨by (with_reducible repeat (first | refine blk_drewN ?_ _ | refine blk_drew ?_ | refine blk_alloc ?_ _)); refine blk_put (cs := #[.int .u64 x190000_1, .int .i64 x190001_1, u190002]) ?_ 0 _ rfl; (with_reducible repeat (first | refine blk_drewN ?_ _ | refine blk_drew ?_ | refine blk_alloc ?_ _)); exact BK189.out⟩
            have n4_ : Aside0 (Below w.heap.size w (w45.setCell ⟨gb189, 0, none⟩ (.int .u64 (IntKind.u64.wrap (x190000_1 + ((rd_T44 l1 x7_1).f1)))))) := ⟨by repeat (first | (with_reducible first | exact HB.out | apply below_alloc | apply pw_below_drewN | apply below_drew1 | refine below_set ?_ GE187.out | refine below_set ?_ GE188.out | refine below_set ?_ GE189.out) | exact HB.out)⟩
            (try clear HO_190002)
            (try clear BK187)
            (try clear BK188)
            (try clear BK189)
            (try clear HB)
            generalize (w45.setCell ⟨gb189, 0, none⟩ (.int .u64 (IntKind.u64.wrap (x190000_1 + ((rd_T44 l1 x7_1).f1))))) = w50 at n0_ n1_ n2_ n3_ n4_ ⊢
            have HO_190002 := n0_
            have BK187 := n1_
            have BK188 := n2_
            have BK189 := n3_
            have HB := n4_
            clear n0_ n1_ n2_ n3_ n4_
            have n0_ := Aside0.mk (Kd.R_drew HO_190002.out)
            have n1_ := Aside0.mk (blk_drew BK187.out)
            have n2_ := Aside0.mk (blk_drew BK188.out)
            have n3_ := Aside0.mk (blk_drew BK189.out)
            have n4_ := Aside0.mk (below_drew1 HB.out)
            clear HO_190002
            clear BK187
            clear BK188
            clear BK189
            clear HB
            have HO_190002 := n0_
            have BK187 := n1_
            have BK188 := n2_
            have BK189 := n3_
            have HB := n4_
            clear n0_ n1_ n2_ n3_ n4_
            have p197 : 0 ≤ (x7_1 : Int) := of_decide_eq_true (by assumption)
            have q197 : x7_1 < (l1.length : Int) := of_decide_eq_true (by assumption)
            obtain ⟨ad197, A197_1, c197_1, A197_2, c197_2, e197, hx197_0, hx197_1, hx197_2, hx197_3, hl197_1, hi197_1, hl197_2, hi197_2⟩ := at_T44 HR1.out x7_1 p197 q197
            have hw197_3 := hx197_3
            have hw197_2 := hx197_2
            have hw197_1 := hx197_1
            have hw197_0 := hx197_0
            obtain rfl : ad190 = ad197 := (by injection e197)
            replace hx197_0 := pw_cell_below HB.out hx197_0
            replace hx197_1 := pw_cell_below HB.out hx197_1
            replace hx197_2 := pw_cell_below HB.out hx197_2
            replace hx197_3 := pw_cell_below HB.out hx197_3
            have HR197_1 := Aside0.mk hi197_1
            have HC197_1 := Aside0.mk hl197_1
            clear hi197_1 hl197_1
            have HR197_2 := Aside0.mk hi197_2
            have HC197_2 := Aside0.mk hl197_2
            clear hi197_2 hl197_2
            replace p197 := eq_true p197
            replace q197 := eq_true q197
            have p198 : 0 ≤ (a0_1 : Int) := of_decide_eq_true (by assumption)
            have q198 : a0_1 < (((rd_T44 l1 x7_1).f0.f2).length : Int) := of_decide_eq_true (by assumption)
            obtain ⟨ad198, e198, hx198_0⟩ := Kd.at_int HR197_2.out a0_1 p198 q198
            have hw198_0 := hx198_0
            cases e198
            replace hx198_0 := pw_cell_below HB.out hx198_0
            replace p198 := eq_true p198
            replace q198 := eq_true q198
            refine start_ (n := 16) (S := fun w' => w'.cell? ⟨gb187, 0, none⟩ = some (.int .i64 a0_0) ∧ w'.cell? ⟨gb187, 1, none⟩ = some (.int .i64 a0_1) ∧ w'.cell? ⟨gb189, 0, none⟩ = some (.int .u64 (IntKind.u64.wrap (x190000_1 + ((rd_T44 l1 x7_1).f1)))) ∧ w'.cell? ⟨gb189, 1, none⟩ = some (.int .i64 x190001_1) ∧ w'.cell? ⟨gb189, 2, none⟩ = some (u190002) ∧ w'.cell? (ad190.add ((x7_1).toNat * 4)) = some (.int .i64 ((rd_T44 l1 x7_1).f0.f0)) ∧ w'.cell? ⟨(ad190.add ((x7_1).toNat * 4)).block, (ad190.add ((x7_1).toNat * 4)).off + 1, none⟩ = some (.slice A197_1 ((rd_T44 l1 x7_1).f0.f1).length c197_1) ∧ w'.cell? ⟨(ad190.add ((x7_1).toNat * 4)).block, (ad190.add ((x7_1).toNat * 4)).off + 2, none⟩ = some (.slice (some ad198) ((rd_T44 l1 x7_1).f0.f2).length c197_2) ∧ w'.cell? ⟨(ad190.add ((x7_1).toNat * 4)).block, (ad190.add ((x7_1).toNat * 4)).off + 3, none⟩ = some (.int .u64 ((rd_T44 l1 x7_1).f1)) ∧ w'.cell? (ad198.add (a0_1).toNat) = some (.int .i64 (rd ((rd_T44 l1 x7_1).f0.f2) a0_1))) (ds := []) #[false, false, false, false, false, false, false, false, false, false, false, false, false, false, false, false] (by kernel_rfl) rfl rfl ⟨(blk_cell BK187.out 0).trans rfl, (blk_cell BK187.out 1).trans rfl, (blk_cell BK189.out 0).trans rfl, (blk_cell BK189.out 1).trans rfl, (blk_cell BK189.out 2).trans rfl, (pw_cell_below HB.out hw197_0), (pw_cell_below HB.out hw197_1), (pw_cell_below HB.out hw197_2), (pw_cell_below HB.out hw197_3), (pw_cell_below HB.out hw198_0)⟩ (fun hHeld => ?_); refine with_tabW gristmillref06_Of.tab12 gristmillref06_Of.bits12 (fun HT_ HW_ => ?_)
            generalize w50.drew = w51 at HO_190002 BK187 BK188 BK189 HB HR197_1 HR197_2 hx197_0 hx197_1 hx197_2 hx197_3 hx198_0 hHeld ⊢
            refine pure_ (i := 0) (N := some 56) (v := ?_) (a' := ?_) #[true, false, false, false, false, false, false, false, false, false, false, false, false, false, false, false] rfl rfl (any_of HT_.out (by kernel_rfl)) (fun _ _ _ h => h) (Or.inl ⟨by rfl, ?_⟩) ?_ ?_
            rotate_left
            ·intro w'
             go_simp
             with_reducible rfl
            rotate_left
            ·simp only [Act.put, q1_, q2_, q3_, i64_w, i32_w]
             rfl
            refine pure_ (i := 1) (N := some 57) (v := ?_) (a' := ?_) #[true, true, false, false, false, false, false, false, false, false, false, false, false, false, false, false] rfl rfl (any_of HT_.out (by kernel_rfl)) (fun _ _ _ h => h) (Or.inl ⟨by rfl, ?_⟩) ?_ ?_
            rotate_left
            ·intro w'
             go_simp
             with_reducible rfl
            rotate_left
            ·simp only [Act.put, q1_, q2_, q3_, i64_w, i32_w]
             rfl
            refine pure_ (i := 2) (N := some 58) (v := ?_) (a' := ?_) #[true, true, true, false, false, false, false, false, false, false, false, false, false, false, false, false] rfl rfl (any_of HT_.out (by kernel_rfl)) (fun _ _ _ h => h) (Or.inl ⟨by rfl, ?_⟩) ?_ ?_
            rotate_left
            ·intro w'
             go_simp
             with_reducible rfl
            rotate_left
            ·simp only [Act.put, q1_, q2_, q3_, i64_w, i32_w]
             rfl
            refine pure_ (i := 3) (N := some 59) (v := ?_) (a' := ?_) #[true, true, true, true, false, false, false, false, false, false, false, false, false, false, false, false] rfl rfl (any_of HT_.out (by kernel_rfl)) (fun _ _ _ h => h) (Or.inl ⟨by rfl, ?_⟩) ?_ ?_
            rotate_left
            ·intro w'
             go_simp
             with_reducible rfl
            rotate_left
            ·simp only [Act.put, q1_, q2_, q3_, i64_w, i32_w]
             rfl
            refine pure_ (i := 4) (N := some 60) (v := ?_) (a' := ?_) #[true, true, true, true, true, false, false, false, false, false, false, false, false, false, false, false] rfl rfl (any_of HT_.out (by kernel_rfl)) (fun _ _ _ h => h) (Or.inl ⟨by rfl, ?_⟩) ?_ ?_
            rotate_left
            ·intro w'
             go_simp
             with_reducible rfl
            rotate_left
            ·simp only [Act.put, q1_, q2_, q3_, i64_w, i32_w]
             rfl
            refine pure_ (i := 5) (N := some 61) (v := ?_) (a' := ?_) #[true, true, true, true, true, true, false, false, false, false, false, false, false, false, false, false] rfl rfl (any_of HT_.out (by kernel_rfl)) (fun _ _ _ h => h) (Or.inl ⟨by rfl, ?_⟩) ?_ ?_
            rotate_left
            ·intro w'
             go_simp
             with_reducible rfl
            rotate_left
            ·simp only [Act.put, q1_, q2_, q3_, i64_w, i32_w]
             rfl
            refine pure_ (i := 6) (N := some 62) (v := ?_) (a' := ?_) #[true, true, true, true, true, true, true, false, false, false, false, false, false, false, false, false] rfl rfl (any_of HT_.out (by kernel_rfl)) (fun _ _ _ h => h) (Or.inl ⟨by rfl, ?_⟩) ?_ ?_
            rotate_left
            ·intro w'
             go_simp
             with_reducible rfl
            rotate_left
            ·simp only [Act.put, q1_, q2_, q3_, i64_w, i32_w]
             rfl
            refine pure_ (i := 8) (N := some 64) (v := ?_) (a' := ?_) #[true, true, true, true, true, true, true, false, true, false, false, false, false, false, false, false] rfl rfl (any_of HT_.out (by kernel_rfl)) (fun _ _ _ h => h) (Or.inl ⟨by rfl, ?_⟩) ?_ ?_
            rotate_left
            ·intro w'
             go_simp
             with_reducible rfl
            rotate_left
            ·simp only [Act.put, q1_, q2_, q3_, i64_w, i32_w]
             rfl
            refine pure_ (i := 12) (N := some 68) (v := ?_) (a' := ?_) #[true, true, true, true, true, true, true, false, true, false, false, false, true, false, false, false] rfl rfl (any_of HT_.out (by kernel_rfl)) (fun _ _ _ h => h) (Or.inl ⟨by rfl, ?_⟩) ?_ ?_
            rotate_left
            ·intro w'
             go_simp
             with_reducible rfl
            rotate_left
            ·simp only [Act.put, q1_, q2_, q3_, i64_w, i32_w]
             rfl
            refine take_ (i := 7) (N := some 63) (v := ?_) (a' := ?_) #[true, true, true, true, true, true, true, true, true, false, false, false, true, false, false, false] rfl rfl (take_ofW HT_.out HW_.out (by kernel_rfl)) (fun _ _ _ h => h) (Or.inl ⟨by rfl, ?_⟩) hHeld ?_ ?_
            rotate_left
            ·rintro w' ⟨s0, s1, s2, s3, s4, s5, s6, s7, s8, s9⟩
             go_simp
             with_reducible rfl
            rotate_left
            ·simp only [Act.put, q1_, q2_, q3_, i64_w, i32_w]
             rfl
            refine take_ (i := 9) (N := some 65) (v := ?_) (a' := ?_) #[true, true, true, true, true, true, true, true, true, true, false, false, true, false, false, false] rfl rfl (take_ofW HT_.out HW_.out (by kernel_rfl)) (fun _ _ _ h => h) (Or.inl ⟨by rfl, ?_⟩) hHeld ?_ ?_
            rotate_left
            ·rintro w' ⟨s0, s1, s2, s3, s4, s5, s6, s7, s8, s9⟩
             go_simp
             with_reducible rfl
            rotate_left
            ·simp only [Act.put, q1_, q2_, q3_, i64_w, i32_w]
             rfl
            refine pure_ (i := 10) (N := some 66) (v := ?_) (a' := ?_) #[true, true, true, true, true, true, true, true, true, true, true, false, true, false, false, false] rfl rfl (any_of HT_.out (by kernel_rfl)) (fun _ _ _ h => h) (Or.inl ⟨by rfl, ?_⟩) ?_ ?_
            rotate_left
            ·intro w'
             go_simp
             with_reducible rfl
            rotate_left
            ·simp only [Act.put, q1_, q2_, q3_, i64_w, i32_w]
             rfl
            refine take_ (i := 11) (N := some 67) (v := ?_) (a' := ?_) #[true, true, true, true, true, true, true, true, true, true, true, true, true, false, false, false] rfl rfl (take_ofW HT_.out HW_.out (by kernel_rfl)) (fun _ _ _ h => h) (Or.inl ⟨by rfl, ?_⟩) hHeld ?_ ?_
            rotate_left
            ·rintro w' ⟨s0, s1, s2, s3, s4, s5, s6, s7, s8, s9⟩
             go_simp
             with_reducible rfl
            rotate_left
            ·simp only [Act.put, q1_, q2_, q3_, i64_w, i32_w]
             rfl
            refine take_ (i := 13) (N := some 69) (v := ?_) (a' := ?_) #[true, true, true, true, true, true, true, true, true, true, true, true, true, true, false, false] rfl rfl (take_ofW HT_.out HW_.out (by kernel_rfl)) (fun _ _ _ h => h) (Or.inl ⟨by rfl, ?_⟩) hHeld ?_ ?_
            rotate_left
            ·rintro w' ⟨s0, s1, s2, s3, s4, s5, s6, s7, s8, s9⟩
             go_simp
             with_reducible rfl
            rotate_left
            ·simp only [Act.put, q1_, q2_, q3_, i64_w, i32_w]
             rfl
            refine pure_ (i := 14) (N := some 70) (v := ?_) (a' := ?_) #[true, true, true, true, true, true, true, true, true, true, true, true, true, true, true, false] rfl rfl (any_of HT_.out (by kernel_rfl)) (fun _ _ _ h => h) (Or.inl ⟨by rfl, ?_⟩) ?_ ?_
            rotate_left
            ·intro w'
             go_simp
             with_reducible rfl
            rotate_left
            ·simp only [Act.put, q1_, q2_, q3_, i64_w, i32_w]
             rfl
            refine pure_ (i := 15) (N := some 71) (v := ?_) (a' := ?_) #[true, true, true, true, true, true, true, true, true, true, true, true, true, true, true, true] rfl rfl (any_of HT_.out (by kernel_rfl)) (fun _ _ _ h => h) (Or.inl ⟨by rfl, ?_⟩) ?_ ?_
            rotate_left
            ·intro w'
             go_simp
             with_reducible rfl
            rotate_left
            ·simp only [Act.put, q1_, q2_, q3_, i64_w, i32_w]
             rfl
            refine done_ (done_of HT_.out (by kernel_rfl)) ?_
            try go_wp2
            go_roundg k1
            case measure => have := HK1.out; omega
            case rel => exact ⟨(false), (wrap64 (x7_1 + 1)), (IntKind.u64.wrap (x190000_1 + ((rd_T44 l1 x7_1).f1))), (x190001_1), (x190002_1), (u190002), (by first | rfl | (simp; done) | (simp [*]; done)), (by first | rfl | (simp; done) | (simp [*]; done)), H', ⟨by have := HK1.out; omega⟩, ⟨by (with_reducible repeat (first | apply Kd.R_alloc | apply Kd.R_drewN | apply Kd.R_drew)); exact HO_190002.out⟩, ⟨by (with_reducible repeat (first | refine blk_drewN ?_ _ | refine blk_drew ?_ | refine blk_alloc ?_ _)); exact BK187.out⟩, ⟨by (with_reducible repeat (first | refine blk_drewN ?_ _ | refine blk_drew ?_ | refine blk_alloc ?_ _)); exact BK188.out⟩, ⟨by (with_reducible repeat (first | refine blk_drewN ?_ _ | refine blk_drew ?_ | refine blk_alloc ?_ _)); exact BK189.out⟩, ⟨by repeat (first | (with_reducible first | exact HB.out | apply below_alloc | apply pw_below_drewN | apply below_drew1 | refine below_set ?_ GE187.out | refine below_set ?_ GE188.out | refine below_set ?_ GE189.out) | exact HB.out)⟩⟩
          ·rw [if_neg c34] at H
           exact absurd H (by simp)
         ·rw [if_neg c33] at H
          exact absurd H (by simp)
       ·rw [if_neg c20] at H
        have c20b0 : (a0_0 == 3) = false := beq_eq_false_iff_ne.mpr c20
        have c20b1 : (a0_0 != 3) = true := bne_iff_ne.mpr c20
        by_cases c52 : a0_0 = 4
        ·rw [if_pos c52] at H
         have c52b0 : (a0_0 == 4) = true := beq_iff_eq.mpr c52
         have c52b1 : (a0_0 != 4) = false := bne_eq_false_iff_eq.mpr c52
         clear c52
         by_cases c53 : x6_1 = true
         ·subst c53
          have H1 : (if 0 ≤ a0_1 then (if a0_1 < (((rd_T44 l1 x7_1).f0.f2).length : Int) then (gristmillref06_Of.l0 k1 l1 false (wrap64 (x7_1 + 1)) a0_0 a0_1 (IntKind.u64.wrap (x190000_1 + ((rd_T44 l1 x7_1).f1))) (rd ((rd_T44 l1 x7_1).f0.f2) a0_1) x190002_1) else (none)) else (none)) = some (r1, r2, r3) := by rw [if_pos rfl] at H; exact H
          clear H
          have H := H1
          clear H1
          by_cases c54 : 0 ≤ a0_1
          ·rw [if_pos c54] at H
           have c54b0 : decide (0 ≤ a0_1) = true := decide_eq_true c54
           clear c54
           by_cases c55 : a0_1 < (((rd_T44 l1 x7_1).f0.f2).length : Int)
           ·rw [if_pos c55] at H
            have c55b0 : decide (a0_1 < (((rd_T44 l1 x7_1).f0.f2).length : Int)) = true := decide_eq_true c55
            clear c55
            have H' := Aside0.mk H
            clear H
            have p190 : 0 ≤ (x7_1 : Int) := of_decide_eq_true (by assumption)
            have q190 : x7_1 < (l1.length : Int) := of_decide_eq_true (by assumption)
            obtain ⟨ad190, A190_1, c190_1, A190_2, c190_2, e190, hx190_0, hx190_1, hx190_2, hx190_3, hl190_1, hi190_1, hl190_2, hi190_2⟩ := at_T44 HR1.out x7_1 p190 q190
            cases e190
            replace hx190_0 := pw_cell_below HB.out hx190_0
            replace hx190_1 := pw_cell_below HB.out hx190_1
            replace hx190_2 := pw_cell_below HB.out hx190_2
            replace hx190_3 := pw_cell_below HB.out hx190_3
            have HR190_1 := Aside0.mk hi190_1
            have HC190_1 := Aside0.mk hl190_1
            clear hi190_1 hl190_1
            have HR190_2 := Aside0.mk hi190_2
            have HC190_2 := Aside0.mk hl190_2
            clear hi190_2 hl190_2
            replace p190 := eq_true p190
            replace q190 := eq_true q190
            try go_wp2
            have n0_ := Aside0.mk (Kd.R_drew HO_190002.out)
            have n1_ := Aside0.mk (blk_drew BK187.out)
            have n2_ := Aside0.mk (blk_drew BK188.out)
            have n3_ := Aside0.mk (blk_drew BK189.out)
            have n4_ := Aside0.mk (below_drew1 HB.out)
            clear HO_190002
            clear BK187
            clear BK188
            clear BK189
            clear HB
            have HO_190002 := n0_
            have BK187 := n1_
            have BK188 := n2_
            have BK189 := n3_
            have HB := n4_
            clear n0_ n1_ n2_ n3_ n4_
            have p191 : 0 ≤ (x7_1 : Int) := of_decide_eq_true (by assumption)
            have q191 : x7_1 < (l1.length : Int) := of_decide_eq_true (by assumption)
            obtain ⟨ad191, A191_1, c191_1, A191_2, c191_2, e191, hx191_0, hx191_1, hx191_2, hx191_3, hl191_1, hi191_1, hl191_2, hi191_2⟩ := at_T44 HR1.out x7_1 p191 q191
            have hw191_3 := hx191_3
            have hw191_2 := hx191_2
            have hw191_1 := hx191_1
            have hw191_0 := hx191_0
            obtain rfl : ad190 = ad191 := (by injection e191)
            replace hx191_0 := pw_cell_below HB.out hx191_0
            replace hx191_1 := pw_cell_below HB.out hx191_1
            replace hx191_2 := pw_cell_below HB.out hx191_2
            replace hx191_3 := pw_cell_below HB.out hx191_3
            have HR191_1 := Aside0.mk hi191_1
            have HC191_1 := Aside0.mk hl191_1
            clear hi191_1 hl191_1
            have HR191_2 := Aside0.mk hi191_2
            have HC191_2 := Aside0.mk hl191_2
            clear hi191_2 hl191_2
            replace p191 := eq_true p191
            replace q191 := eq_true q191
            refine start_ (n := 10) (S := fun w' => w'.cell? ⟨gb189, 0, none⟩ = some (.int .u64 x190000_1) ∧ w'.cell? ⟨gb189, 1, none⟩ = some (.int .i64 x190001_1) ∧ w'.cell? ⟨gb189, 2, none⟩ = some (u190002) ∧ w'.cell? (ad190.add ((x7_1).toNat * 4)) = some (.int .i64 ((rd_T44 l1 x7_1).f0.f0)) ∧ w'.cell? ⟨(ad190.add ((x7_1).toNat * 4)).block, (ad190.add ((x7_1).toNat * 4)).off + 1, none⟩ = some (.slice A191_1 ((rd_T44 l1 x7_1).f0.f1).length c191_1) ∧ w'.cell? ⟨(ad190.add ((x7_1).toNat * 4)).block, (ad190.add ((x7_1).toNat * 4)).off + 2, none⟩ = some (.slice A191_2 ((rd_T44 l1 x7_1).f0.f2).length c191_2) ∧ w'.cell? ⟨(ad190.add ((x7_1).toNat * 4)).block, (ad190.add ((x7_1).toNat * 4)).off + 3, none⟩ = some (.int .u64 ((rd_T44 l1 x7_1).f1))) (ds := [9]) #[false, false, false, false, false, false, false, false, false, false] (by kernel_rfl) rfl rfl ⟨(blk_cell BK189.out 0).trans rfl, (blk_cell BK189.out 1).trans rfl, (blk_cell BK189.out 2).trans rfl, (pw_cell_below HB.out hw191_0), (pw_cell_below HB.out hw191_1), (pw_cell_below HB.out hw191_2), (pw_cell_below HB.out hw191_3)⟩ (fun hHeld => ?_); refine with_tabW gristmillref06_Of.tab7 gristmillref06_Of.bits7 (fun HT_ HW_ => ?_)
            generalize wr.drew = w56 at HO_190002 BK187 BK188 BK189 HB HR191_1 HR191_2 hx191_0 hx191_1 hx191_2 hx191_3 hHeld ⊢
            refine pure_ (i := 0) (N := some 20) (v := ?_) (a' := ?_) #[true, false, false, false, false, false, false, false, false, false] rfl rfl (any_of HT_.out (by kernel_rfl)) (fun _ _ _ h => h) (Or.inl ⟨by rfl, ?_⟩) ?_ ?_
            rotate_left
            ·intro w'
             go_simp
             with_reducible rfl
            rotate_left
            ·simp only [Act.put, q1_, q2_, q3_, i64_w, i32_w]
             rfl
            refine pure_ (i := 2) (N := some 22) (v := ?_) (a' := ?_) #[true, false, true, false, false, false, false, false, false, false] rfl rfl (any_of HT_.out (by kernel_rfl)) (fun _ _ _ h => h) (Or.inl ⟨by rfl, ?_⟩) ?_ ?_
            rotate_left
            ·intro w'
             go_simp
             with_reducible rfl
            rotate_left
            ·simp only [Act.put, q1_, q2_, q3_, i64_w, i32_w]
             rfl
            refine pure_ (i := 3) (N := some 23) (v := ?_) (a' := ?_) #[true, false, true, true, false, false, false, false, false, false] rfl rfl (any_of HT_.out (by kernel_rfl)) (fun _ _ _ h => h) (Or.inl ⟨by rfl, ?_⟩) ?_ ?_
            rotate_left
            ·intro w'
             go_simp
             with_reducible rfl
            rotate_left
            ·simp only [Act.put, q1_, q2_, q3_, i64_w, i32_w]
             rfl
            refine pure_ (i := 4) (N := some 24) (v := ?_) (a' := ?_) #[true, false, true, true, true, false, false, false, false, false] rfl rfl (any_of HT_.out (by kernel_rfl)) (fun _ _ _ h => h) (Or.inl ⟨by rfl, ?_⟩) ?_ ?_
            rotate_left
            ·intro w'
             go_simp
             with_reducible rfl
            rotate_left
            ·simp only [Act.put, q1_, q2_, q3_, i64_w, i32_w]
             rfl
            refine pure_ (i := 5) (N := some 25) (v := ?_) (a' := ?_) #[true, false, true, true, true, true, false, false, false, false] rfl rfl (any_of HT_.out (by kernel_rfl)) (fun _ _ _ h => h) (Or.inl ⟨by rfl, ?_⟩) ?_ ?_
            rotate_left
            ·intro w'
             go_simp
             with_reducible rfl
            rotate_left
            ·simp only [Act.put, q1_, q2_, q3_, i64_w, i32_w]
             rfl
            refine take_ (i := 1) (N := some 21) (v := ?_) (a' := ?_) #[true, true, true, true, true, true, false, false, false, false] rfl rfl (take_ofW HT_.out HW_.out (by kernel_rfl)) (fun _ _ _ h => h) (Or.inl ⟨by rfl, ?_⟩) hHeld ?_ ?_
            rotate_left
            ·rintro w' ⟨s0, s1, s2, s3, s4, s5, s6⟩
             go_simp
             with_reducible rfl
            rotate_left
            ·simp only [Act.put, q1_, q2_, q3_, i64_w, i32_w]
             rfl
            refine take_ (i := 6) (N := some 26) (v := ?_) (a' := ?_) #[true, true, true, true, true, true, true, false, false, false] rfl rfl (take_ofW HT_.out HW_.out (by kernel_rfl)) (fun _ _ _ h => h) (Or.inl ⟨by rfl, ?_⟩) hHeld ?_ ?_
            rotate_left
            ·rintro w' ⟨s0, s1, s2, s3, s4, s5, s6⟩
             go_simp
             with_reducible rfl
            rotate_left
            ·simp only [Act.put, q1_, q2_, q3_, i64_w, i32_w]
             rfl
            refine pure_ (i := 7) (N := some 27) (v := ?_) (a' := ?_) #[true, true, true, true, true, true, true, true, false, false] rfl rfl (any_of HT_.out (by kernel_rfl)) (fun _ _ _ h => h) (Or.inl ⟨by rfl, ?_⟩) ?_ ?_
            rotate_left
            ·intro w'
             go_simp
             with_reducible rfl
            rotate_left
            ·simp only [Act.put, q1_, q2_, q3_, i64_w, i32_w]
             rfl
            refine pure_ (i := 8) (N := some 28) (v := ?_) (a' := ?_) #[true, true, true, true, true, true, true, true, true, false] rfl rfl (any_of HT_.out (by kernel_rfl)) (fun _ _ _ h => h) (Or.inl ⟨by rfl, ?_⟩) ?_ ?_
            rotate_left
            ·intro w'
             go_simp
             with_reducible rfl
            rotate_left
            ·simp only [Act.put, q1_, q2_, q3_, i64_w, i32_w]
             rfl
            refine last_ (i := 9) (N := none) #[true, true, true, true, true, true, true, true, true, true] rfl rfl (one_of HT_.out (by kernel_rfl)) (by decide) (fun K hK => ?_)
            have hs57 : w56.cell? ⟨gb189, 0, none⟩ = some (.int .u64 x190000_1) := (blk_cell BK189.out 0).trans rfl
            have hfs57 := blk_frozen BK189.out 0
            have hns57_0 := NB187_189.out
            have hns57_1 := NB188_189.out
            have hms57_0 := NB189_187.out
            have hms57_1 := NB189_188.out
            refine skip_ (w1 := ?_) (by rfl) rfl ?_ ?_
            rotate_left
            ·go_simp
             rfl
            refine hK.out _ _ ?_
            clear hK K
            refine done_ (done_of HT_.out (by kernel_rfl)) ?_
            have hnb58 := NB187_188.out
            have hnc58 := NB188_187.out
            have hnb59 := NB187_189.out
            have hnc59 := NB189_187.out
            have hcz60_0 : w56.cell? ⟨gb187, 0, none⟩ = some (.int .i64 a0_0) := (blk_cell BK187.out 0).trans rfl
            have hcz60_1 : w56.cell? ⟨gb187, 1, none⟩ = some (.int .i64 a0_1) := (blk_cell BK187.out 1).trans rfl
            have hfz60_0 := blk_frozen BK187.out 0
            have hfz60_1 := blk_frozen BK187.out 1
            try go_wp2
            have n0_ : Aside0 (Kd.R Kd.string 9 (w56.setCell ⟨gb189, 0, none⟩ (.int .u64 (IntKind.u64.wrap (x190000_1 + ((rd_T44 l1 x7_1).f1))))) w.heap.size (fun _ => True) u190002 x190002_1) := ⟨by (with_reducible repeat (first | apply Kd.R_alloc | apply Kd.R_drewN | apply Kd.R_drew)); exact Kd.R_mono (Kd.R_far (p := ⟨gb189, 0, none⟩) (Kd.R_types HO_190002.out BK189.out (by decide)) (fun _ hk => hk.2) (.int .u64 (IntKind.u64.wrap (x190000_1 + ((rd_T44 l1 x7_1).f1))))) (fun _ hk => trivial)⟩
            have n1_ : Aside0 ((w56.setCell ⟨gb189, 0, none⟩ (.int .u64 (IntKind.u64.wrap (x190000_1 + ((rd_T44 l1 x7_1).f1))))).heap[gb187]? = some (.cells #[.int .i64 a0_0, .int .i64 a0_1] 23 (0, 0))) := ⟨by (with_reducible repeat (first | refine blk_drewN ?_ _ | refine blk_drew ?_ | refine blk_alloc ?_ _)); refine blk_far ?_ NB187_189.out _; (with_reducible repeat (first | refine blk_drewN ?_ _ | refine blk_drew ?_ | refine blk_alloc ?_ _)); exact BK187.out⟩
            have n2_ : Aside0 ((w56.setCell ⟨gb189, 0, none⟩ (.int .u64 (IntKind.u64.wrap (x190000_1 + ((rd_T44 l1 x7_1).f1))))).heap[gb188]? = some (.cells #[.int .u64 0, .int .i64 0, .slice none 0 0] 33 (0, 0))) := ⟨by (with_reducible repeat (first | refine blk_drewN ?_ _ | refine blk_drew ?_ | refine blk_alloc ?_ _)); refine blk_far ?_ NB188_189.out _; (with_reducible repeat (first | refine blk_drewN ?_ _ | refine blk_drew ?_ | refine blk_alloc ?_ _)); exact BK188.out⟩
            have n3_ : Aside0 ((w56.setCell ⟨gb189, 0, none⟩ (.int .u64 (IntKind.u64.wrap (x190000_1 + ((rd_T44 l1 x7_1).f1))))).heap[gb189]? = some (.cells #[.int .u64 (IntKind.u64.wrap (x190000_1 + ((rd_T44 l1 x7_1).f1))), .int .i64 x190001_1, u190002] 33 (0, 0))) := ⟨by (with_reducible repeat (first | refine blk_drewN ?_ _ | refine blk_drew ?_ | refine blk_alloc ?_ _)); refine blk_put (cs := #[.int .u64 x190000_1, .int .i64 x190001_1, u190002]) ?_ 0 _ rfl; (with_reducible repeat (first | refine blk_drewN ?_ _ | refine blk_drew ?_ | refine blk_alloc ?_ _)); exact BK189.out⟩
            have n4_ : Aside0 (Below w.heap.size w (w56.setCell ⟨gb189, 0, none⟩ (.int .u64 (IntKind.u64.wrap (x190000_1 + ((rd_T44 l1 x7_1).f1)))))) := ⟨by repeat (first | (with_reducible first | exact HB.out | apply below_alloc | apply pw_below_drewN | apply below_drew1 | refine below_set ?_ GE187.out | refine below_set ?_ GE188.out | refine below_set ?_ GE189.out) | exact HB.out)⟩
            (try clear HO_190002)
            (try clear BK187)
            (try clear BK188)
            (try clear BK189)
            (try clear HB)
            generalize (w56.setCell ⟨gb189, 0, none⟩ (.int .u64 (IntKind.u64.wrap (x190000_1 + ((rd_T44 l1 x7_1).f1))))) = w61 at n0_ n1_ n2_ n3_ n4_ ⊢
            have HO_190002 := n0_
            have BK187 := n1_
            have BK188 := n2_
            have BK189 := n3_
            have HB := n4_
            clear n0_ n1_ n2_ n3_ n4_
            have n0_ := Aside0.mk (Kd.R_drew HO_190002.out)
            have n1_ := Aside0.mk (blk_drew BK187.out)
            have n2_ := Aside0.mk (blk_drew BK188.out)
            have n3_ := Aside0.mk (blk_drew BK189.out)
            have n4_ := Aside0.mk (below_drew1 HB.out)
            clear HO_190002
            clear BK187
            clear BK188
            clear BK189
            clear HB
            have HO_190002 := n0_
            have BK187 := n1_
            have BK188 := n2_
            have BK189 := n3_
            have HB := n4_
            clear n0_ n1_ n2_ n3_ n4_
            refine start_ (n := 16) (S := fun w' => True) (ds := []) #[false, false, false, false, false, false, false, false, false, false, false, false, false, false, false, false] (by kernel_rfl) rfl rfl trivial (fun hHeld => ?_); refine with_tabW gristmillref06_Of.tab15 gristmillref06_Of.bits15 (fun HT_ HW_ => ?_)
            generalize w61.drew = w62 at HO_190002 BK187 BK188 BK189 HB hHeld ⊢
            refine pure_ (i := 0) (N := some 85) (v := ?_) (a' := ?_) #[true, false, false, false, false, false, false, false, false, false, false, false, false, false, false, false] rfl rfl (any_of HT_.out (by kernel_rfl)) (fun _ _ _ h => h) (Or.inl ⟨by rfl, ?_⟩) ?_ ?_
            rotate_left
            ·intro w'
             go_simp
             with_reducible rfl
            rotate_left
            ·simp only [Act.put, q1_, q2_, q3_, i64_w, i32_w]
             rfl
            refine pure_ (i := 1) (N := some 86) (v := ?_) (a' := ?_) #[true, true, false, false, false, false, false, false, false, false, false, false, false, false, false, false] rfl rfl (any_of HT_.out (by kernel_rfl)) (fun _ _ _ h => h) (Or.inl ⟨by rfl, ?_⟩) ?_ ?_
            rotate_left
            ·intro w'
             go_simp
             with_reducible rfl
            rotate_left
            ·simp only [Act.put, q1_, q2_, q3_, i64_w, i32_w]
             rfl
            refine pure_ (i := 2) (N := some 87) (v := undef) (a' := ?_) #[true, true, true, false, false, false, false, false, false, false, false, false, false, false, false, false] rfl rfl (any_of HT_.out (by kernel_rfl)) (fun _ _ _ h => h) (Or.inr ⟨by rfl, rfl⟩) ?_ ?_
            rotate_left
            ·simp only [Act.put, q1_, q2_, q3_, i64_w, i32_w]
             rfl
            refine pure_ (i := 3) (N := some 88) (v := undef) (a' := ?_) #[true, true, true, true, false, false, false, false, false, false, false, false, false, false, false, false] rfl rfl (any_of HT_.out (by kernel_rfl)) (fun _ _ _ h => h) (Or.inr ⟨by rfl, rfl⟩) ?_ ?_
            rotate_left
            ·simp only [Act.put, q1_, q2_, q3_, i64_w, i32_w]
             rfl
            refine pure_ (i := 4) (N := some 89) (v := undef) (a' := ?_) #[true, true, true, true, true, false, false, false, false, false, false, false, false, false, false, false] rfl rfl (any_of HT_.out (by kernel_rfl)) (fun _ _ _ h => h) (Or.inr ⟨by rfl, rfl⟩) ?_ ?_
            rotate_left
            ·simp only [Act.put, q1_, q2_, q3_, i64_w, i32_w]
             rfl
            refine pure_ (i := 5) (N := some 90) (v := undef) (a' := ?_) #[true, true, true, true, true, true, false, false, false, false, false, false, false, false, false, false] rfl rfl (any_of HT_.out (by kernel_rfl)) (fun _ _ _ h => h) (Or.inr ⟨by rfl, rfl⟩) ?_ ?_
            rotate_left
            ·simp only [Act.put, q1_, q2_, q3_, i64_w, i32_w]
             rfl
            refine pure_ (i := 6) (N := some 91) (v := undef) (a' := ?_) #[true, true, true, true, true, true, true, false, false, false, false, false, false, false, false, false] rfl rfl (any_of HT_.out (by kernel_rfl)) (fun _ _ _ h => h) (Or.inr ⟨by rfl, rfl⟩) ?_ ?_
            rotate_left
            ·simp only [Act.put, q1_, q2_, q3_, i64_w, i32_w]
             rfl
            refine pure_ (i := 7) (N := some 92) (v := undef) (a' := ?_) #[true, true, true, true, true, true, true, true, false, false, false, false, false, false, false, false] rfl rfl (any_of HT_.out (by kernel_rfl)) (fun _ _ _ h => h) (Or.inr ⟨by rfl, rfl⟩) ?_ ?_
            rotate_left
            ·simp only [Act.put, q1_, q2_, q3_, i64_w, i32_w]
             rfl
            refine pure_ (i := 8) (N := some 93) (v := undef) (a' := ?_) #[true, true, true, true, true, true, true, true, true, false, false, false, false, false, false, false] rfl rfl (any_of HT_.out (by kernel_rfl)) (fun _ _ _ h => h) (Or.inr ⟨by rfl, rfl⟩) ?_ ?_
            rotate_left
            ·simp only [Act.put, q1_, q2_, q3_, i64_w, i32_w]
             rfl
            refine pure_ (i := 9) (N := some 94) (v := undef) (a' := ?_) #[true, true, true, true, true, true, true, true, true, true, false, false, false, false, false, false] rfl rfl (any_of HT_.out (by kernel_rfl)) (fun _ _ _ h => h) (Or.inr ⟨by rfl, rfl⟩) ?_ ?_
            rotate_left
            ·simp only [Act.put, q1_, q2_, q3_, i64_w, i32_w]
             rfl
            refine pure_ (i := 10) (N := some 95) (v := undef) (a' := ?_) #[true, true, true, true, true, true, true, true, true, true, true, false, false, false, false, false] rfl rfl (any_of HT_.out (by kernel_rfl)) (fun _ _ _ h => h) (Or.inr ⟨by rfl, rfl⟩) ?_ ?_
            rotate_left
            ·simp only [Act.put, q1_, q2_, q3_, i64_w, i32_w]
             rfl
            refine pure_ (i := 11) (N := some 96) (v := undef) (a' := ?_) #[true, true, true, true, true, true, true, true, true, true, true, true, false, false, false, false] rfl rfl (any_of HT_.out (by kernel_rfl)) (fun _ _ _ h => h) (Or.inr ⟨by rfl, rfl⟩) ?_ ?_
            rotate_left
            ·simp only [Act.put, q1_, q2_, q3_, i64_w, i32_w]
             rfl
            refine pure_ (i := 12) (N := some 97) (v := undef) (a' := ?_) #[true, true, true, true, true, true, true, true, true, true, true, true, true, false, false, false] rfl rfl (any_of HT_.out (by kernel_rfl)) (fun _ _ _ h => h) (Or.inr ⟨by rfl, rfl⟩) ?_ ?_
            rotate_left
            ·simp only [Act.put, q1_, q2_, q3_, i64_w, i32_w]
             rfl
            refine pure_ (i := 13) (N := some 98) (v := undef) (a' := ?_) #[true, true, true, true, true, true, true, true, true, true, true, true, true, true, false, false] rfl rfl (any_of HT_.out (by kernel_rfl)) (fun _ _ _ h => h) (Or.inr ⟨by rfl, rfl⟩) ?_ ?_
            rotate_left
            ·simp only [Act.put, q1_, q2_, q3_, i64_w, i32_w]
             rfl
            refine pure_ (i := 14) (N := some 99) (v := undef) (a' := ?_) #[true, true, true, true, true, true, true, true, true, true, true, true, true, true, true, false] rfl rfl (any_of HT_.out (by kernel_rfl)) (fun _ _ _ h => h) (Or.inr ⟨by rfl, rfl⟩) ?_ ?_
            rotate_left
            ·simp only [Act.put, q1_, q2_, q3_, i64_w, i32_w]
             rfl
            refine pure_ (i := 15) (N := some 100) (v := ?_) (a' := ?_) #[true, true, true, true, true, true, true, true, true, true, true, true, true, true, true, true] rfl rfl (any_of HT_.out (by kernel_rfl)) (fun _ _ _ h => h) (Or.inl ⟨by rfl, ?_⟩) ?_ ?_
            rotate_left
            ·intro w'
             go_simp
             with_reducible rfl
            rotate_left
            ·simp only [Act.put, q1_, q2_, q3_, i64_w, i32_w]
             rfl
            refine done_ (done_of HT_.out (by kernel_rfl)) ?_
            try go_wp2
            have n0_ := Aside0.mk (Kd.R_drew HO_190002.out)
            have n1_ := Aside0.mk (blk_drew BK187.out)
            have n2_ := Aside0.mk (blk_drew BK188.out)
            have n3_ := Aside0.mk (blk_drew BK189.out)
            have n4_ := Aside0.mk (below_drew1 HB.out)
            clear HO_190002
            clear BK187
            clear BK188
            clear BK189
            clear HB
            have HO_190002 := n0_
            have BK187 := n1_
            have BK188 := n2_
            have BK189 := n3_
            have HB := n4_
            clear n0_ n1_ n2_ n3_ n4_
            have p201 : 0 ≤ (x7_1 : Int) := of_decide_eq_true (by assumption)
            have q201 : x7_1 < (l1.length : Int) := of_decide_eq_true (by assumption)
            obtain ⟨ad201, A201_1, c201_1, A201_2, c201_2, e201, hx201_0, hx201_1, hx201_2, hx201_3, hl201_1, hi201_1, hl201_2, hi201_2⟩ := at_T44 HR1.out x7_1 p201 q201
            have hw201_3 := hx201_3
            have hw201_2 := hx201_2
            have hw201_1 := hx201_1
            have hw201_0 := hx201_0
            obtain rfl : ad190 = ad201 := (by injection e201)
            replace hx201_0 := pw_cell_below HB.out hx201_0
            replace hx201_1 := pw_cell_below HB.out hx201_1
            replace hx201_2 := pw_cell_below HB.out hx201_2
            replace hx201_3 := pw_cell_below HB.out hx201_3
            have HR201_1 := Aside0.mk hi201_1
            have HC201_1 := Aside0.mk hl201_1
            clear hi201_1 hl201_1
            have HR201_2 := Aside0.mk hi201_2
            have HC201_2 := Aside0.mk hl201_2
            clear hi201_2 hl201_2
            replace p201 := eq_true p201
            replace q201 := eq_true q201
            have p202 : 0 ≤ (a0_1 : Int) := of_decide_eq_true (by assumption)
            have q202 : a0_1 < (((rd_T44 l1 x7_1).f0.f2).length : Int) := of_decide_eq_true (by assumption)
            obtain ⟨ad202, e202, hx202_0⟩ := Kd.at_int HR201_2.out a0_1 p202 q202
            have hw202_0 := hx202_0
            cases e202
            replace hx202_0 := pw_cell_below HB.out hx202_0
            replace p202 := eq_true p202
            replace q202 := eq_true q202
            refine start_ (n := 12) (S := fun w' => w'.cell? ⟨gb187, 0, none⟩ = some (.int .i64 a0_0) ∧ w'.cell? ⟨gb187, 1, none⟩ = some (.int .i64 a0_1) ∧ w'.cell? (ad190.add ((x7_1).toNat * 4)) = some (.int .i64 ((rd_T44 l1 x7_1).f0.f0)) ∧ w'.cell? ⟨(ad190.add ((x7_1).toNat * 4)).block, (ad190.add ((x7_1).toNat * 4)).off + 1, none⟩ = some (.slice A201_1 ((rd_T44 l1 x7_1).f0.f1).length c201_1) ∧ w'.cell? ⟨(ad190.add ((x7_1).toNat * 4)).block, (ad190.add ((x7_1).toNat * 4)).off + 2, none⟩ = some (.slice (some ad202) ((rd_T44 l1 x7_1).f0.f2).length c201_2) ∧ w'.cell? ⟨(ad190.add ((x7_1).toNat * 4)).block, (ad190.add ((x7_1).toNat * 4)).off + 3, none⟩ = some (.int .u64 ((rd_T44 l1 x7_1).f1)) ∧ w'.cell? (ad202.add (a0_1).toNat) = some (.int .i64 (rd ((rd_T44 l1 x7_1).f0.f2) a0_1))) (ds := []) #[false, false, false, false, false, false, false, false, false, false, false, false] (by kernel_rfl) rfl rfl ⟨(blk_cell BK187.out 0).trans rfl, (blk_cell BK187.out 1).trans rfl, (pw_cell_below HB.out hw201_0), (pw_cell_below HB.out hw201_1), (pw_cell_below HB.out hw201_2), (pw_cell_below HB.out hw201_3), (pw_cell_below HB.out hw202_0)⟩ (fun hHeld => ?_); refine with_tabW gristmillref06_Of.tab16 gristmillref06_Of.bits16 (fun HT_ HW_ => ?_)
            generalize w62.drew = w63 at HO_190002 BK187 BK188 BK189 HB HR201_1 HR201_2 hx201_0 hx201_1 hx201_2 hx201_3 hx202_0 hHeld ⊢
            refine pure_ (i := 0) (N := some 101) (v := ?_) (a' := ?_) #[true, false, false, false, false, false, false, false, false, false, false, false] rfl rfl (any_of HT_.out (by kernel_rfl)) (fun _ _ _ h => h) (Or.inl ⟨by rfl, ?_⟩) ?_ ?_
            rotate_left
            ·intro w'
             go_simp
             with_reducible rfl
            rotate_left
            ·simp only [Act.put, q1_, q2_, q3_, i64_w, i32_w]
             rfl
            refine pure_ (i := 1) (N := some 102) (v := ?_) (a' := ?_) #[true, true, false, false, false, false, false, false, false, false, false, false] rfl rfl (any_of HT_.out (by kernel_rfl)) (fun _ _ _ h => h) (Or.inl ⟨by rfl, ?_⟩) ?_ ?_
            rotate_left
            ·intro w'
             go_simp
             with_reducible rfl
            rotate_left
            ·simp only [Act.put, q1_, q2_, q3_, i64_w, i32_w]
             rfl
            refine pure_ (i := 2) (N := some 103) (v := ?_) (a' := ?_) #[true, true, true, false, false, false, false, false, false, false, false, false] rfl rfl (any_of HT_.out (by kernel_rfl)) (fun _ _ _ h => h) (Or.inl ⟨by rfl, ?_⟩) ?_ ?_
            rotate_left
            ·intro w'
             go_simp
             with_reducible rfl
            rotate_left
            ·simp only [Act.put, q1_, q2_, q3_, i64_w, i32_w]
             rfl
            refine pure_ (i := 3) (N := some 104) (v := ?_) (a' := ?_) #[true, true, true, true, false, false, false, false, false, false, false, false] rfl rfl (any_of HT_.out (by kernel_rfl)) (fun _ _ _ h => h) (Or.inl ⟨by rfl, ?_⟩) ?_ ?_
            rotate_left
            ·intro w'
             go_simp
             with_reducible rfl
            rotate_left
            ·simp only [Act.put, q1_, q2_, q3_, i64_w, i32_w]
             rfl
            refine pure_ (i := 4) (N := some 105) (v := ?_) (a' := ?_) #[true, true, true, true, true, false, false, false, false, false, false, false] rfl rfl (any_of HT_.out (by kernel_rfl)) (fun _ _ _ h => h) (Or.inl ⟨by rfl, ?_⟩) ?_ ?_
            rotate_left
            ·intro w'
             go_simp
             with_reducible rfl
            rotate_left
            ·simp only [Act.put, q1_, q2_, q3_, i64_w, i32_w]
             rfl
            refine pure_ (i := 6) (N := some 107) (v := ?_) (a' := ?_) #[true, true, true, true, true, false, true, false, false, false, false, false] rfl rfl (any_of HT_.out (by kernel_rfl)) (fun _ _ _ h => h) (Or.inl ⟨by rfl, ?_⟩) ?_ ?_
            rotate_left
            ·intro w'
             go_simp
             with_reducible rfl
            rotate_left
            ·simp only [Act.put, q1_, q2_, q3_, i64_w, i32_w]
             rfl
            refine take_ (i := 5) (N := some 106) (v := ?_) (a' := ?_) #[true, true, true, true, true, true, true, false, false, false, false, false] rfl rfl (take_ofW HT_.out HW_.out (by kernel_rfl)) (fun _ _ _ h => h) (Or.inl ⟨by rfl, ?_⟩) hHeld ?_ ?_
            rotate_left
            ·rintro w' ⟨s0, s1, s2, s3, s4, s5, s6⟩
             go_simp
             with_reducible rfl
            rotate_left
            ·simp only [Act.put, q1_, q2_, q3_, i64_w, i32_w]
             rfl
            refine take_ (i := 7) (N := some 108) (v := ?_) (a' := ?_) #[true, true, true, true, true, true, true, true, false, false, false, false] rfl rfl (take_ofW HT_.out HW_.out (by kernel_rfl)) (fun _ _ _ h => h) (Or.inl ⟨by rfl, ?_⟩) hHeld ?_ ?_
            rotate_left
            ·rintro w' ⟨s0, s1, s2, s3, s4, s5, s6⟩
             go_simp
             with_reducible rfl
            rotate_left
            ·simp only [Act.put, q1_, q2_, q3_, i64_w, i32_w]
             rfl
            refine pure_ (i := 8) (N := some 109) (v := ?_) (a' := ?_) #[true, true, true, true, true, true, true, true, true, false, false, false] rfl rfl (any_of HT_.out (by kernel_rfl)) (fun _ _ _ h => h) (Or.inl ⟨by rfl, ?_⟩) ?_ ?_
            rotate_left
            ·intro w'
             go_simp
             with_reducible rfl
            rotate_left
            ·simp only [Act.put, q1_, q2_, q3_, i64_w, i32_w]
             rfl
            refine take_ (i := 9) (N := some 110) (v := ?_) (a' := ?_) #[true, true, true, true, true, true, true, true, true, true, false, false] rfl rfl (take_ofW HT_.out HW_.out (by kernel_rfl)) (fun _ _ _ h => h) (Or.inl ⟨by rfl, ?_⟩) hHeld ?_ ?_
            rotate_left
            ·rintro w' ⟨s0, s1, s2, s3, s4, s5, s6⟩
             go_simp
             with_reducible rfl
            rotate_left
            ·simp only [Act.put, q1_, q2_, q3_, i64_w, i32_w]
             rfl
            refine pure_ (i := 10) (N := some 111) (v := ?_) (a' := ?_) #[true, true, true, true, true, true, true, true, true, true, true, false] rfl rfl (any_of HT_.out (by kernel_rfl)) (fun _ _ _ h => h) (Or.inl ⟨by rfl, ?_⟩) ?_ ?_
            rotate_left
            ·intro w'
             go_simp
             with_reducible rfl
            rotate_left
            ·simp only [Act.put, q1_, q2_, q3_, i64_w, i32_w]
             rfl
            refine one_ (i := 11) (N := none) #[true, true, true, true, true, true, true, true, true, true, true, true] rfl rfl (one_of HT_.out (by kernel_rfl)) (by decide) (fun K hK => ?_)
            have hs64 : w63.cell? ⟨gb189, 1, none⟩ = some (.int .i64 x190001_1) := (blk_cell BK189.out 1).trans rfl
            have hfs64 := blk_frozen BK189.out 1
            have hns64_0 := NB187_189.out
            have hns64_1 := NB188_189.out
            have hms64_0 := NB189_187.out
            have hms64_1 := NB189_188.out
            refine skip_ (w1 := ?_) (by rfl) rfl ?_ ?_
            rotate_left
            ·go_simp
             rfl
            refine hK.out _ _ ⟨((cell_far (p := ⟨gb189, _, none⟩) NB187_189.out _).trans (hHeld.1)), ((cell_far (p := ⟨gb189, _, none⟩) NB187_189.out _).trans (hHeld.2.1)), ((cell_far (p := ⟨gb189, _, none⟩) (by first | exact Nat.ne_of_lt (Nat.lt_of_lt_of_le (by have := World.block_lt_of_cell? _ _ hw201_0; first | rwa [add_block] at this | exact this) GW189.out) | (rw [add_block]; exact Nat.ne_of_lt (Nat.lt_of_lt_of_le (by have := World.block_lt_of_cell? _ _ hw201_0; first | rwa [add_block] at this | exact this) GW189.out)) | (show (Addr.add _ _).block ≠ _; rw [add_block]; exact Nat.ne_of_lt (Nat.lt_of_lt_of_le (by have := World.block_lt_of_cell? _ _ hw201_0; first | rwa [add_block] at this | exact this) GW189.out)) | (dsimp only; exact Nat.ne_of_lt (Nat.lt_of_lt_of_le (by have := World.block_lt_of_cell? _ _ hw201_0; first | rwa [add_block] at this | exact this) GW189.out))) _).trans (hHeld.2.2.1)), ((cell_far (p := ⟨gb189, _, none⟩) (by first | exact Nat.ne_of_lt (Nat.lt_of_lt_of_le (by have := World.block_lt_of_cell? _ _ hw201_1; first | rwa [add_block] at this | exact this) GW189.out) | (rw [add_block]; exact Nat.ne_of_lt (Nat.lt_of_lt_of_le (by have := World.block_lt_of_cell? _ _ hw201_1; first | rwa [add_block] at this | exact this) GW189.out)) | (show (Addr.add _ _).block ≠ _; rw [add_block]; exact Nat.ne_of_lt (Nat.lt_of_lt_of_le (by have := World.block_lt_of_cell? _ _ hw201_1; first | rwa [add_block] at this | exact this) GW189.out)) | (dsimp only; exact Nat.ne_of_lt (Nat.lt_of_lt_of_le (by have := World.block_lt_of_cell? _ _ hw201_1; first | rwa [add_block] at this | exact this) GW189.out))) _).trans (hHeld.2.2.2.1)), ((cell_far (p := ⟨gb189, _, none⟩) (by first | exact Nat.ne_of_lt (Nat.lt_of_lt_of_le (by have := World.block_lt_of_cell? _ _ hw201_2; first | rwa [add_block] at this | exact this) GW189.out) | (rw [add_block]; exact Nat.ne_of_lt (Nat.lt_of_lt_of_le (by have := World.block_lt_of_cell? _ _ hw201_2; first | rwa [add_block] at this | exact this) GW189.out)) | (show (Addr.add _ _).block ≠ _; rw [add_block]; exact Nat.ne_of_lt (Nat.lt_of_lt_of_le (by have := World.block_lt_of_cell? _ _ hw201_2; first | rwa [add_block] at this | exact this) GW189.out)) | (dsimp only; exact Nat.ne_of_lt (Nat.lt_of_lt_of_le (by have := World.block_lt_of_cell? _ _ hw201_2; first | rwa [add_block] at this | exact this) GW189.out))) _).trans (hHeld.2.2.2.2.1)), ((cell_far (p := ⟨gb189, _, none⟩) (by first | exact Nat.ne_of_lt (Nat.lt_of_lt_of_le (by have := World.block_lt_of_cell? _ _ hw201_3; first | rwa [add_block] at this | exact this) GW189.out) | (rw [add_block]; exact Nat.ne_of_lt (Nat.lt_of_lt_of_le (by have := World.block_lt_of_cell? _ _ hw201_3; first | rwa [add_block] at this | exact this) GW189.out)) | (show (Addr.add _ _).block ≠ _; rw [add_block]; exact Nat.ne_of_lt (Nat.lt_of_lt_of_le (by have := World.block_lt_of_cell? _ _ hw201_3; first | rwa [add_block] at this | exact this) GW189.out)) | (dsimp only; exact Nat.ne_of_lt (Nat.lt_of_lt_of_le (by have := World.block_lt_of_cell? _ _ hw201_3; first | rwa [add_block] at this | exact this) GW189.out))) _).trans (hHeld.2.2.2.2.2.1)), ((cell_far (p := ⟨gb189, _, none⟩) (by first | exact Nat.ne_of_lt (Nat.lt_of_lt_of_le (by have := World.block_lt_of_cell? _ _ hw202_0; first | rwa [add_block] at this | exact this) GW189.out) | (rw [add_block]; exact Nat.ne_of_lt (Nat.lt_of_lt_of_le (by have := World.block_lt_of_cell? _ _ hw202_0; first | rwa [add_block] at this | exact this) GW189.out)) | (show (Addr.add _ _).block ≠ _; rw [add_block]; exact Nat.ne_of_lt (Nat.lt_of_lt_of_le (by have := World.block_lt_of_cell? _ _ hw202_0; first | rwa [add_block] at this | exact this) GW189.out)) | (dsimp only; exact Nat.ne_of_lt (Nat.lt_of_lt_of_le (by have := World.block_lt_of_cell? _ _ hw202_0; first | rwa [add_block] at this | exact this) GW189.out))) _).trans (hHeld.2.2.2.2.2.2))⟩ (fun hHeld => ?_)
            clear hK K
            refine done_ (done_of HT_.out (by kernel_rfl)) ?_
            try go_wp2
            go_roundg k1
            case measure => have := HK1.out; omega
            case rel => exact ⟨(false), (wrap64 (x7_1 + 1)), (IntKind.u64.wrap (x190000_1 + ((rd_T44 l1 x7_1).f1))), (rd ((rd_T44 l1 x7_1).f0.f2) a0_1), (x190002_1), (u190002), (by first | rfl | (simp; done) | (simp [*]; done)), (by first | rfl | (simp; done) | (simp [*]; done)), H', ⟨by have := HK1.out; omega⟩, ⟨by (with_reducible repeat (first | apply Kd.R_alloc | apply Kd.R_drewN | apply Kd.R_drew)); exact Kd.R_mono (Kd.R_far (p := ⟨gb189, 1, none⟩) (Kd.R_types HO_190002.out BK189.out (by decide)) (fun _ hk => hk.2) (.int .i64 (rd ((rd_T44 l1 x7_1).f0.f2) a0_1))) (fun _ hk => trivial)⟩, ⟨by (with_reducible repeat (first | refine blk_drewN ?_ _ | refine blk_drew ?_ | refine blk_alloc ?_ _)); refine blk_far ?_ NB187_189.out _; (with_reducible repeat (first | refine blk_drewN ?_ _ | refine blk_drew ?_ | refine blk_alloc ?_ _)); exact BK187.out⟩, ⟨by (with_reducible repeat (first | refine blk_drewN ?_ _ | refine blk_drew ?_ | refine blk_alloc ?_ _)); refine blk_far ?_ NB188_189.out _; (with_reducible repeat (first | refine blk_drewN ?_ _ | refine blk_drew ?_ | refine blk_alloc ?_ _)); exact BK188.out⟩, ⟨by (with_reducible repeat (first | refine blk_drewN ?_ _ | refine blk_drew ?_ | refine blk_alloc ?_ _)); refine blk_put (cs := #[.int .u64 (IntKind.u64.wrap (x190000_1 + ((rd_T44 l1 x7_1).f1))), .int .i64 x190001_1, u190002]) ?_ 1 _ rfl; (with_reducible repeat (first | refine blk_drewN ?_ _ | refine blk_drew ?_ | refine blk_alloc ?_ _)); exact BK189.out⟩, ⟨by repeat (first | (with_reducible first | exact HB.out | apply below_alloc | apply pw_below_drewN | apply below_drew1 | refine below_set ?_ GE187.out | refine below_set ?_ GE188.out | refine below_set ?_ GE189.out) | exact HB.out)⟩⟩
           ·rw [if_neg c55] at H
            exact absurd H (by simp)
          ·rw [if_neg c54] at H
           exact absurd H (by simp)
         ·replace c53 := Bool.eq_false_iff.mpr c53
          subst c53
          have H1 : (if 0 ≤ a0_1 then (if a0_1 < (((rd_T44 l1 x7_1).f0.f2).length : Int) then (if (rd ((rd_T44 l1 x7_1).f0.f2) a0_1) > x190001_1 then (gristmillref06_Of.l0 k1 l1 false (wrap64 (x7_1 + 1)) a0_0 a0_1 (IntKind.u64.wrap (x190000_1 + ((rd_T44 l1 x7_1).f1))) (rd ((rd_T44 l1 x7_1).f0.f2) a0_1) x190002_1) else (gristmillref06_Of.l0 k1 l1 false (wrap64 (x7_1 + 1)) a0_0 a0_1 (IntKind.u64.wrap (x190000_1 + ((rd_T44 l1 x7_1).f1))) x190001_1 x190002_1)) else (none)) else (none)) = some (r1, r2, r3) := by rw [if_neg (show ¬ (false = true) by decide)] at H; exact H
          clear H
          have H := H1
          clear H1
          by_cases c65 : 0 ≤ a0_1
          ·rw [if_pos c65] at H
           have c65b0 : decide (0 ≤ a0_1) = true := decide_eq_true c65
           clear c65
           by_cases c66 : a0_1 < (((rd_T44 l1 x7_1).f0.f2).length : Int)
           ·rw [if_pos c66] at H
            have c66b0 : decide (a0_1 < (((rd_T44 l1 x7_1).f0.f2).length : Int)) = true := decide_eq_true c66
            clear c66
            by_cases c67 : (rd ((rd_T44 l1 x7_1).f0.f2) a0_1) > x190001_1
            ·rw [if_pos c67] at H
             have c67b0 : decide (x190001_1 < (rd ((rd_T44 l1 x7_1).f0.f2) a0_1)) = true := decide_eq_true c67
             clear c67
             have H' := Aside0.mk H
             clear H
             have p190 : 0 ≤ (x7_1 : Int) := of_decide_eq_true (by assumption)
             have q190 : x7_1 < (l1.length : Int) := of_decide_eq_true (by assumption)
             obtain ⟨ad190, A190_1, c190_1, A190_2, c190_2, e190, hx190_0, hx190_1, hx190_2, hx190_3, hl190_1, hi190_1, hl190_2, hi190_2⟩ := at_T44 HR1.out x7_1 p190 q190
             cases e190
             replace hx190_0 := pw_cell_below HB.out hx190_0
             replace hx190_1 := pw_cell_below HB.out hx190_1
             replace hx190_2 := pw_cell_below HB.out hx190_2
             replace hx190_3 := pw_cell_below HB.out hx190_3
             have HR190_1 := Aside0.mk hi190_1
             have HC190_1 := Aside0.mk hl190_1
             clear hi190_1 hl190_1
             have HR190_2 := Aside0.mk hi190_2
             have HC190_2 := Aside0.mk hl190_2
             clear hi190_2 hl190_2
             replace p190 := eq_true p190
             replace q190 := eq_true q190
             try go_wp2
             have n0_ := Aside0.mk (Kd.R_drew HO_190002.out)
             have n1_ := Aside0.mk (blk_drew BK187.out)
             have n2_ := Aside0.mk (blk_drew BK188.out)
             have n3_ := Aside0.mk (blk_drew BK189.out)
             have n4_ := Aside0.mk (below_drew1 HB.out)
             clear HO_190002
             clear BK187
             clear BK188
             clear BK189
             clear HB
             have HO_190002 := n0_
             have BK187 := n1_
             have BK188 := n2_
             have BK189 := n3_
             have HB := n4_
             clear n0_ n1_ n2_ n3_ n4_
             have p191 : 0 ≤ (x7_1 : Int) := of_decide_eq_true (by assumption)
             have q191 : x7_1 < (l1.length : Int) := of_decide_eq_true (by assumption)
             obtain ⟨ad191, A191_1, c191_1, A191_2, c191_2, e191, hx191_0, hx191_1, hx191_2, hx191_3, hl191_1, hi191_1, hl191_2, hi191_2⟩ := at_T44 HR1.out x7_1 p191 q191
             have hw191_3 := hx191_3
             have hw191_2 := hx191_2
             have hw191_1 := hx191_1
             have hw191_0 := hx191_0
             obtain rfl : ad190 = ad191 := (by injection e191)
             replace hx191_0 := pw_cell_below HB.out hx191_0
             replace hx191_1 := pw_cell_below HB.out hx191_1
             replace hx191_2 := pw_cell_below HB.out hx191_2
             replace hx191_3 := pw_cell_below HB.out hx191_3
             have HR191_1 := Aside0.mk hi191_1
             have HC191_1 := Aside0.mk hl191_1
             clear hi191_1 hl191_1
             have HR191_2 := Aside0.mk hi191_2
             have HC191_2 := Aside0.mk hl191_2
             clear hi191_2 hl191_2
             replace p191 := eq_true p191
             replace q191 := eq_true q191
             refine start_ (n := 10) (S := fun w' => w'.cell? ⟨gb189, 0, none⟩ = some (.int .u64 x190000_1) ∧ w'.cell? ⟨gb189, 1, none⟩ = some (.int .i64 x190001_1) ∧ w'.cell? ⟨gb189, 2, none⟩ = some (u190002) ∧ w'.cell? (ad190.add ((x7_1).toNat * 4)) = some (.int .i64 ((rd_T44 l1 x7_1).f0.f0)) ∧ w'.cell? ⟨(ad190.add ((x7_1).toNat * 4)).block, (ad190.add ((x7_1).toNat * 4)).off + 1, none⟩ = some (.slice A191_1 ((rd_T44 l1 x7_1).f0.f1).length c191_1) ∧ w'.cell? ⟨(ad190.add ((x7_1).toNat * 4)).block, (ad190.add ((x7_1).toNat * 4)).off + 2, none⟩ = some (.slice A191_2 ((rd_T44 l1 x7_1).f0.f2).length c191_2) ∧ w'.cell? ⟨(ad190.add ((x7_1).toNat * 4)).block, (ad190.add ((x7_1).toNat * 4)).off + 3, none⟩ = some (.int .u64 ((rd_T44 l1 x7_1).f1))) (ds := [9]) #[false, false, false, false, false, false, false, false, false, false] (by kernel_rfl) rfl rfl ⟨(blk_cell BK189.out 0).trans rfl, (blk_cell BK189.out 1).trans rfl, (blk_cell BK189.out 2).trans rfl, (pw_cell_below HB.out hw191_0), (pw_cell_below HB.out hw191_1), (pw_cell_below HB.out hw191_2), (pw_cell_below HB.out hw191_3)⟩ (fun hHeld => ?_); refine with_tabW gristmillref06_Of.tab7 gristmillref06_Of.bits7 (fun HT_ HW_ => ?_)
             generalize wr.drew = w68 at HO_190002 BK187 BK188 BK189 HB HR191_1 HR191_2 hx191_0 hx191_1 hx191_2 hx191_3 hHeld ⊢
             refine pure_ (i := 0) (N := some 20) (v := ?_) (a' := ?_) #[true, false, false, false, false, false, false, false, false, false] rfl rfl (any_of HT_.out (by kernel_rfl)) (fun _ _ _ h => h) (Or.inl ⟨by rfl, ?_⟩) ?_ ?_
             rotate_left
             ·intro w'
              go_simp
              with_reducible rfl
             rotate_left
             ·simp only [Act.put, q1_, q2_, q3_, i64_w, i32_w]
              rfl
             refine pure_ (i := 2) (N := some 22) (v := ?_) (a' := ?_) #[true, false, true, false, false, false, false, false, false, false] rfl rfl (any_of HT_.out (by kernel_rfl)) (fun _ _ _ h => h) (Or.inl ⟨by rfl, ?_⟩) ?_ ?_
             rotate_left
             ·intro w'
              go_simp
              with_reducible rfl
             rotate_left
             ·simp only [Act.put, q1_, q2_, q3_, i64_w, i32_w]
              rfl
             refine pure_ (i := 3) (N := some 23) (v := ?_) (a' := ?_) #[true, false, true, true, false, false, false, false, false, false] rfl rfl (any_of HT_.out (by kernel_rfl)) (fun _ _ _ h => h) (Or.inl ⟨by rfl, ?_⟩) ?_ ?_
             rotate_left
             ·intro w'
              go_simp
              with_reducible rfl
             rotate_left
             ·simp only [Act.put, q1_, q2_, q3_, i64_w, i32_w]
              rfl
             refine pure_ (i := 4) (N := some 24) (v := ?_) (a' := ?_) #[true, false, true, true, true, false, false, false, false, false] rfl rfl (any_of HT_.out (by kernel_rfl)) (fun _ _ _ h => h) (Or.inl ⟨by rfl, ?_⟩) ?_ ?_
             rotate_left
             ·intro w'
              go_simp
              with_reducible rfl
             rotate_left
             ·simp only [Act.put, q1_, q2_, q3_, i64_w, i32_w]
              rfl
             refine pure_ (i := 5) (N := some 25) (v := ?_) (a' := ?_) #[true, false, true, true, true, true, false, false, false, false] rfl rfl (any_of HT_.out (by kernel_rfl)) (fun _ _ _ h => h) (Or.inl ⟨by rfl, ?_⟩) ?_ ?_
             rotate_left
             ·intro w'
              go_simp
              with_reducible rfl
             rotate_left
             ·simp only [Act.put, q1_, q2_, q3_, i64_w, i32_w]
              rfl
             refine take_ (i := 1) (N := some 21) (v := ?_) (a' := ?_) #[true, true, true, true, true, true, false, false, false, false] rfl rfl (take_ofW HT_.out HW_.out (by kernel_rfl)) (fun _ _ _ h => h) (Or.inl ⟨by rfl, ?_⟩) hHeld ?_ ?_
             rotate_left
             ·rintro w' ⟨s0, s1, s2, s3, s4, s5, s6⟩
              go_simp
              with_reducible rfl
             rotate_left
             ·simp only [Act.put, q1_, q2_, q3_, i64_w, i32_w]
              rfl
             refine take_ (i := 6) (N := some 26) (v := ?_) (a' := ?_) #[true, true, true, true, true, true, true, false, false, false] rfl rfl (take_ofW HT_.out HW_.out (by kernel_rfl)) (fun _ _ _ h => h) (Or.inl ⟨by rfl, ?_⟩) hHeld ?_ ?_
             rotate_left
             ·rintro w' ⟨s0, s1, s2, s3, s4, s5, s6⟩
              go_simp
              with_reducible rfl
             rotate_left
             ·simp only [Act.put, q1_, q2_, q3_, i64_w, i32_w]
              rfl
             refine pure_ (i := 7) (N := some 27) (v := ?_) (a' := ?_) #[true, true, true, true, true, true, true, true, false, false] rfl rfl (any_of HT_.out (by kernel_rfl)) (fun _ _ _ h => h) (Or.inl ⟨by rfl, ?_⟩) ?_ ?_
             rotate_left
             ·intro w'
              go_simp
              with_reducible rfl
             rotate_left
             ·simp only [Act.put, q1_, q2_, q3_, i64_w, i32_w]
              rfl
             refine pure_ (i := 8) (N := some 28) (v := ?_) (a' := ?_) #[true, true, true, true, true, true, true, true, true, false] rfl rfl (any_of HT_.out (by kernel_rfl)) (fun _ _ _ h => h) (Or.inl ⟨by rfl, ?_⟩) ?_ ?_
             rotate_left
             ·intro w'
              go_simp
              with_reducible rfl
             rotate_left
             ·simp only [Act.put, q1_, q2_, q3_, i64_w, i32_w]
              rfl
             refine last_ (i := 9) (N := none) #[true, true, true, true, true, true, true, true, true, true] rfl rfl (one_of HT_.out (by kernel_rfl)) (by decide) (fun K hK => ?_)
             have hs69 : w68.cell? ⟨gb189, 0, none⟩ = some (.int .u64 x190000_1) := (blk_cell BK189.out 0).trans rfl
             have hfs69 := blk_frozen BK189.out 0
             have hns69_0 := NB187_189.out
             have hns69_1 := NB188_189.out
             have hms69_0 := NB189_187.out
             have hms69_1 := NB189_188.out
             refine skip_ (w1 := ?_) (by rfl) rfl ?_ ?_
             rotate_left
             ·go_simp
              rfl
             refine hK.out _ _ ?_
             clear hK K
             refine done_ (done_of HT_.out (by kernel_rfl)) ?_
             have hnb70 := NB187_188.out
             have hnc70 := NB188_187.out
             have hnb71 := NB187_189.out
             have hnc71 := NB189_187.out
             have hcz72_0 : w68.cell? ⟨gb187, 0, none⟩ = some (.int .i64 a0_0) := (blk_cell BK187.out 0).trans rfl
             have hcz72_1 : w68.cell? ⟨gb187, 1, none⟩ = some (.int .i64 a0_1) := (blk_cell BK187.out 1).trans rfl
             have hfz72_0 := blk_frozen BK187.out 0
             have hfz72_1 := blk_frozen BK187.out 1
             try go_wp2
             have n0_ : Aside0 (Kd.R Kd.string 9 (w68.setCell ⟨gb189, 0, none⟩ (.int .u64 (IntKind.u64.wrap (x190000_1 + ((rd_T44 l1 x7_1).f1))))) w.heap.size (fun _ => True) u190002 x190002_1) := ⟨by (with_reducible repeat (first | apply Kd.R_alloc | apply Kd.R_drewN | apply Kd.R_drew)); exact Kd.R_mono (Kd.R_far (p := ⟨gb189, 0, none⟩) (Kd.R_types HO_190002.out BK189.out (by decide)) (fun _ hk => hk.2) (.int .u64 (IntKind.u64.wrap (x190000_1 + ((rd_T44 l1 x7_1).f1))))) (fun _ hk => trivial)⟩
             have n1_ : Aside0 ((w68.setCell ⟨gb189, 0, none⟩ (.int .u64 (IntKind.u64.wrap (x190000_1 + ((rd_T44 l1 x7_1).f1))))).heap[gb187]? = some (.cells #[.int .i64 a0_0, .int .i64 a0_1] 23 (0, 0))) := ⟨by (with_reducible repeat (first | refine blk_drewN ?_ _ | refine blk_drew ?_ | refine blk_alloc ?_ _)); refine blk_far ?_ NB187_189.out _; (with_reducible repeat (first | refine blk_drewN ?_ _ | refine blk_drew ?_ | refine blk_alloc ?_ _)); exact BK187.out⟩
             have n2_ : Aside0 ((w68.setCell ⟨gb189, 0, none⟩ (.int .u64 (IntKind.u64.wrap (x190000_1 + ((rd_T44 l1 x7_1).f1))))).heap[gb188]? = some (.cells #[.int .u64 0, .int .i64 0, .slice none 0 0] 33 (0, 0))) := ⟨by (with_reducible repeat (first | refine blk_drewN ?_ _ | refine blk_drew ?_ | refine blk_alloc ?_ _)); refine blk_far ?_ NB188_189.out _; (with_reducible repeat (first | refine blk_drewN ?_ _ | refine blk_drew ?_ | refine blk_alloc ?_ _)); exact BK188.out⟩
             have n3_ : Aside0 ((w68.setCell ⟨gb189, 0, none⟩ (.int .u64 (IntKind.u64.wrap (x190000_1 + ((rd_T44 l1 x7_1).f1))))).heap[gb189]? = some (.cells #[.int .u64 (IntKind.u64.wrap (x190000_1 + ((rd_T44 l1 x7_1).f1))), .int .i64 x190001_1, u190002] 33 (0, 0))) := ⟨by (with_reducible repeat (first | refine blk_drewN ?_ _ | refine blk_drew ?_ | refine blk_alloc ?_ _)); refine blk_put (cs := #[.int .u64 x190000_1, .int .i64 x190001_1, u190002]) ?_ 0 _ rfl; (with_reducible repeat (first | refine blk_drewN ?_ _ | refine blk_drew ?_ | refine blk_alloc ?_ _)); exact BK189.out⟩
             have n4_ : Aside0 (Below w.heap.size w (w68.setCell ⟨gb189, 0, none⟩ (.int .u64 (IntKind.u64.wrap (x190000_1 + ((rd_T44 l1 x7_1).f1)))))) := ⟨by repeat (first | (with_reducible first | exact HB.out | apply below_alloc | apply pw_below_drewN | apply below_drew1 | refine below_set ?_ GE187.out | refine below_set ?_ GE188.out | refine below_set ?_ GE189.out) | exact HB.out)⟩
             (try clear HO_190002)
             (try clear BK187)
             (try clear BK188)
             (try clear BK189)
             (try clear HB)
             generalize (w68.setCell ⟨gb189, 0, none⟩ (.int .u64 (IntKind.u64.wrap (x190000_1 + ((rd_T44 l1 x7_1).f1))))) = w73 at n0_ n1_ n2_ n3_ n4_ ⊢
             have HO_190002 := n0_
             have BK187 := n1_
             have BK188 := n2_
             have BK189 := n3_
             have HB := n4_
             clear n0_ n1_ n2_ n3_ n4_
             have n0_ := Aside0.mk (Kd.R_drew HO_190002.out)
             have n1_ := Aside0.mk (blk_drew BK187.out)
             have n2_ := Aside0.mk (blk_drew BK188.out)
             have n3_ := Aside0.mk (blk_drew BK189.out)
             have n4_ := Aside0.mk (below_drew1 HB.out)
             clear HO_190002
             clear BK187
             clear BK188
             clear BK189
             clear HB
             have HO_190002 := n0_
             have BK187 := n1_
             have BK188 := n2_
             have BK189 := n3_
             have HB := n4_
             clear n0_ n1_ n2_ n3_ n4_
             have p203 : 0 ≤ (x7_1 : Int) := of_decide_eq_true (by assumption)
             have q203 : x7_1 < (l1.length : Int) := of_decide_eq_true (by assumption)
             obtain ⟨ad203, A203_1, c203_1, A203_2, c203_2, e203, hx203_0, hx203_1, hx203_2, hx203_3, hl203_1, hi203_1, hl203_2, hi203_2⟩ := at_T44 HR1.out x7_1 p203 q203
             have hw203_3 := hx203_3
             have hw203_2 := hx203_2
             have hw203_1 := hx203_1
             have hw203_0 := hx203_0
             obtain rfl : ad190 = ad203 := (by injection e203)
             replace hx203_0 := pw_cell_below HB.out hx203_0
             replace hx203_1 := pw_cell_below HB.out hx203_1
             replace hx203_2 := pw_cell_below HB.out hx203_2
             replace hx203_3 := pw_cell_below HB.out hx203_3
             have HR203_1 := Aside0.mk hi203_1
             have HC203_1 := Aside0.mk hl203_1
             clear hi203_1 hl203_1
             have HR203_2 := Aside0.mk hi203_2
             have HC203_2 := Aside0.mk hl203_2
             clear hi203_2 hl203_2
             replace p203 := eq_true p203
             replace q203 := eq_true q203
             have p204 : 0 ≤ (a0_1 : Int) := of_decide_eq_true (by assumption)
             have q204 : a0_1 < (((rd_T44 l1 x7_1).f0.f2).length : Int) := of_decide_eq_true (by assumption)
             obtain ⟨ad204, e204, hx204_0⟩ := Kd.at_int HR203_2.out a0_1 p204 q204
             have hw204_0 := hx204_0
             cases e204
             replace hx204_0 := pw_cell_below HB.out hx204_0
             replace p204 := eq_true p204
             replace q204 := eq_true q204
             refine start_ (n := 16) (S := fun w' => w'.cell? ⟨gb187, 0, none⟩ = some (.int .i64 a0_0) ∧ w'.cell? ⟨gb187, 1, none⟩ = some (.int .i64 a0_1) ∧ w'.cell? ⟨gb189, 0, none⟩ = some (.int .u64 (IntKind.u64.wrap (x190000_1 + ((rd_T44 l1 x7_1).f1)))) ∧ w'.cell? ⟨gb189, 1, none⟩ = some (.int .i64 x190001_1) ∧ w'.cell? ⟨gb189, 2, none⟩ = some (u190002) ∧ w'.cell? (ad190.add ((x7_1).toNat * 4)) = some (.int .i64 ((rd_T44 l1 x7_1).f0.f0)) ∧ w'.cell? ⟨(ad190.add ((x7_1).toNat * 4)).block, (ad190.add ((x7_1).toNat * 4)).off + 1, none⟩ = some (.slice A203_1 ((rd_T44 l1 x7_1).f0.f1).length c203_1) ∧ w'.cell? ⟨(ad190.add ((x7_1).toNat * 4)).block, (ad190.add ((x7_1).toNat * 4)).off + 2, none⟩ = some (.slice (some ad204) ((rd_T44 l1 x7_1).f0.f2).length c203_2) ∧ w'.cell? ⟨(ad190.add ((x7_1).toNat * 4)).block, (ad190.add ((x7_1).toNat * 4)).off + 3, none⟩ = some (.int .u64 ((rd_T44 l1 x7_1).f1)) ∧ w'.cell? (ad204.add (a0_1).toNat) = some (.int .i64 (rd ((rd_T44 l1 x7_1).f0.f2) a0_1))) (ds := []) #[false, false, false, false, false, false, false, false, false, false, false, false, false, false, false, false] (by kernel_rfl) rfl rfl ⟨(blk_cell BK187.out 0).trans rfl, (blk_cell BK187.out 1).trans rfl, (blk_cell BK189.out 0).trans rfl, (blk_cell BK189.out 1).trans rfl, (blk_cell BK189.out 2).trans rfl, (pw_cell_below HB.out hw203_0), (pw_cell_below HB.out hw203_1), (pw_cell_below HB.out hw203_2), (pw_cell_below HB.out hw203_3), (pw_cell_below HB.out hw204_0)⟩ (fun hHeld => ?_); refine with_tabW gristmillref06_Of.tab15 gristmillref06_Of.bits15 (fun HT_ HW_ => ?_)
             generalize w73.drew = w74 at HO_190002 BK187 BK188 BK189 HB HR203_1 HR203_2 hx203_0 hx203_1 hx203_2 hx203_3 hx204_0 hHeld ⊢
             refine pure_ (i := 0) (N := some 85) (v := ?_) (a' := ?_) #[true, false, false, false, false, false, false, false, false, false, false, false, false, false, false, false] rfl rfl (any_of HT_.out (by kernel_rfl)) (fun _ _ _ h => h) (Or.inl ⟨by rfl, ?_⟩) ?_ ?_
             rotate_left
             ·intro w'
              go_simp
              with_reducible rfl
             rotate_left
             ·simp only [Act.put, q1_, q2_, q3_, i64_w, i32_w]
              rfl
             refine pure_ (i := 1) (N := some 86) (v := ?_) (a' := ?_) #[true, true, false, false, false, false, false, false, false, false, false, false, false, false, false, false] rfl rfl (any_of HT_.out (by kernel_rfl)) (fun _ _ _ h => h) (Or.inl ⟨by rfl, ?_⟩) ?_ ?_
             rotate_left
             ·intro w'
              go_simp
              with_reducible rfl
             rotate_left
             ·simp only [Act.put, q1_, q2_, q3_, i64_w, i32_w]
              rfl
             refine pure_ (i := 2) (N := some 87) (v := ?_) (a' := ?_) #[true, true, true, false, false, false, false, false, false, false, false, false, false, false, false, false] rfl rfl (any_of HT_.out (by kernel_rfl)) (fun _ _ _ h => h) (Or.inl ⟨by rfl, ?_⟩) ?_ ?_
             rotate_left
             ·intro w'
              go_simp
              with_reducible rfl
             rotate_left
             ·simp only [Act.put, q1_, q2_, q3_, i64_w, i32_w]
              rfl
             refine pure_ (i := 3) (N := some 88) (v := ?_) (a' := ?_) #[true, true, true, true, false, false, false, false, false, false, false, false, false, false, false, false] rfl rfl (any_of HT_.out (by kernel_rfl)) (fun _ _ _ h => h) (Or.inl ⟨by rfl, ?_⟩) ?_ ?_
             rotate_left
             ·intro w'
              go_simp
              with_reducible rfl
             rotate_left
             ·simp only [Act.put, q1_, q2_, q3_, i64_w, i32_w]
              rfl
             refine pure_ (i := 4) (N := some 89) (v := ?_) (a' := ?_) #[true, true, true, true, true, false, false, false, false, false, false, false, false, false, false, false] rfl rfl (any_of HT_.out (by kernel_rfl)) (fun _ _ _ h => h) (Or.inl ⟨by rfl, ?_⟩) ?_ ?_
             rotate_left
             ·intro w'
              go_simp
              with_reducible rfl
             rotate_left
             ·simp only [Act.put, q1_, q2_, q3_, i64_w, i32_w]
              rfl
             refine pure_ (i := 5) (N := some 90) (v := ?_) (a' := ?_) #[true, true, true, true, true, true, false, false, false, false, false, false, false, false, false, false] rfl rfl (any_of HT_.out (by kernel_rfl)) (fun _ _ _ h => h) (Or.inl ⟨by rfl, ?_⟩) ?_ ?_
             rotate_left
             ·intro w'
              go_simp
              with_reducible rfl
             rotate_left
             ·simp only [Act.put, q1_, q2_, q3_, i64_w, i32_w]
              rfl
             refine pure_ (i := 6) (N := some 91) (v := ?_) (a' := ?_) #[true, true, true, true, true, true, true, false, false, false, false, false, false, false, false, false] rfl rfl (any_of HT_.out (by kernel_rfl)) (fun _ _ _ h => h) (Or.inl ⟨by rfl, ?_⟩) ?_ ?_
             rotate_left
             ·intro w'
              go_simp
              with_reducible rfl
             rotate_left
             ·simp only [Act.put, q1_, q2_, q3_, i64_w, i32_w]
              rfl
             refine pure_ (i := 8) (N := some 93) (v := ?_) (a' := ?_) #[true, true, true, true, true, true, true, false, true, false, false, false, false, false, false, false] rfl rfl (any_of HT_.out (by kernel_rfl)) (fun _ _ _ h => h) (Or.inl ⟨by rfl, ?_⟩) ?_ ?_
             rotate_left
             ·intro w'
              go_simp
              with_reducible rfl
             rotate_left
             ·simp only [Act.put, q1_, q2_, q3_, i64_w, i32_w]
              rfl
             refine pure_ (i := 12) (N := some 97) (v := ?_) (a' := ?_) #[true, true, true, true, true, true, true, false, true, false, false, false, true, false, false, false] rfl rfl (any_of HT_.out (by kernel_rfl)) (fun _ _ _ h => h) (Or.inl ⟨by rfl, ?_⟩) ?_ ?_
             rotate_left
             ·intro w'
              go_simp
              with_reducible rfl
             rotate_left
             ·simp only [Act.put, q1_, q2_, q3_, i64_w, i32_w]
              rfl
             refine take_ (i := 7) (N := some 92) (v := ?_) (a' := ?_) #[true, true, true, true, true, true, true, true, true, false, false, false, true, false, false, false] rfl rfl (take_ofW HT_.out HW_.out (by kernel_rfl)) (fun _ _ _ h => h) (Or.inl ⟨by rfl, ?_⟩) hHeld ?_ ?_
             rotate_left
             ·rintro w' ⟨s0, s1, s2, s3, s4, s5, s6, s7, s8, s9⟩
              go_simp
              with_reducible rfl
             rotate_left
             ·simp only [Act.put, q1_, q2_, q3_, i64_w, i32_w]
              rfl
             refine take_ (i := 9) (N := some 94) (v := ?_) (a' := ?_) #[true, true, true, true, true, true, true, true, true, true, false, false, true, false, false, false] rfl rfl (take_ofW HT_.out HW_.out (by kernel_rfl)) (fun _ _ _ h => h) (Or.inl ⟨by rfl, ?_⟩) hHeld ?_ ?_
             rotate_left
             ·rintro w' ⟨s0, s1, s2, s3, s4, s5, s6, s7, s8, s9⟩
              go_simp
              with_reducible rfl
             rotate_left
             ·simp only [Act.put, q1_, q2_, q3_, i64_w, i32_w]
              rfl
             refine pure_ (i := 10) (N := some 95) (v := ?_) (a' := ?_) #[true, true, true, true, true, true, true, true, true, true, true, false, true, false, false, false] rfl rfl (any_of HT_.out (by kernel_rfl)) (fun _ _ _ h => h) (Or.inl ⟨by rfl, ?_⟩) ?_ ?_
             rotate_left
             ·intro w'
              go_simp
              with_reducible rfl
             rotate_left
             ·simp only [Act.put, q1_, q2_, q3_, i64_w, i32_w]
              rfl
             refine take_ (i := 11) (N := some 96) (v := ?_) (a' := ?_) #[true, true, true, true, true, true, true, true, true, true, true, true, true, false, false, false] rfl rfl (take_ofW HT_.out HW_.out (by kernel_rfl)) (fun _ _ _ h => h) (Or.inl ⟨by rfl, ?_⟩) hHeld ?_ ?_
             rotate_left
             ·rintro w' ⟨s0, s1, s2, s3, s4, s5, s6, s7, s8, s9⟩
              go_simp
              with_reducible rfl
             rotate_left
             ·simp only [Act.put, q1_, q2_, q3_, i64_w, i32_w]
              rfl
             refine take_ (i := 13) (N := some 98) (v := ?_) (a' := ?_) #[true, true, true, true, true, true, true, true, true, true, true, true, true, true, false, false] rfl rfl (take_ofW HT_.out HW_.out (by kernel_rfl)) (fun _ _ _ h => h) (Or.inl ⟨by rfl, ?_⟩) hHeld ?_ ?_
             rotate_left
             ·rintro w' ⟨s0, s1, s2, s3, s4, s5, s6, s7, s8, s9⟩
              go_simp
              with_reducible rfl
             rotate_left
             ·simp only [Act.put, q1_, q2_, q3_, i64_w, i32_w]
              rfl
             refine pure_ (i := 14) (N := some 99) (v := ?_) (a' := ?_) #[true, true, true, true, true, true, true, true, true, true, true, true, true, true, true, false] rfl rfl (any_of HT_.out (by kernel_rfl)) (fun _ _ _ h => h) (Or.inl ⟨by rfl, ?_⟩) ?_ ?_
             rotate_left
             ·intro w'
              go_simp
              with_reducible rfl
             rotate_left
             ·simp only [Act.put, q1_, q2_, q3_, i64_w, i32_w]
              rfl
             refine pure_ (i := 15) (N := some 100) (v := ?_) (a' := ?_) #[true, true, true, true, true, true, true, true, true, true, true, true, true, true, true, true] rfl rfl (any_of HT_.out (by kernel_rfl)) (fun _ _ _ h => h) (Or.inl ⟨by rfl, ?_⟩) ?_ ?_
             rotate_left
             ·intro w'
              go_simp
              with_reducible rfl
             rotate_left
             ·simp only [Act.put, q1_, q2_, q3_, i64_w, i32_w]
              rfl
             refine done_ (done_of HT_.out (by kernel_rfl)) ?_
             try go_wp2
             have n0_ := Aside0.mk (Kd.R_drew HO_190002.out)
             have n1_ := Aside0.mk (blk_drew BK187.out)
             have n2_ := Aside0.mk (blk_drew BK188.out)
             have n3_ := Aside0.mk (blk_drew BK189.out)
             have n4_ := Aside0.mk (below_drew1 HB.out)
             clear HO_190002
             clear BK187
             clear BK188
             clear BK189
             clear HB
             have HO_190002 := n0_
             have BK187 := n1_
             have BK188 := n2_
             have BK189 := n3_
             have HB := n4_
             clear n0_ n1_ n2_ n3_ n4_
             have p205 : 0 ≤ (x7_1 : Int) := of_decide_eq_true (by assumption)
             have q205 : x7_1 < (l1.length : Int) := of_decide_eq_true (by assumption)
             obtain ⟨ad205, A205_1, c205_1, A205_2, c205_2, e205, hx205_0, hx205_1, hx205_2, hx205_3, hl205_1, hi205_1, hl205_2, hi205_2⟩ := at_T44 HR1.out x7_1 p205 q205
             have hw205_3 := hx205_3
             have hw205_2 := hx205_2
             have hw205_1 := hx205_1
             have hw205_0 := hx205_0
             obtain rfl : ad190 = ad205 := (by injection e205)
             replace hx205_0 := pw_cell_below HB.out hx205_0
             replace hx205_1 := pw_cell_below HB.out hx205_1
             replace hx205_2 := pw_cell_below HB.out hx205_2
             replace hx205_3 := pw_cell_below HB.out hx205_3
             have HR205_1 := Aside0.mk hi205_1
             have HC205_1 := Aside0.mk hl205_1
             clear hi205_1 hl205_1
             have HR205_2 := Aside0.mk hi205_2
             have HC205_2 := Aside0.mk hl205_2
             clear hi205_2 hl205_2
             replace p205 := eq_true p205
             replace q205 := eq_true q205
             have p206 : 0 ≤ (a0_1 : Int) := of_decide_eq_true (by assumption)
             have q206 : a0_1 < (((rd_T44 l1 x7_1).f0.f2).length : Int) := of_decide_eq_true (by assumption)
             obtain ⟨ad206, e206, hx206_0⟩ := Kd.at_int HR205_2.out a0_1 p206 q206
             have hw206_0 := hx206_0
             cases e206
             replace hx206_0 := pw_cell_below HB.out hx206_0
             replace p206 := eq_true p206
             replace q206 := eq_true q206
             refine start_ (n := 12) (S := fun w' => w'.cell? ⟨gb187, 0, none⟩ = some (.int .i64 a0_0) ∧ w'.cell? ⟨gb187, 1, none⟩ = some (.int .i64 a0_1) ∧ w'.cell? (ad190.add ((x7_1).toNat * 4)) = some (.int .i64 ((rd_T44 l1 x7_1).f0.f0)) ∧ w'.cell? ⟨(ad190.add ((x7_1).toNat * 4)).block, (ad190.add ((x7_1).toNat * 4)).off + 1, none⟩ = some (.slice A205_1 ((rd_T44 l1 x7_1).f0.f1).length c205_1) ∧ w'.cell? ⟨(ad190.add ((x7_1).toNat * 4)).block, (ad190.add ((x7_1).toNat * 4)).off + 2, none⟩ = some (.slice (some ad206) ((rd_T44 l1 x7_1).f0.f2).length c205_2) ∧ w'.cell? ⟨(ad190.add ((x7_1).toNat * 4)).block, (ad190.add ((x7_1).toNat * 4)).off + 3, none⟩ = some (.int .u64 ((rd_T44 l1 x7_1).f1)) ∧ w'.cell? (ad206.add (a0_1).toNat) = some (.int .i64 (rd ((rd_T44 l1 x7_1).f0.f2) a0_1))) (ds := []) #[false, false, false, false, false, false, false, false, false, false, false, false] (by kernel_rfl) rfl rfl ⟨(blk_cell BK187.out 0).trans rfl, (blk_cell BK187.out 1).trans rfl, (pw_cell_below HB.out hw205_0), (pw_cell_below HB.out hw205_1), (pw_cell_below HB.out hw205_2), (pw_cell_below HB.out hw205_3), (pw_cell_below HB.out hw206_0)⟩ (fun hHeld => ?_); refine with_tabW gristmillref06_Of.tab16 gristmillref06_Of.bits16 (fun HT_ HW_ => ?_)
             generalize w74.drew = w75 at HO_190002 BK187 BK188 BK189 HB HR205_1 HR205_2 hx205_0 hx205_1 hx205_2 hx205_3 hx206_0 hHeld ⊢
             refine pure_ (i := 0) (N := some 101) (v := ?_) (a' := ?_) #[true, false, false, false, false, false, false, false, false, false, false, false] rfl rfl (any_of HT_.out (by kernel_rfl)) (fun _ _ _ h => h) (Or.inl ⟨by rfl, ?_⟩) ?_ ?_
             rotate_left
             ·intro w'
              go_simp
              with_reducible rfl
             rotate_left
             ·simp only [Act.put, q1_, q2_, q3_, i64_w, i32_w]
              rfl
             refine pure_ (i := 1) (N := some 102) (v := ?_) (a' := ?_) #[true, true, false, false, false, false, false, false, false, false, false, false] rfl rfl (any_of HT_.out (by kernel_rfl)) (fun _ _ _ h => h) (Or.inl ⟨by rfl, ?_⟩) ?_ ?_
             rotate_left
             ·intro w'
              go_simp
              with_reducible rfl
             rotate_left
             ·simp only [Act.put, q1_, q2_, q3_, i64_w, i32_w]
              rfl
             refine pure_ (i := 2) (N := some 103) (v := ?_) (a' := ?_) #[true, true, true, false, false, false, false, false, false, false, false, false] rfl rfl (any_of HT_.out (by kernel_rfl)) (fun _ _ _ h => h) (Or.inl ⟨by rfl, ?_⟩) ?_ ?_
             rotate_left
             ·intro w'
              go_simp
              with_reducible rfl
             rotate_left
             ·simp only [Act.put, q1_, q2_, q3_, i64_w, i32_w]
              rfl
             refine pure_ (i := 3) (N := some 104) (v := ?_) (a' := ?_) #[true, true, true, true, false, false, false, false, false, false, false, false] rfl rfl (any_of HT_.out (by kernel_rfl)) (fun _ _ _ h => h) (Or.inl ⟨by rfl, ?_⟩) ?_ ?_
             rotate_left
             ·intro w'
              go_simp
              with_reducible rfl
             rotate_left
             ·simp only [Act.put, q1_, q2_, q3_, i64_w, i32_w]
              rfl
             refine pure_ (i := 4) (N := some 105) (v := ?_) (a' := ?_) #[true, true, true, true, true, false, false, false, false, false, false, false] rfl rfl (any_of HT_.out (by kernel_rfl)) (fun _ _ _ h => h) (Or.inl ⟨by rfl, ?_⟩) ?_ ?_
             rotate_left
             ·intro w'
              go_simp
              with_reducible rfl
             rotate_left
             ·simp only [Act.put, q1_, q2_, q3_, i64_w, i32_w]
              rfl
             refine pure_ (i := 6) (N := some 107) (v := ?_) (a' := ?_) #[true, true, true, true, true, false, true, false, false, false, false, false] rfl rfl (any_of HT_.out (by kernel_rfl)) (fun _ _ _ h => h) (Or.inl ⟨by rfl, ?_⟩) ?_ ?_
             rotate_left
             ·intro w'
              go_simp
              with_reducible rfl
             rotate_left
             ·simp only [Act.put, q1_, q2_, q3_, i64_w, i32_w]
              rfl
             refine take_ (i := 5) (N := some 106) (v := ?_) (a' := ?_) #[true, true, true, true, true, true, true, false, false, false, false, false] rfl rfl (take_ofW HT_.out HW_.out (by kernel_rfl)) (fun _ _ _ h => h) (Or.inl ⟨by rfl, ?_⟩) hHeld ?_ ?_
             rotate_left
             ·rintro w' ⟨s0, s1, s2, s3, s4, s5, s6⟩
              go_simp
              with_reducible rfl
             rotate_left
             ·simp only [Act.put, q1_, q2_, q3_, i64_w, i32_w]
              rfl
             refine take_ (i := 7) (N := some 108) (v := ?_) (a' := ?_) #[true, true, true, true, true, true, true, true, false, false, false, false] rfl rfl (take_ofW HT_.out HW_.out (by kernel_rfl)) (fun _ _ _ h => h) (Or.inl ⟨by rfl, ?_⟩) hHeld ?_ ?_
             rotate_left
             ·rintro w' ⟨s0, s1, s2, s3, s4, s5, s6⟩
              go_simp
              with_reducible rfl
             rotate_left
             ·simp only [Act.put, q1_, q2_, q3_, i64_w, i32_w]
              rfl
             refine pure_ (i := 8) (N := some 109) (v := ?_) (a' := ?_) #[true, true, true, true, true, true, true, true, true, false, false, false] rfl rfl (any_of HT_.out (by kernel_rfl)) (fun _ _ _ h => h) (Or.inl ⟨by rfl, ?_⟩) ?_ ?_
             rotate_left
             ·intro w'
              go_simp
              with_reducible rfl
             rotate_left
             ·simp only [Act.put, q1_, q2_, q3_, i64_w, i32_w]
              rfl
             refine take_ (i := 9) (N := some 110) (v := ?_) (a' := ?_) #[true, true, true, true, true, true, true, true, true, true, false, false] rfl rfl (take_ofW HT_.out HW_.out (by kernel_rfl)) (fun _ _ _ h => h) (Or.inl ⟨by rfl, ?_⟩) hHeld ?_ ?_
             rotate_left
             ·rintro w' ⟨s0, s1, s2, s3, s4, s5, s6⟩
              go_simp
              with_reducible rfl
             rotate_left
             ·simp only [Act.put, q1_, q2_, q3_, i64_w, i32_w]
              rfl
             refine pure_ (i := 10) (N := some 111) (v := ?_) (a' := ?_) #[true, true, true, true, true, true, true, true, true, true, true, false] rfl rfl (any_of HT_.out (by kernel_rfl)) (fun _ _ _ h => h) (Or.inl ⟨by rfl, ?_⟩) ?_ ?_
             rotate_left
             ·intro w'
              go_simp
              with_reducible rfl
             rotate_left
             ·simp only [Act.put, q1_, q2_, q3_, i64_w, i32_w]
              rfl
             refine one_ (i := 11) (N := none) #[true, true, true, true, true, true, true, true, true, true, true, true] rfl rfl (one_of HT_.out (by kernel_rfl)) (by decide) (fun K hK => ?_)
             have hs76 : w75.cell? ⟨gb189, 1, none⟩ = some (.int .i64 x190001_1) := (blk_cell BK189.out 1).trans rfl
             have hfs76 := blk_frozen BK189.out 1
             have hns76_0 := NB187_189.out
             have hns76_1 := NB188_189.out
             have hms76_0 := NB189_187.out
             have hms76_1 := NB189_188.out
             refine skip_ (w1 := ?_) (by rfl) rfl ?_ ?_
             rotate_left
             ·go_simp
              rfl
             refine hK.out _ _ ⟨((cell_far (p := ⟨gb189, _, none⟩) NB187_189.out _).trans (hHeld.1)), ((cell_far (p := ⟨gb189, _, none⟩) NB187_189.out _).trans (hHeld.2.1)), ((cell_far (p := ⟨gb189, _, none⟩) (by first | exact Nat.ne_of_lt (Nat.lt_of_lt_of_le (by have := World.block_lt_of_cell? _ _ hw205_0; first | rwa [add_block] at this | exact this) GW189.out) | (rw [add_block]; exact Nat.ne_of_lt (Nat.lt_of_lt_of_le (by have := World.block_lt_of_cell? _ _ hw205_0; first | rwa [add_block] at this | exact this) GW189.out)) | (show (Addr.add _ _).block ≠ _; rw [add_block]; exact Nat.ne_of_lt (Nat.lt_of_lt_of_le (by have := World.block_lt_of_cell? _ _ hw205_0; first | rwa [add_block] at this | exact this) GW189.out)) | (dsimp only; exact Nat.ne_of_lt (Nat.lt_of_lt_of_le (by have := World.block_lt_of_cell? _ _ hw205_0; first | rwa [add_block] at this | exact this) GW189.out))) _).trans (hHeld.2.2.1)), ((cell_far (p := ⟨gb189, _, none⟩) (by first | exact Nat.ne_of_lt (Nat.lt_of_lt_of_le (by have := World.block_lt_of_cell? _ _ hw205_1; first | rwa [add_block] at this | exact this) GW189.out) | (rw [add_block]; exact Nat.ne_of_lt (Nat.lt_of_lt_of_le (by have := World.block_lt_of_cell? _ _ hw205_1; first | rwa [add_block] at this | exact this) GW189.out)) | (show (Addr.add _ _).block ≠ _; rw [add_block]; exact Nat.ne_of_lt (Nat.lt_of_lt_of_le (by have := World.block_lt_of_cell? _ _ hw205_1; first | rwa [add_block] at this | exact this) GW189.out)) | (dsimp only; exact Nat.ne_of_lt (Nat.lt_of_lt_of_le (by have := World.block_lt_of_cell? _ _ hw205_1; first | rwa [add_block] at this | exact this) GW189.out))) _).trans (hHeld.2.2.2.1)), ((cell_far (p := ⟨gb189, _, none⟩) (by first | exact Nat.ne_of_lt (Nat.lt_of_lt_of_le (by have := World.block_lt_of_cell? _ _ hw205_2; first | rwa [add_block] at this | exact this) GW189.out) | (rw [add_block]; exact Nat.ne_of_lt (Nat.lt_of_lt_of_le (by have := World.block_lt_of_cell? _ _ hw205_2; first | rwa [add_block] at this | exact this) GW189.out)) | (show (Addr.add _ _).block ≠ _; rw [add_block]; exact Nat.ne_of_lt (Nat.lt_of_lt_of_le (by have := World.block_lt_of_cell? _ _ hw205_2; first | rwa [add_block] at this | exact this) GW189.out)) | (dsimp only; exact Nat.ne_of_lt (Nat.lt_of_lt_of_le (by have := World.block_lt_of_cell? _ _ hw205_2; first | rwa [add_block] at this | exact this) GW189.out))) _).trans (hHeld.2.2.2.2.1)), ((cell_far (p := ⟨gb189, _, none⟩) (by first | exact Nat.ne_of_lt (Nat.lt_of_lt_of_le (by have := World.block_lt_of_cell? _ _ hw205_3; first | rwa [add_block] at this | exact this) GW189.out) | (rw [add_block]; exact Nat.ne_of_lt (Nat.lt_of_lt_of_le (by have := World.block_lt_of_cell? _ _ hw205_3; first | rwa [add_block] at this | exact this) GW189.out)) | (show (Addr.add _ _).block ≠ _; rw [add_block]; exact Nat.ne_of_lt (Nat.lt_of_lt_of_le (by have := World.block_lt_of_cell? _ _ hw205_3; first | rwa [add_block] at this | exact this) GW189.out)) | (dsimp only; exact Nat.ne_of_lt (Nat.lt_of_lt_of_le (by have := World.block_lt_of_cell? _ _ hw205_3; first | rwa [add_block] at this | exact this) GW189.out))) _).trans (hHeld.2.2.2.2.2.1)), ((cell_far (p := ⟨gb189, _, none⟩) (by first | exact Nat.ne_of_lt (Nat.lt_of_lt_of_le (by have := World.block_lt_of_cell? _ _ hw206_0; first | rwa [add_block] at this | exact this) GW189.out) | (rw [add_block]; exact Nat.ne_of_lt (Nat.lt_of_lt_of_le (by have := World.block_lt_of_cell? _ _ hw206_0; first | rwa [add_block] at this | exact this) GW189.out)) | (show (Addr.add _ _).block ≠ _; rw [add_block]; exact Nat.ne_of_lt (Nat.lt_of_lt_of_le (by have := World.block_lt_of_cell? _ _ hw206_0; first | rwa [add_block] at this | exact this) GW189.out)) | (dsimp only; exact Nat.ne_of_lt (Nat.lt_of_lt_of_le (by have := World.block_lt_of_cell? _ _ hw206_0; first | rwa [add_block] at this | exact this) GW189.out))) _).trans (hHeld.2.2.2.2.2.2))⟩ (fun hHeld => ?_)
             clear hK K
             refine done_ (done_of HT_.out (by kernel_rfl)) ?_
             try go_wp2
             go_roundg k1
             case measure => have := HK1.out; omega
             case rel => exact ⟨(false), (wrap64 (x7_1 + 1)), (IntKind.u64.wrap (x190000_1 + ((rd_T44 l1 x7_1).f1))), (rd ((rd_T44 l1 x7_1).f0.f2) a0_1), (x190002_1), (u190002), (by first | rfl | (simp; done) | (simp [*]; done)), (by first | rfl | (simp; done) | (simp [*]; done)), H', ⟨by have := HK1.out; omega⟩, ⟨by (with_reducible repeat (first | apply Kd.R_alloc | apply Kd.R_drewN | apply Kd.R_drew)); exact Kd.R_mono (Kd.R_far (p := ⟨gb189, 1, none⟩) (Kd.R_types HO_190002.out BK189.out (by decide)) (fun _ hk => hk.2) (.int .i64 (rd ((rd_T44 l1 x7_1).f0.f2) a0_1))) (fun _ hk => trivial)⟩, ⟨by (with_reducible repeat (first | refine blk_drewN ?_ _ | refine blk_drew ?_ | refine blk_alloc ?_ _)); refine blk_far ?_ NB187_189.out _; (with_reducible repeat (first | refine blk_drewN ?_ _ | refine blk_drew ?_ | refine blk_alloc ?_ _)); exact BK187.out⟩, ⟨by (with_reducible repeat (first | refine blk_drewN ?_ _ | refine blk_drew ?_ | refine blk_alloc ?_ _)); refine blk_far ?_ NB188_189.out _; (with_reducible repeat (first | refine blk_drewN ?_ _ | refine blk_drew ?_ | refine blk_alloc ?_ _)); exact BK188.out⟩, ⟨by (with_reducible repeat (first | refine blk_drewN ?_ _ | refine blk_drew ?_ | refine blk_alloc ?_ _)); refine blk_put (cs := #[.int .u64 (IntKind.u64.wrap (x190000_1 + ((rd_T44 l1 x7_1).f1))), .int .i64 x190001_1, u190002]) ?_ 1 _ rfl; (with_reducible repeat (first | refine blk_drewN ?_ _ | refine blk_drew ?_ | refine blk_alloc ?_ _)); exact BK189.out⟩, ⟨by repeat (first | (with_reducible first | exact HB.out | apply below_alloc | apply pw_below_drewN | apply below_drew1 | refine below_set ?_ GE187.out | refine below_set ?_ GE188.out | refine below_set ?_ GE189.out) | exact HB.out)⟩⟩
            ·rw [if_neg c67] at H
             have c67b0 : decide (x190001_1 < (rd ((rd_T44 l1 x7_1).f0.f2) a0_1)) = false := decide_eq_false c67
             clear c67
             have H' := Aside0.mk H
             clear H
             have p190 : 0 ≤ (x7_1 : Int) := of_decide_eq_true (by assumption)
             have q190 : x7_1 < (l1.length : Int) := of_decide_eq_true (by assumption)
             obtain ⟨ad190, A190_1, c190_1, A190_2, c190_2, e190, hx190_0, hx190_1, hx190_2, hx190_3, hl190_1, hi190_1, hl190_2, hi190_2⟩ := at_T44 HR1.out x7_1 p190 q190
             cases e190
             replace hx190_0 := pw_cell_below HB.out hx190_0
             replace hx190_1 := pw_cell_below HB.out hx190_1
             replace hx190_2 := pw_cell_below HB.out hx190_2
             replace hx190_3 := pw_cell_below HB.out hx190_3
             have HR190_1 := Aside0.mk hi190_1
             have HC190_1 := Aside0.mk hl190_1
             clear hi190_1 hl190_1
             have HR190_2 := Aside0.mk hi190_2
             have HC190_2 := Aside0.mk hl190_2
             clear hi190_2 hl190_2
             replace p190 := eq_true p190
             replace q190 := eq_true q190
             try go_wp2
             have n0_ := Aside0.mk (Kd.R_drew HO_190002.out)
             have n1_ := Aside0.mk (blk_drew BK187.out)
             have n2_ := Aside0.mk (blk_drew BK188.out)
             have n3_ := Aside0.mk (blk_drew BK189.out)
             have n4_ := Aside0.mk (below_drew1 HB.out)
             clear HO_190002
             clear BK187
             clear BK188
             clear BK189
             clear HB
             have HO_190002 := n0_
             have BK187 := n1_
             have BK188 := n2_
             have BK189 := n3_
             have HB := n4_
             clear n0_ n1_ n2_ n3_ n4_
             have p191 : 0 ≤ (x7_1 : Int) := of_decide_eq_true (by assumption)
             have q191 : x7_1 < (l1.length : Int) := of_decide_eq_true (by assumption)
             obtain ⟨ad191, A191_1, c191_1, A191_2, c191_2, e191, hx191_0, hx191_1, hx191_2, hx191_3, hl191_1, hi191_1, hl191_2, hi191_2⟩ := at_T44 HR1.out x7_1 p191 q191
             have hw191_3 := hx191_3
             have hw191_2 := hx191_2
             have hw191_1 := hx191_1
             have hw191_0 := hx191_0
             obtain rfl : ad190 = ad191 := (by injection e191)
             replace hx191_0 := pw_cell_below HB.out hx191_0
             replace hx191_1 := pw_cell_below HB.out hx191_1
             replace hx191_2 := pw_cell_below HB.out hx191_2
             replace hx191_3 := pw_cell_below HB.out hx191_3
             have HR191_1 := Aside0.mk hi191_1
             have HC191_1 := Aside0.mk hl191_1
             clear hi191_1 hl191_1
             have HR191_2 := Aside0.mk hi191_2
             have HC191_2 := Aside0.mk hl191_2
             clear hi191_2 hl191_2
             replace p191 := eq_true p191
             replace q191 := eq_true q191
             refine start_ (n := 10) (S := fun w' => w'.cell? ⟨gb189, 0, none⟩ = some (.int .u64 x190000_1) ∧ w'.cell? ⟨gb189, 1, none⟩ = some (.int .i64 x190001_1) ∧ w'.cell? ⟨gb189, 2, none⟩ = some (u190002) ∧ w'.cell? (ad190.add ((x7_1).toNat * 4)) = some (.int .i64 ((rd_T44 l1 x7_1).f0.f0)) ∧ w'.cell? ⟨(ad190.add ((x7_1).toNat * 4)).block, (ad190.add ((x7_1).toNat * 4)).off + 1, none⟩ = some (.slice A191_1 ((rd_T44 l1 x7_1).f0.f1).length c191_1) ∧ w'.cell? ⟨(ad190.add ((x7_1).toNat * 4)).block, (ad190.add ((x7_1).toNat * 4)).off + 2, none⟩ = some (.slice A191_2 ((rd_T44 l1 x7_1).f0.f2).length c191_2) ∧ w'.cell? ⟨(ad190.add ((x7_1).toNat * 4)).block, (ad190.add ((x7_1).toNat * 4)).off + 3, none⟩ = some (.int .u64 ((rd_T44 l1 x7_1).f1))) (ds := [9]) #[false, false, false, false, false, false, false, false, false, false] (by kernel_rfl) rfl rfl ⟨(blk_cell BK189.out 0).trans rfl, (blk_cell BK189.out 1).trans rfl, (blk_cell BK189.out 2).trans rfl, (pw_cell_below HB.out hw191_0), (pw_cell_below HB.out hw191_1), (pw_cell_below HB.out hw191_2), (pw_cell_below HB.out hw191_3)⟩ (fun hHeld => ?_); refine with_tabW gristmillref06_Of.tab7 gristmillref06_Of.bits7 (fun HT_ HW_ => ?_)
             generalize wr.drew = w77 at HO_190002 BK187 BK188 BK189 HB HR191_1 HR191_2 hx191_0 hx191_1 hx191_2 hx191_3 hHeld ⊢
             refine pure_ (i := 0) (N := some 20) (v := ?_) (a' := ?_) #[true, false, false, false, false, false, false, false, false, false] rfl rfl (any_of HT_.out (by kernel_rfl)) (fun _ _ _ h => h) (Or.inl ⟨by rfl, ?_⟩) ?_ ?_
             rotate_left
             ·intro w'
              go_simp
              with_reducible rfl
             rotate_left
             ·simp only [Act.put, q1_, q2_, q3_, i64_w, i32_w]
              rfl
             refine pure_ (i := 2) (N := some 22) (v := ?_) (a' := ?_) #[true, false, true, false, false, false, false, false, false, false] rfl rfl (any_of HT_.out (by kernel_rfl)) (fun _ _ _ h => h) (Or.inl ⟨by rfl, ?_⟩) ?_ ?_
             rotate_left
             ·intro w'
              go_simp
              with_reducible rfl
             rotate_left
             ·simp only [Act.put, q1_, q2_, q3_, i64_w, i32_w]
              rfl
             refine pure_ (i := 3) (N := some 23) (v := ?_) (a' := ?_) #[true, false, true, true, false, false, false, false, false, false] rfl rfl (any_of HT_.out (by kernel_rfl)) (fun _ _ _ h => h) (Or.inl ⟨by rfl, ?_⟩) ?_ ?_
             rotate_left
             ·intro w'
              go_simp
              with_reducible rfl
             rotate_left
             ·simp only [Act.put, q1_, q2_, q3_, i64_w, i32_w]
              rfl
             refine pure_ (i := 4) (N := some 24) (v := ?_) (a' := ?_) #[true, false, true, true, true, false, false, false, false, false] rfl rfl (any_of HT_.out (by kernel_rfl)) (fun _ _ _ h => h) (Or.inl ⟨by rfl, ?_⟩) ?_ ?_
             rotate_left
             ·intro w'
              go_simp
              with_reducible rfl
             rotate_left
             ·simp only [Act.put, q1_, q2_, q3_, i64_w, i32_w]
              rfl
             refine pure_ (i := 5) (N := some 25) (v := ?_) (a' := ?_) #[true, false, true, true, true, true, false, false, false, false] rfl rfl (any_of HT_.out (by kernel_rfl)) (fun _ _ _ h => h) (Or.inl ⟨by rfl, ?_⟩) ?_ ?_
             rotate_left
             ·intro w'
              go_simp
              with_reducible rfl
             rotate_left
             ·simp only [Act.put, q1_, q2_, q3_, i64_w, i32_w]
              rfl
             refine take_ (i := 1) (N := some 21) (v := ?_) (a' := ?_) #[true, true, true, true, true, true, false, false, false, false] rfl rfl (take_ofW HT_.out HW_.out (by kernel_rfl)) (fun _ _ _ h => h) (Or.inl ⟨by rfl, ?_⟩) hHeld ?_ ?_
             rotate_left
             ·rintro w' ⟨s0, s1, s2, s3, s4, s5, s6⟩
              go_simp
              with_reducible rfl
             rotate_left
             ·simp only [Act.put, q1_, q2_, q3_, i64_w, i32_w]
              rfl
             refine take_ (i := 6) (N := some 26) (v := ?_) (a' := ?_) #[true, true, true, true, true, true, true, false, false, false] rfl rfl (take_ofW HT_.out HW_.out (by kernel_rfl)) (fun _ _ _ h => h) (Or.inl ⟨by rfl, ?_⟩) hHeld ?_ ?_
             rotate_left
             ·rintro w' ⟨s0, s1, s2, s3, s4, s5, s6⟩
              go_simp
              with_reducible rfl
             rotate_left
             ·simp only [Act.put, q1_, q2_, q3_, i64_w, i32_w]
              rfl
             refine pure_ (i := 7) (N := some 27) (v := ?_) (a' := ?_) #[true, true, true, true, true, true, true, true, false, false] rfl rfl (any_of HT_.out (by kernel_rfl)) (fun _ _ _ h => h) (Or.inl ⟨by rfl, ?_⟩) ?_ ?_
             rotate_left
             ·intro w'
              go_simp
              with_reducible rfl
             rotate_left
             ·simp only [Act.put, q1_, q2_, q3_, i64_w, i32_w]
              rfl
             refine pure_ (i := 8) (N := some 28) (v := ?_) (a' := ?_) #[true, true, true, true, true, true, true, true, true, false] rfl rfl (any_of HT_.out (by kernel_rfl)) (fun _ _ _ h => h) (Or.inl ⟨by rfl, ?_⟩) ?_ ?_
             rotate_left
             ·intro w'
              go_simp
              with_reducible rfl
             rotate_left
             ·simp only [Act.put, q1_, q2_, q3_, i64_w, i32_w]
              rfl
             refine last_ (i := 9) (N := none) #[true, true, true, true, true, true, true, true, true, true] rfl rfl (one_of HT_.out (by kernel_rfl)) (by decide) (fun K hK => ?_)
             have hs78 : w77.cell? ⟨gb189, 0, none⟩ = some (.int .u64 x190000_1) := (blk_cell BK189.out 0).trans rfl
             have hfs78 := blk_frozen BK189.out 0
             have hns78_0 := NB187_189.out
             have hns78_1 := NB188_189.out
             have hms78_0 := NB189_187.out
             have hms78_1 := NB189_188.out
             refine skip_ (w1 := ?_) (by rfl) rfl ?_ ?_
             rotate_left
             ·go_simp
              rfl
             refine hK.out _ _ ?_
             clear hK K
             refine done_ (done_of HT_.out (by kernel_rfl)) ?_
             have hnb79 := NB187_188.out
             have hnc79 := NB188_187.out
             have hnb80 := NB187_189.out
             have hnc80 := NB189_187.out
             have hcz81_0 : w77.cell? ⟨gb187, 0, none⟩ = some (.int .i64 a0_0) := (blk_cell BK187.out 0).trans rfl
             have hcz81_1 : w77.cell? ⟨gb187, 1, none⟩ = some (.int .i64 a0_1) := (blk_cell BK187.out 1).trans rfl
             have hfz81_0 := blk_frozen BK187.out 0
             have hfz81_1 := blk_frozen BK187.out 1
             try go_wp2
             have n0_ : Aside0 (Kd.R Kd.string 9 (w77.setCell ⟨gb189, 0, none⟩ (.int .u64 (IntKind.u64.wrap (x190000_1 + ((rd_T44 l1 x7_1).f1))))) w.heap.size (fun _ => True) u190002 x190002_1) := ⟨by (with_reducible repeat (first | apply Kd.R_alloc | apply Kd.R_drewN | apply Kd.R_drew)); exact Kd.R_mono (Kd.R_far (p := ⟨gb189, 0, none⟩) (Kd.R_types HO_190002.out BK189.out (by decide)) (fun _ hk => hk.2) (.int .u64 (IntKind.u64.wrap (x190000_1 + ((rd_T44 l1 x7_1).f1))))) (fun _ hk => trivial)⟩
             have n1_ : Aside0 ((w77.setCell ⟨gb189, 0, none⟩ (.int .u64 (IntKind.u64.wrap (x190000_1 + ((rd_T44 l1 x7_1).f1))))).heap[gb187]? = some (.cells #[.int .i64 a0_0, .int .i64 a0_1] 23 (0, 0))) := ⟨by (with_reducible repeat (first | refine blk_drewN ?_ _ | refine blk_drew ?_ | refine blk_alloc ?_ _)); refine blk_far ?_ NB187_189.out _; (with_reducible repeat (first | refine blk_drewN ?_ _ | refine blk_drew ?_ | refine blk_alloc ?_ _)); exact BK187.out⟩
             have n2_ : Aside0 ((w77.setCell ⟨gb189, 0, none⟩ (.int .u64 (IntKind.u64.wrap (x190000_1 + ((rd_T44 l1 x7_1).f1))))).heap[gb188]? = some (.cells #[.int .u64 0, .int .i64 0, .slice none 0 0] 33 (0, 0))) := ⟨by (with_reducible repeat (first | refine blk_drewN ?_ _ | refine blk_drew ?_ | refine blk_alloc ?_ _)); refine blk_far ?_ NB188_189.out _; (with_reducible repeat (first | refine blk_drewN ?_ _ | refine blk_drew ?_ | refine blk_alloc ?_ _)); exact BK188.out⟩
             have n3_ : Aside0 ((w77.setCell ⟨gb189, 0, none⟩ (.int .u64 (IntKind.u64.wrap (x190000_1 + ((rd_T44 l1 x7_1).f1))))).heap[gb189]? = some (.cells #[.int .u64 (IntKind.u64.wrap (x190000_1 + ((rd_T44 l1 x7_1).f1))), .int .i64 x190001_1, u190002] 33 (0, 0))) := ⟨by (with_reducible repeat (first | refine blk_drewN ?_ _ | refine blk_drew ?_ | refine blk_alloc ?_ _)); refine blk_put (cs := #[.int .u64 x190000_1, .int .i64 x190001_1, u190002]) ?_ 0 _ rfl; (with_reducible repeat (first | refine blk_drewN ?_ _ | refine blk_drew ?_ | refine blk_alloc ?_ _)); exact BK189.out⟩
             have n4_ : Aside0 (Below w.heap.size w (w77.setCell ⟨gb189, 0, none⟩ (.int .u64 (IntKind.u64.wrap (x190000_1 + ((rd_T44 l1 x7_1).f1)))))) := ⟨by repeat (first | (with_reducible first | exact HB.out | apply below_alloc | apply pw_below_drewN | apply below_drew1 | refine below_set ?_ GE187.out | refine below_set ?_ GE188.out | refine below_set ?_ GE189.out) | exact HB.out)⟩
             (try clear HO_190002)
             (try clear BK187)
             (try clear BK188)
             (try clear BK189)
             (try clear HB)
             generalize (w77.setCell ⟨gb189, 0, none⟩ (.int .u64 (IntKind.u64.wrap (x190000_1 + ((rd_T44 l1 x7_1).f1))))) = w82 at n0_ n1_ n2_ n3_ n4_ ⊢
             have HO_190002 := n0_
             have BK187 := n1_
             have BK188 := n2_
             have BK189 := n3_
             have HB := n4_
             clear n0_ n1_ n2_ n3_ n4_
             have n0_ := Aside0.mk (Kd.R_drew HO_190002.out)
             have n1_ := Aside0.mk (blk_drew BK187.out)
             have n2_ := Aside0.mk (blk_drew BK188.out)
             have n3_ := Aside0.mk (blk_drew BK189.out)
             have n4_ := Aside0.mk (below_drew1 HB.out)
             clear HO_190002
             clear BK187
             clear BK188
             clear BK189
             clear HB
             have HO_190002 := n0_
             have BK187 := n1_
             have BK188 := n2_
             have BK189 := n3_
             have HB := n4_
             clear n0_ n1_ n2_ n3_ n4_
             have p203 : 0 ≤ (x7_1 : Int) := of_decide_eq_true (by assumption)
             have q203 : x7_1 < (l1.length : Int) := of_decide_eq_true (by assumption)
             obtain ⟨ad203, A203_1, c203_1, A203_2, c203_2, e203, hx203_0, hx203_1, hx203_2, hx203_3, hl203_1, hi203_1, hl203_2, hi203_2⟩ := at_T44 HR1.out x7_1 p203 q203
             have hw203_3 := hx203_3
             have hw203_2 := hx203_2
             have hw203_1 := hx203_1
             have hw203_0 := hx203_0
             obtain rfl : ad190 = ad203 := (by injection e203)
             replace hx203_0 := pw_cell_below HB.out hx203_0
             replace hx203_1 := pw_cell_below HB.out hx203_1
             replace hx203_2 := pw_cell_below HB.out hx203_2
             replace hx203_3 := pw_cell_below HB.out hx203_3
             have HR203_1 := Aside0.mk hi203_1
             have HC203_1 := Aside0.mk hl203_1
             clear hi203_1 hl203_1
             have HR203_2 := Aside0.mk hi203_2
             have HC203_2 := Aside0.mk hl203_2
             clear hi203_2 hl203_2
             replace p203 := eq_true p203
             replace q203 := eq_true q203
             have p204 : 0 ≤ (a0_1 : Int) := of_decide_eq_true (by assumption)
             have q204 : a0_1 < (((rd_T44 l1 x7_1).f0.f2).length : Int) := of_decide_eq_true (by assumption)
             obtain ⟨ad204, e204, hx204_0⟩ := Kd.at_int HR203_2.out a0_1 p204 q204
             have hw204_0 := hx204_0
             cases e204
             replace hx204_0 := pw_cell_below HB.out hx204_0
             replace p204 := eq_true p204
             replace q204 := eq_true q204
             refine start_ (n := 16) (S := fun w' => w'.cell? ⟨gb187, 0, none⟩ = some (.int .i64 a0_0) ∧ w'.cell? ⟨gb187, 1, none⟩ = some (.int .i64 a0_1) ∧ w'.cell? ⟨gb189, 0, none⟩ = some (.int .u64 (IntKind.u64.wrap (x190000_1 + ((rd_T44 l1 x7_1).f1)))) ∧ w'.cell? ⟨gb189, 1, none⟩ = some (.int .i64 x190001_1) ∧ w'.cell? ⟨gb189, 2, none⟩ = some (u190002) ∧ w'.cell? (ad190.add ((x7_1).toNat * 4)) = some (.int .i64 ((rd_T44 l1 x7_1).f0.f0)) ∧ w'.cell? ⟨(ad190.add ((x7_1).toNat * 4)).block, (ad190.add ((x7_1).toNat * 4)).off + 1, none⟩ = some (.slice A203_1 ((rd_T44 l1 x7_1).f0.f1).length c203_1) ∧ w'.cell? ⟨(ad190.add ((x7_1).toNat * 4)).block, (ad190.add ((x7_1).toNat * 4)).off + 2, none⟩ = some (.slice (some ad204) ((rd_T44 l1 x7_1).f0.f2).length c203_2) ∧ w'.cell? ⟨(ad190.add ((x7_1).toNat * 4)).block, (ad190.add ((x7_1).toNat * 4)).off + 3, none⟩ = some (.int .u64 ((rd_T44 l1 x7_1).f1)) ∧ w'.cell? (ad204.add (a0_1).toNat) = some (.int .i64 (rd ((rd_T44 l1 x7_1).f0.f2) a0_1))) (ds := []) #[false, false, false, false, false, false, false, false, false, false, false, false, false, false, false, false] (by kernel_rfl) rfl rfl ⟨(blk_cell BK187.out 0).trans rfl, (blk_cell BK187.out 1).trans rfl, (blk_cell BK189.out 0).trans rfl, (blk_cell BK189.out 1).trans rfl, (blk_cell BK189.out 2).trans rfl, (pw_cell_below HB.out hw203_0), (pw_cell_below HB.out hw203_1), (pw_cell_below HB.out hw203_2), (pw_cell_below HB.out hw203_3), (pw_cell_below HB.out hw204_0)⟩ (fun hHeld => ?_); refine with_tabW gristmillref06_Of.tab15 gristmillref06_Of.bits15 (fun HT_ HW_ => ?_)
             generalize w82.drew = w83 at HO_190002 BK187 BK188 BK189 HB HR203_1 HR203_2 hx203_0 hx203_1 hx203_2 hx203_3 hx204_0 hHeld ⊢
             refine pure_ (i := 0) (N := some 85) (v := ?_) (a' := ?_) #[true, false, false, false, false, false, false, false, false, false, false, false, false, false, false, false] rfl rfl (any_of HT_.out (by kernel_rfl)) (fun _ _ _ h => h) (Or.inl ⟨by rfl, ?_⟩) ?_ ?_
             rotate_left
             ·intro w'
              go_simp
              with_reducible rfl
             rotate_left
             ·simp only [Act.put, q1_, q2_, q3_, i64_w, i32_w]
              rfl
             refine pure_ (i := 1) (N := some 86) (v := ?_) (a' := ?_) #[true, true, false, false, false, false, false, false, false, false, false, false, false, false, false, false] rfl rfl (any_of HT_.out (by kernel_rfl)) (fun _ _ _ h => h) (Or.inl ⟨by rfl, ?_⟩) ?_ ?_
             rotate_left
             ·intro w'
              go_simp
              with_reducible rfl
             rotate_left
             ·simp only [Act.put, q1_, q2_, q3_, i64_w, i32_w]
              rfl
             refine pure_ (i := 2) (N := some 87) (v := ?_) (a' := ?_) #[true, true, true, false, false, false, false, false, false, false, false, false, false, false, false, false] rfl rfl (any_of HT_.out (by kernel_rfl)) (fun _ _ _ h => h) (Or.inl ⟨by rfl, ?_⟩) ?_ ?_
             rotate_left
             ·intro w'
              go_simp
              with_reducible rfl
             rotate_left
             ·simp only [Act.put, q1_, q2_, q3_, i64_w, i32_w]
              rfl
             refine pure_ (i := 3) (N := some 88) (v := ?_) (a' := ?_) #[true, true, true, true, false, false, false, false, false, false, false, false, false, false, false, false] rfl rfl (any_of HT_.out (by kernel_rfl)) (fun _ _ _ h => h) (Or.inl ⟨by rfl, ?_⟩) ?_ ?_
             rotate_left
             ·intro w'
              go_simp
              with_reducible rfl
             rotate_left
             ·simp only [Act.put, q1_, q2_, q3_, i64_w, i32_w]
              rfl
             refine pure_ (i := 4) (N := some 89) (v := ?_) (a' := ?_) #[true, true, true, true, true, false, false, false, false, false, false, false, false, false, false, false] rfl rfl (any_of HT_.out (by kernel_rfl)) (fun _ _ _ h => h) (Or.inl ⟨by rfl, ?_⟩) ?_ ?_
             rotate_left
             ·intro w'
              go_simp
              with_reducible rfl
             rotate_left
             ·simp only [Act.put, q1_, q2_, q3_, i64_w, i32_w]
              rfl
             refine pure_ (i := 5) (N := some 90) (v := ?_) (a' := ?_) #[true, true, true, true, true, true, false, false, false, false, false, false, false, false, false, false] rfl rfl (any_of HT_.out (by kernel_rfl)) (fun _ _ _ h => h) (Or.inl ⟨by rfl, ?_⟩) ?_ ?_
             rotate_left
             ·intro w'
              go_simp
              with_reducible rfl
             rotate_left
             ·simp only [Act.put, q1_, q2_, q3_, i64_w, i32_w]
              rfl
             refine pure_ (i := 6) (N := some 91) (v := ?_) (a' := ?_) #[true, true, true, true, true, true, true, false, false, false, false, false, false, false, false, false] rfl rfl (any_of HT_.out (by kernel_rfl)) (fun _ _ _ h => h) (Or.inl ⟨by rfl, ?_⟩) ?_ ?_
             rotate_left
             ·intro w'
              go_simp
              with_reducible rfl
             rotate_left
             ·simp only [Act.put, q1_, q2_, q3_, i64_w, i32_w]
              rfl
             refine pure_ (i := 8) (N := some 93) (v := ?_) (a' := ?_) #[true, true, true, true, true, true, true, false, true, false, false, false, false, false, false, false] rfl rfl (any_of HT_.out (by kernel_rfl)) (fun _ _ _ h => h) (Or.inl ⟨by rfl, ?_⟩) ?_ ?_
             rotate_left
             ·intro w'
              go_simp
              with_reducible rfl
             rotate_left
             ·simp only [Act.put, q1_, q2_, q3_, i64_w, i32_w]
              rfl
             refine pure_ (i := 12) (N := some 97) (v := ?_) (a' := ?_) #[true, true, true, true, true, true, true, false, true, false, false, false, true, false, false, false] rfl rfl (any_of HT_.out (by kernel_rfl)) (fun _ _ _ h => h) (Or.inl ⟨by rfl, ?_⟩) ?_ ?_
             rotate_left
             ·intro w'
              go_simp
              with_reducible rfl
             rotate_left
             ·simp only [Act.put, q1_, q2_, q3_, i64_w, i32_w]
              rfl
             refine take_ (i := 7) (N := some 92) (v := ?_) (a' := ?_) #[true, true, true, true, true, true, true, true, true, false, false, false, true, false, false, false] rfl rfl (take_ofW HT_.out HW_.out (by kernel_rfl)) (fun _ _ _ h => h) (Or.inl ⟨by rfl, ?_⟩) hHeld ?_ ?_
             rotate_left
             ·rintro w' ⟨s0, s1, s2, s3, s4, s5, s6, s7, s8, s9⟩
              go_simp
              with_reducible rfl
             rotate_left
             ·simp only [Act.put, q1_, q2_, q3_, i64_w, i32_w]
              rfl
             refine take_ (i := 9) (N := some 94) (v := ?_) (a' := ?_) #[true, true, true, true, true, true, true, true, true, true, false, false, true, false, false, false] rfl rfl (take_ofW HT_.out HW_.out (by kernel_rfl)) (fun _ _ _ h => h) (Or.inl ⟨by rfl, ?_⟩) hHeld ?_ ?_
             rotate_left
             ·rintro w' ⟨s0, s1, s2, s3, s4, s5, s6, s7, s8, s9⟩
              go_simp
              with_reducible rfl
             rotate_left
             ·simp only [Act.put, q1_, q2_, q3_, i64_w, i32_w]
              rfl
             refine pure_ (i := 10) (N := some 95) (v := ?_) (a' := ?_) #[true, true, true, true, true, true, true, true, true, true, true, false, true, false, false, false] rfl rfl (any_of HT_.out (by kernel_rfl)) (fun _ _ _ h => h) (Or.inl ⟨by rfl, ?_⟩) ?_ ?_
             rotate_left
             ·intro w'
              go_simp
              with_reducible rfl
             rotate_left
             ·simp only [Act.put, q1_, q2_, q3_, i64_w, i32_w]
              rfl
             refine take_ (i := 11) (N := some 96) (v := ?_) (a' := ?_) #[true, true, true, true, true, true, true, true, true, true, true, true, true, false, false, false] rfl rfl (take_ofW HT_.out HW_.out (by kernel_rfl)) (fun _ _ _ h => h) (Or.inl ⟨by rfl, ?_⟩) hHeld ?_ ?_
             rotate_left
             ·rintro w' ⟨s0, s1, s2, s3, s4, s5, s6, s7, s8, s9⟩
              go_simp
              with_reducible rfl
             rotate_left
             ·simp only [Act.put, q1_, q2_, q3_, i64_w, i32_w]
              rfl
             refine take_ (i := 13) (N := some 98) (v := ?_) (a' := ?_) #[true, true, true, true, true, true, true, true, true, true, true, true, true, true, false, false] rfl rfl (take_ofW HT_.out HW_.out (by kernel_rfl)) (fun _ _ _ h => h) (Or.inl ⟨by rfl, ?_⟩) hHeld ?_ ?_
             rotate_left
             ·rintro w' ⟨s0, s1, s2, s3, s4, s5, s6, s7, s8, s9⟩
              go_simp
              with_reducible rfl
             rotate_left
             ·simp only [Act.put, q1_, q2_, q3_, i64_w, i32_w]
              rfl
             refine pure_ (i := 14) (N := some 99) (v := ?_) (a' := ?_) #[true, true, true, true, true, true, true, true, true, true, true, true, true, true, true, false] rfl rfl (any_of HT_.out (by kernel_rfl)) (fun _ _ _ h => h) (Or.inl ⟨by rfl, ?_⟩) ?_ ?_
             rotate_left
             ·intro w'
              go_simp
              with_reducible rfl
             rotate_left
             ·simp only [Act.put, q1_, q2_, q3_, i64_w, i32_w]
              rfl
             refine pure_ (i := 15) (N := some 100) (v := ?_) (a' := ?_) #[true, true, true, true, true, true, true, true, true, true, true, true, true, true, true, true] rfl rfl (any_of HT_.out (by kernel_rfl)) (fun _ _ _ h => h) (Or.inl ⟨by rfl, ?_⟩) ?_ ?_
             rotate_left
             ·intro w'
              go_simp
              with_reducible rfl
             rotate_left
             ·simp only [Act.put, q1_, q2_, q3_, i64_w, i32_w]
              rfl
             refine done_ (done_of HT_.out (by kernel_rfl)) ?_
             try go_wp2
             go_roundg k1
             case measure => have := HK1.out; omega
             case rel => exact ⟨(false), (wrap64 (x7_1 + 1)), (IntKind.u64.wrap (x190000_1 + ((rd_T44 l1 x7_1).f1))), (x190001_1), (x190002_1), (u190002), (by first | rfl | (simp; done) | (simp [*]; done)), (by first | rfl | (simp; done) | (simp [*]; done)), H', ⟨by have := HK1.out; omega⟩, ⟨by (with_reducible repeat (first | apply Kd.R_alloc | apply Kd.R_drewN | apply Kd.R_drew)); exact HO_190002.out⟩, ⟨by (with_reducible repeat (first | refine blk_drewN ?_ _ | refine blk_drew ?_ | refine blk_alloc ?_ _)); exact BK187.out⟩, ⟨by (with_reducible repeat (first | refine blk_drewN ?_ _ | refine blk_drew ?_ | refine blk_alloc ?_ _)); exact BK188.out⟩, ⟨by (with_reducible repeat (first | refine blk_drewN ?_ _ | refine blk_drew ?_ | refine blk_alloc ?_ _)); exact BK189.out⟩, ⟨by repeat (first | (with_reducible first | exact HB.out | apply below_alloc | apply pw_below_drewN | apply below_drew1 | refine below_set ?_ GE187.out | refine below_set ?_ GE188.out | refine below_set ?_ GE189.out) | exact HB.out)⟩⟩
           ·rw [if_neg c66] at H
            exact absurd H (by simp)
          ·rw [if_neg c65] at H
           exact absurd H (by simp)
        ·rw [if_neg c52] at H
         have c52b0 : (a0_0 == 4) = false := beq_eq_false_iff_ne.mpr c52
         have c52b1 : (a0_0 != 4) = true := bne_iff_ne.mpr c52
         by_cases c84 : a0_0 = 5
         ·rw [if_pos c84] at H
          have c84b0 : (a0_0 == 5) = true := beq_iff_eq.mpr c84
          have c84b1 : (a0_0 != 5) = false := bne_eq_false_iff_eq.mpr c84
          clear c84
          by_cases c85 : 0 ≤ a0_1
          ·rw [if_pos c85] at H
           have c85b0 : decide (0 ≤ a0_1) = true := decide_eq_true c85
           clear c85
           by_cases c86 : a0_1 < (((rd_T44 l1 x7_1).f0.f1).length : Int)
           ·rw [if_pos c86] at H
            have c86b0 : decide (a0_1 < (((rd_T44 l1 x7_1).f0.f1).length : Int)) = true := decide_eq_true c86
            clear c86
            replace H := Option.bind_eq_some_iff.mp H
            obtain ⟨t209, A870, H⟩ := H
            replace H : (gristmillref06_Of.l0 k1 l1 false (wrap64 (x7_1 + 1)) a0_0 a0_1 (IntKind.u64.wrap (x190000_1 + ((rd_T44 l1 x7_1).f1))) x190001_1 t209) = some (r1, r2, r3) := H
            have A87 := Aside0.mk A870
            clear A870
            have H' := Aside0.mk H
            clear H
            have p190 : 0 ≤ (x7_1 : Int) := of_decide_eq_true (by assumption)
            have q190 : x7_1 < (l1.length : Int) := of_decide_eq_true (by assumption)
            obtain ⟨ad190, A190_1, c190_1, A190_2, c190_2, e190, hx190_0, hx190_1, hx190_2, hx190_3, hl190_1, hi190_1, hl190_2, hi190_2⟩ := at_T44 HR1.out x7_1 p190 q190
            cases e190
            replace hx190_0 := pw_cell_below HB.out hx190_0
            replace hx190_1 := pw_cell_below HB.out hx190_1
            replace hx190_2 := pw_cell_below HB.out hx190_2
            replace hx190_3 := pw_cell_below HB.out hx190_3
            have HR190_1 := Aside0.mk hi190_1
            have HC190_1 := Aside0.mk hl190_1
            clear hi190_1 hl190_1
            have HR190_2 := Aside0.mk hi190_2
            have HC190_2 := Aside0.mk hl190_2
            clear hi190_2 hl190_2
            replace p190 := eq_true p190
            replace q190 := eq_true q190
            try go_wp2
            have n0_ := Aside0.mk (Kd.R_drew HO_190002.out)
            have n1_ := Aside0.mk (blk_drew BK187.out)
            have n2_ := Aside0.mk (blk_drew BK188.out)
            have n3_ := Aside0.mk (blk_drew BK189.out)
            have n4_ := Aside0.mk (below_drew1 HB.out)
            clear HO_190002
            clear BK187
            clear BK188
            clear BK189
            clear HB
            have HO_190002 := n0_
            have BK187 := n1_
            have BK188 := n2_
            have BK189 := n3_
            have HB := n4_
            clear n0_ n1_ n2_ n3_ n4_
            have p191 : 0 ≤ (x7_1 : Int) := of_decide_eq_true (by assumption)
            have q191 : x7_1 < (l1.length : Int) := of_decide_eq_true (by assumption)
            obtain ⟨ad191, A191_1, c191_1, A191_2, c191_2, e191, hx191_0, hx191_1, hx191_2, hx191_3, hl191_1, hi191_1, hl191_2, hi191_2⟩ := at_T44 HR1.out x7_1 p191 q191
            have hw191_3 := hx191_3
            have hw191_2 := hx191_2
            have hw191_1 := hx191_1
            have hw191_0 := hx191_0
            obtain rfl : ad190 = ad191 := (by injection e191)
            replace hx191_0 := pw_cell_below HB.out hx191_0
            replace hx191_1 := pw_cell_below HB.out hx191_1
            replace hx191_2 := pw_cell_below HB.out hx191_2
            replace hx191_3 := pw_cell_below HB.out hx191_3
            have HR191_1 := Aside0.mk hi191_1
            have HC191_1 := Aside0.mk hl191_1
            clear hi191_1 hl191_1
            have HR191_2 := Aside0.mk hi191_2
            have HC191_2 := Aside0.mk hl191_2
            clear hi191_2 hl191_2
            replace p191 := eq_true p191
            replace q191 := eq_true q191
            refine start_ (n := 10) (S := fun w' => w'.cell? ⟨gb189, 0, none⟩ = some (.int .u64 x190000_1) ∧ w'.cell? ⟨gb189, 1, none⟩ = some (.int .i64 x190001_1) ∧ w'.cell? ⟨gb189, 2, none⟩ = some (u190002) ∧ w'.cell? (ad190.add ((x7_1).toNat * 4)) = some (.int .i64 ((rd_T44 l1 x7_1).f0.f0)) ∧ w'.cell? ⟨(ad190.add ((x7_1).toNat * 4)).block, (ad190.add ((x7_1).toNat * 4)).off + 1, none⟩ = some (.slice A191_1 ((rd_T44 l1 x7_1).f0.f1).length c191_1) ∧ w'.cell? ⟨(ad190.add ((x7_1).toNat * 4)).block, (ad190.add ((x7_1).toNat * 4)).off + 2, none⟩ = some (.slice A191_2 ((rd_T44 l1 x7_1).f0.f2).length c191_2) ∧ w'.cell? ⟨(ad190.add ((x7_1).toNat * 4)).block, (ad190.add ((x7_1).toNat * 4)).off + 3, none⟩ = some (.int .u64 ((rd_T44 l1 x7_1).f1))) (ds := [9]) #[false, false, false, false, false, false, false, false, false, false] (by kernel_rfl) rfl rfl ⟨(blk_cell BK189.out 0).trans rfl, (blk_cell BK189.out 1).trans rfl, (blk_cell BK189.out 2).trans rfl, (pw_cell_below HB.out hw191_0), (pw_cell_below HB.out hw191_1), (pw_cell_below HB.out hw191_2), (pw_cell_below HB.out hw191_3)⟩ (fun hHeld => ?_); refine with_tabW gristmillref06_Of.tab7 gristmillref06_Of.bits7 (fun HT_ HW_ => ?_)
            generalize wr.drew = w88 at HO_190002 BK187 BK188 BK189 HB HR191_1 HR191_2 hx191_0 hx191_1 hx191_2 hx191_3 hHeld ⊢
            refine pure_ (i := 0) (N := some 20) (v := ?_) (a' := ?_) #[true, false, false, false, false, false, false, false, false, false] rfl rfl (any_of HT_.out (by kernel_rfl)) (fun _ _ _ h => h) (Or.inl ⟨by rfl, ?_⟩) ?_ ?_
            rotate_left
            ·intro w'
             go_simp
             with_reducible rfl
            rotate_left
            ·simp only [Act.put, q1_, q2_, q3_, i64_w, i32_w]
             rfl
            refine pure_ (i := 2) (N := some 22) (v := ?_) (a' := ?_) #[true, false, true, false, false, false, false, false, false, false] rfl rfl (any_of HT_.out (by kernel_rfl)) (fun _ _ _ h => h) (Or.inl ⟨by rfl, ?_⟩) ?_ ?_
            rotate_left
            ·intro w'
             go_simp
             with_reducible rfl
            rotate_left
            ·simp only [Act.put, q1_, q2_, q3_, i64_w, i32_w]
             rfl
            refine pure_ (i := 3) (N := some 23) (v := ?_) (a' := ?_) #[true, false, true, true, false, false, false, false, false, false] rfl rfl (any_of HT_.out (by kernel_rfl)) (fun _ _ _ h => h) (Or.inl ⟨by rfl, ?_⟩) ?_ ?_
            rotate_left
            ·intro w'
             go_simp
             with_reducible rfl
            rotate_left
            ·simp only [Act.put, q1_, q2_, q3_, i64_w, i32_w]
             rfl
            refine pure_ (i := 4) (N := some 24) (v := ?_) (a' := ?_) #[true, false, true, true, true, false, false, false, false, false] rfl rfl (any_of HT_.out (by kernel_rfl)) (fun _ _ _ h => h) (Or.inl ⟨by rfl, ?_⟩) ?_ ?_
            rotate_left
            ·intro w'
             go_simp
             with_reducible rfl
            rotate_left
            ·simp only [Act.put, q1_, q2_, q3_, i64_w, i32_w]
             rfl
            refine pure_ (i := 5) (N := some 25) (v := ?_) (a' := ?_) #[true, false, true, true, true, true, false, false, false, false] rfl rfl (any_of HT_.out (by kernel_rfl)) (fun _ _ _ h => h) (Or.inl ⟨by rfl, ?_⟩) ?_ ?_
            rotate_left
            ·intro w'
             go_simp
             with_reducible rfl
            rotate_left
            ·simp only [Act.put, q1_, q2_, q3_, i64_w, i32_w]
             rfl
            refine take_ (i := 1) (N := some 21) (v := ?_) (a' := ?_) #[true, true, true, true, true, true, false, false, false, false] rfl rfl (take_ofW HT_.out HW_.out (by kernel_rfl)) (fun _ _ _ h => h) (Or.inl ⟨by rfl, ?_⟩) hHeld ?_ ?_
            rotate_left
            ·rintro w' ⟨s0, s1, s2, s3, s4, s5, s6⟩
             go_simp
             with_reducible rfl
            rotate_left
            ·simp only [Act.put, q1_, q2_, q3_, i64_w, i32_w]
             rfl
            refine take_ (i := 6) (N := some 26) (v := ?_) (a' := ?_) #[true, true, true, true, true, true, true, false, false, false] rfl rfl (take_ofW HT_.out HW_.out (by kernel_rfl)) (fun _ _ _ h => h) (Or.inl ⟨by rfl, ?_⟩) hHeld ?_ ?_
            rotate_left
            ·rintro w' ⟨s0, s1, s2, s3, s4, s5, s6⟩
             go_simp
             with_reducible rfl
            rotate_left
            ·simp only [Act.put, q1_, q2_, q3_, i64_w, i32_w]
             rfl
            refine pure_ (i := 7) (N := some 27) (v := ?_) (a' := ?_) #[true, true, true, true, true, true, true, true, false, false] rfl rfl (any_of HT_.out (by kernel_rfl)) (fun _ _ _ h => h) (Or.inl ⟨by rfl, ?_⟩) ?_ ?_
            rotate_left
            ·intro w'
             go_simp
             with_reducible rfl
            rotate_left
            ·simp only [Act.put, q1_, q2_, q3_, i64_w, i32_w]
             rfl
            refine pure_ (i := 8) (N := some 28) (v := ?_) (a' := ?_) #[true, true, true, true, true, true, true, true, true, false] rfl rfl (any_of HT_.out (by kernel_rfl)) (fun _ _ _ h => h) (Or.inl ⟨by rfl, ?_⟩) ?_ ?_
            rotate_left
            ·intro w'
             go_simp
             with_reducible rfl
            rotate_left
            ·simp only [Act.put, q1_, q2_, q3_, i64_w, i32_w]
             rfl
            refine last_ (i := 9) (N := none) #[true, true, true, true, true, true, true, true, true, true] rfl rfl (one_of HT_.out (by kernel_rfl)) (by decide) (fun K hK => ?_)
            have hs89 : w88.cell? ⟨gb189, 0, none⟩ = some (.int .u64 x190000_1) := (blk_cell BK189.out 0).trans rfl
            have hfs89 := blk_frozen BK189.out 0
            have hns89_0 := NB187_189.out
            have hns89_1 := NB188_189.out
            have hms89_0 := NB189_187.out
            have hms89_1 := NB189_188.out
            refine skip_ (w1 := ?_) (by rfl) rfl ?_ ?_
            rotate_left
            ·go_simp
             rfl
            refine hK.out _ _ ?_
            clear hK K
            refine done_ (done_of HT_.out (by kernel_rfl)) ?_
            have hnb90 := NB187_188.out
            have hnc90 := NB188_187.out
            have hnb91 := NB187_189.out
            have hnc91 := NB189_187.out
            have hcz92_0 : w88.cell? ⟨gb187, 0, none⟩ = some (.int .i64 a0_0) := (blk_cell BK187.out 0).trans rfl
            have hcz92_1 : w88.cell? ⟨gb187, 1, none⟩ = some (.int .i64 a0_1) := (blk_cell BK187.out 1).trans rfl
            have hfz92_0 := blk_frozen BK187.out 0
            have hfz92_1 := blk_frozen BK187.out 1
            try go_wp2
            have n0_ : Aside0 (Kd.R Kd.string 9 (w88.setCell ⟨gb189, 0, none⟩ (.int .u64 (IntKind.u64.wrap (x190000_1 + ((rd_T44 l1 x7_1).f1))))) w.heap.size (fun _ => True) u190002 x190002_1) := ⟨by (with_reducible repeat (first | apply Kd.R_alloc | apply Kd.R_drewN | apply Kd.R_drew)); exact Kd.R_mono (Kd.R_far (p := ⟨gb189, 0, none⟩) (Kd.R_types HO_190002.out BK189.out (by decide)) (fun _ hk => hk.2) (.int .u64 (IntKind.u64.wrap (x190000_1 + ((rd_T44 l1 x7_1).f1))))) (fun _ hk => trivial)⟩
            have n1_ : Aside0 ((w88.setCell ⟨gb189, 0, none⟩ (.int .u64 (IntKind.u64.wrap (x190000_1 + ((rd_T44 l1 x7_1).f1))))).heap[gb187]? = some (.cells #[.int .i64 a0_0, .int .i64 a0_1] 23 (0, 0))) := ⟨by (with_reducible repeat (first | refine blk_drewN ?_ _ | refine blk_drew ?_ | refine blk_alloc ?_ _)); refine blk_far ?_ NB187_189.out _; (with_reducible repeat (first | refine blk_drewN ?_ _ | refine blk_drew ?_ | refine blk_alloc ?_ _)); exact BK187.out⟩
            have n2_ : Aside0 ((w88.setCell ⟨gb189, 0, none⟩ (.int .u64 (IntKind.u64.wrap (x190000_1 + ((rd_T44 l1 x7_1).f1))))).heap[gb188]? = some (.cells #[.int .u64 0, .int .i64 0, .slice none 0 0] 33 (0, 0))) := ⟨by (with_reducible repeat (first | refine blk_drewN ?_ _ | refine blk_drew ?_ | refine blk_alloc ?_ _)); refine blk_far ?_ NB188_189.out _; (with_reducible repeat (first | refine blk_drewN ?_ _ | refine blk_drew ?_ | refine blk_alloc ?_ _)); exact BK188.out⟩
            have n3_ : Aside0 ((w88.setCell ⟨gb189, 0, none⟩ (.int .u64 (IntKind.u64.wrap (x190000_1 + ((rd_T44 l1 x7_1).f1))))).heap[gb189]? = some (.cells #[.int .u64 (IntKind.u64.wrap (x190000_1 + ((rd_T44 l1 x7_1).f1))), .int .i64 x190001_1, u190002] 33 (0, 0))) := ⟨by (with_reducible repeat (first | refine blk_drewN ?_ _ | refine blk_drew ?_ | refine blk_alloc ?_ _)); refine blk_put (cs := #[.int .u64 x190000_1, .int .i64 x190001_1, u190002]) ?_ 0 _ rfl; (with_reducible repeat (first | refine blk_drewN ?_ _ | refine blk_drew ?_ | refine blk_alloc ?_ _)); exact BK189.out⟩
            have n4_ : Aside0 (Below w.heap.size w (w88.setCell ⟨gb189, 0, none⟩ (.int .u64 (IntKind.u64.wrap (x190000_1 + ((rd_T44 l1 x7_1).f1)))))) := ⟨by repeat (first | (with_reducible first | exact HB.out | apply below_alloc | apply pw_below_drewN | apply below_drew1 | refine below_set ?_ GE187.out | refine below_set ?_ GE188.out | refine below_set ?_ GE189.out) | exact HB.out)⟩
            (try clear HO_190002)
            (try clear BK187)
            (try clear BK188)
            (try clear BK189)
            (try clear HB)
            generalize (w88.setCell ⟨gb189, 0, none⟩ (.int .u64 (IntKind.u64.wrap (x190000_1 + ((rd_T44 l1 x7_1).f1))))) = w93 at n0_ n1_ n2_ n3_ n4_ ⊢
            have HO_190002 := n0_
            have BK187 := n1_
            have BK188 := n2_
            have BK189 := n3_
            have HB := n4_
            clear n0_ n1_ n2_ n3_ n4_
            have n0_ := Aside0.mk (Kd.R_drew HO_190002.out)
            have n1_ := Aside0.mk (blk_drew BK187.out)
            have n2_ := Aside0.mk (blk_drew BK188.out)
            have n3_ := Aside0.mk (blk_drew BK189.out)
            have n4_ := Aside0.mk (below_drew1 HB.out)
            clear HO_190002
            clear BK187
            clear BK188
            clear BK189
            clear HB
            have HO_190002 := n0_
            have BK187 := n1_
            have BK188 := n2_
            have BK189 := n3_
            have HB := n4_
            clear n0_ n1_ n2_ n3_ n4_
            have p207 : 0 ≤ (x7_1 : Int) := of_decide_eq_true (by assumption)
            have q207 : x7_1 < (l1.length : Int) := of_decide_eq_true (by assumption)
            obtain ⟨ad207, A207_1, c207_1, A207_2, c207_2, e207, hx207_0, hx207_1, hx207_2, hx207_3, hl207_1, hi207_1, hl207_2, hi207_2⟩ := at_T44 HR1.out x7_1 p207 q207
            have hw207_3 := hx207_3
            have hw207_2 := hx207_2
            have hw207_1 := hx207_1
            have hw207_0 := hx207_0
            obtain rfl : ad190 = ad207 := (by injection e207)
            replace hx207_0 := pw_cell_below HB.out hx207_0
            replace hx207_1 := pw_cell_below HB.out hx207_1
            replace hx207_2 := pw_cell_below HB.out hx207_2
            replace hx207_3 := pw_cell_below HB.out hx207_3
            have HR207_1 := Aside0.mk hi207_1
            have HC207_1 := Aside0.mk hl207_1
            clear hi207_1 hl207_1
            have HR207_2 := Aside0.mk hi207_2
            have HC207_2 := Aside0.mk hl207_2
            clear hi207_2 hl207_2
            replace p207 := eq_true p207
            replace q207 := eq_true q207
            have p208 : 0 ≤ (a0_1 : Int) := of_decide_eq_true (by assumption)
            have q208 : a0_1 < (((rd_T44 l1 x7_1).f0.f1).length : Int) := of_decide_eq_true (by assumption)
            obtain ⟨ad208, e208, hx208_0⟩ := Kd.at_string HR207_1.out a0_1 p208 q208
            have hw208_0 := hx208_0
            cases e208
            replace hx208_0 := pw_cell_below HB.out hx208_0
            replace p208 := eq_true p208
            replace q208 := eq_true q208
            obtain ⟨Ao95, co95, eo95⟩ := Kd.R_slice HO_190002.out
            (first | subst eo95 | (injection eo95 with f1_ f2_ f3_; have f4_ := f1_.symm; have f5_ := f3_.symm; clear f1_ f2_ f3_; subst f4_; subst f5_))
            refine start_ (n := 15) (S := fun w' => w'.cell? ⟨gb189, 0, none⟩ = some (.int .u64 (IntKind.u64.wrap (x190000_1 + ((rd_T44 l1 x7_1).f1)))) ∧ w'.cell? ⟨gb189, 1, none⟩ = some (.int .i64 x190001_1) ∧ w'.cell? ⟨gb189, 2, none⟩ = some (.slice Ao95 x190002_1.length co95) ∧ w'.cell? ⟨gb187, 0, none⟩ = some (.int .i64 a0_0) ∧ w'.cell? ⟨gb187, 1, none⟩ = some (.int .i64 a0_1) ∧ w'.cell? (ad190.add ((x7_1).toNat * 4)) = some (.int .i64 ((rd_T44 l1 x7_1).f0.f0)) ∧ w'.cell? ⟨(ad190.add ((x7_1).toNat * 4)).block, (ad190.add ((x7_1).toNat * 4)).off + 1, none⟩ = some (.slice (some ad208) ((rd_T44 l1 x7_1).f0.f1).length c207_1) ∧ w'.cell? ⟨(ad190.add ((x7_1).toNat * 4)).block, (ad190.add ((x7_1).toNat * 4)).off + 2, none⟩ = some (.slice A207_2 ((rd_T44 l1 x7_1).f0.f2).length c207_2) ∧ w'.cell? ⟨(ad190.add ((x7_1).toNat * 4)).block, (ad190.add ((x7_1).toNat * 4)).off + 3, none⟩ = some (.int .u64 ((rd_T44 l1 x7_1).f1)) ∧ w'.cell? (ad208.add (a0_1).toNat) = some (.string (rdOf ByteArray.empty ((rd_T44 l1 x7_1).f0.f1) a0_1))) (ds := [14]) #[false, false, false, false, false, false, false, false, false, false, false, false, false, false, false] (by kernel_rfl) rfl rfl ⟨(blk_cell BK189.out 0).trans rfl, (blk_cell BK189.out 1).trans rfl, (blk_cell BK189.out 2).trans rfl, (blk_cell BK187.out 0).trans rfl, (blk_cell BK187.out 1).trans rfl, (pw_cell_below HB.out hw207_0), (pw_cell_below HB.out hw207_1), (pw_cell_below HB.out hw207_2), (pw_cell_below HB.out hw207_3), (pw_cell_below HB.out hw208_0)⟩ (fun hHeld => ?_); refine with_tabW gristmillref06_Of.tab18 gristmillref06_Of.bits18 (fun HT_ HW_ => ?_)
            generalize w93.drew = w94 at HO_190002 BK187 BK188 BK189 HB HR207_1 HR207_2 hx207_0 hx207_1 hx207_2 hx207_3 hx208_0 hHeld ⊢
            refine pure_ (i := 0) (N := some 114) (v := ?_) (a' := ?_) #[true, false, false, false, false, false, false, false, false, false, false, false, false, false, false] rfl rfl (any_of HT_.out (by kernel_rfl)) (fun _ _ _ h => h) (Or.inl ⟨by rfl, ?_⟩) ?_ ?_
            rotate_left
            ·intro w'
             go_simp
             with_reducible rfl
            rotate_left
            ·simp only [Act.put, q1_, q2_, q3_, i64_w, i32_w]
             rfl
            refine pure_ (i := 2) (N := some 116) (v := ?_) (a' := ?_) #[true, false, true, false, false, false, false, false, false, false, false, false, false, false, false] rfl rfl (any_of HT_.out (by kernel_rfl)) (fun _ _ _ h => h) (Or.inl ⟨by rfl, ?_⟩) ?_ ?_
            rotate_left
            ·intro w'
             go_simp
             with_reducible rfl
            rotate_left
            ·simp only [Act.put, q1_, q2_, q3_, i64_w, i32_w]
             rfl
            refine pure_ (i := 3) (N := some 117) (v := ?_) (a' := ?_) #[true, false, true, true, false, false, false, false, false, false, false, false, false, false, false] rfl rfl (any_of HT_.out (by kernel_rfl)) (fun _ _ _ h => h) (Or.inl ⟨by rfl, ?_⟩) ?_ ?_
            rotate_left
            ·intro w'
             go_simp
             with_reducible rfl
            rotate_left
            ·simp only [Act.put, q1_, q2_, q3_, i64_w, i32_w]
             rfl
            refine pure_ (i := 4) (N := some 118) (v := ?_) (a' := ?_) #[true, false, true, true, true, false, false, false, false, false, false, false, false, false, false] rfl rfl (any_of HT_.out (by kernel_rfl)) (fun _ _ _ h => h) (Or.inl ⟨by rfl, ?_⟩) ?_ ?_
            rotate_left
            ·intro w'
             go_simp
             with_reducible rfl
            rotate_left
            ·simp only [Act.put, q1_, q2_, q3_, i64_w, i32_w]
             rfl
            refine pure_ (i := 5) (N := some 119) (v := ?_) (a' := ?_) #[true, false, true, true, true, true, false, false, false, false, false, false, false, false, false] rfl rfl (any_of HT_.out (by kernel_rfl)) (fun _ _ _ h => h) (Or.inl ⟨by rfl, ?_⟩) ?_ ?_
            rotate_left
            ·intro w'
             go_simp
             with_reducible rfl
            rotate_left
            ·simp only [Act.put, q1_, q2_, q3_, i64_w, i32_w]
             rfl
            refine pure_ (i := 6) (N := some 120) (v := ?_) (a' := ?_) #[true, false, true, true, true, true, true, false, false, false, false, false, false, false, false] rfl rfl (any_of HT_.out (by kernel_rfl)) (fun _ _ _ h => h) (Or.inl ⟨by rfl, ?_⟩) ?_ ?_
            rotate_left
            ·intro w'
             go_simp
             with_reducible rfl
            rotate_left
            ·simp only [Act.put, q1_, q2_, q3_, i64_w, i32_w]
             rfl
            refine pure_ (i := 8) (N := some 122) (v := ?_) (a' := ?_) #[true, false, true, true, true, true, true, false, true, false, false, false, false, false, false] rfl rfl (any_of HT_.out (by kernel_rfl)) (fun _ _ _ h => h) (Or.inl ⟨by rfl, ?_⟩) ?_ ?_
            rotate_left
            ·intro w'
             go_simp
             with_reducible rfl
            rotate_left
            ·simp only [Act.put, q1_, q2_, q3_, i64_w, i32_w]
             rfl
            refine take_ (i := 1) (N := some 115) (v := ?_) (a' := ?_) #[true, true, true, true, true, true, true, false, true, false, false, false, false, false, false] rfl rfl (take_ofW HT_.out HW_.out (by kernel_rfl)) (fun _ _ _ h => h) (Or.inl ⟨by rfl, ?_⟩) hHeld ?_ ?_
            rotate_left
            ·rintro w' ⟨s0, s1, s2, s3, s4, s5, s6, s7, s8, s9⟩
             go_simp
             with_reducible rfl
            rotate_left
            ·simp only [Act.put, q1_, q2_, q3_, i64_w, i32_w]
             rfl
            refine take_ (i := 7) (N := some 121) (v := ?_) (a' := ?_) #[true, true, true, true, true, true, true, true, true, false, false, false, false, false, false] rfl rfl (take_ofW HT_.out HW_.out (by kernel_rfl)) (fun _ _ _ h => h) (Or.inl ⟨by rfl, ?_⟩) hHeld ?_ ?_
            rotate_left
            ·rintro w' ⟨s0, s1, s2, s3, s4, s5, s6, s7, s8, s9⟩
             go_simp
             with_reducible rfl
            rotate_left
            ·simp only [Act.put, q1_, q2_, q3_, i64_w, i32_w]
             rfl
            refine take_ (i := 9) (N := some 123) (v := ?_) (a' := ?_) #[true, true, true, true, true, true, true, true, true, true, false, false, false, false, false] rfl rfl (take_ofW HT_.out HW_.out (by kernel_rfl)) (fun _ _ _ h => h) (Or.inl ⟨by rfl, ?_⟩) hHeld ?_ ?_
            rotate_left
            ·rintro w' ⟨s0, s1, s2, s3, s4, s5, s6, s7, s8, s9⟩
             go_simp
             with_reducible rfl
            rotate_left
            ·simp only [Act.put, q1_, q2_, q3_, i64_w, i32_w]
             rfl
            refine pure_ (i := 10) (N := some 124) (v := ?_) (a' := ?_) #[true, true, true, true, true, true, true, true, true, true, true, false, false, false, false] rfl rfl (any_of HT_.out (by kernel_rfl)) (fun _ _ _ h => h) (Or.inl ⟨by rfl, ?_⟩) ?_ ?_
            rotate_left
            ·intro w'
             go_simp
             with_reducible rfl
            rotate_left
            ·simp only [Act.put, q1_, q2_, q3_, i64_w, i32_w]
             rfl
            refine take_ (i := 11) (N := some 125) (v := ?_) (a' := ?_) #[true, true, true, true, true, true, true, true, true, true, true, true, false, false, false] rfl rfl (take_ofW HT_.out HW_.out (by kernel_rfl)) (fun _ _ _ h => h) (Or.inl ⟨by rfl, ?_⟩) hHeld ?_ ?_
            rotate_left
            ·rintro w' ⟨s0, s1, s2, s3, s4, s5, s6, s7, s8, s9⟩
             go_simp
             with_reducible rfl
            rotate_left
            ·simp only [Act.put, q1_, q2_, q3_, i64_w, i32_w]
             rfl
            refine one_ (i := 12) (N := some 126) #[true, true, true, true, true, true, true, true, true, true, true, true, true, false, false] rfl rfl (one_of HT_.out (by kernel_rfl)) (by decide) (fun K hK => ?_)
            refine goes_ Try.func26 (by kernel_rfl) rfl #[.slice Ao95 x190002_1.length co95, .string (rdOf ByteArray.empty ((rd_T44 l1 x7_1).f0.f1) a0_1)] (by rfl) rfl rfl (by (try simp only [List.map_toArray, List.map_cons, List.map_nil]); first | done | rfl | (simp only [List.length_drop, List.length_take]; rfl)) ?_
            with_reducible refine (gristmillref06_put.calls k1 _ _ x190002_1 (rdOf ByteArray.empty ((rd_T44 l1 x7_1).f0.f1) a0_1) t209 _ ?side1 ?side2 A87.out).mono ?_
            (case side1 => repeat (first | exact (Kd.R_reads' HO_190002.out).2.2 | (with_reducible refine Kd.C_alloc ?_ _) | (with_reducible refine Kd.C_drewN ?_ _) | (with_reducible refine Kd.C_drew ?_)))
            (case side2 => exact (Kd.R_reads' HO_190002.out).2.1)
            rintro e w96 ⟨v210, rfl, ho0, hb⟩
            refine ⟨_, rfl, ?_⟩
            have n0_ := Aside0.mk (Kd.R_elder' (by (with_reducible repeat (first | apply Kd.R_alloc | apply Kd.R_drewN | apply Kd.R_drew)); exact HO_190002.out) (Kd.R_base ho0) hb)
            have n1_ := Aside0.mk (Kd.R_lower (Kd.R_new' ho0 (Kd.R_lt (by (with_reducible repeat (first | apply Kd.R_alloc | apply Kd.R_drewN | apply Kd.R_drew)); exact HO_190002.out))) (below_size (bw_ HB.out)))
            have n2_ := Aside0.mk (blk_below (bk_ BK187.out) hb)
            have n3_ := Aside0.mk (blk_below (bk_ BK188.out) hb)
            have n4_ := Aside0.mk (blk_below (bk_ BK189.out) hb)
            have n5_ := Aside0.mk (below_step (bw_ HB.out) hb)
            clear HO_190002
            clear BK187
            clear BK188
            clear BK189
            clear HB
            have HO_190002 := n0_
            have HO211 := n1_
            have BK187 := n2_
            have BK188 := n3_
            have BK189 := n4_
            have HB := n5_
            clear n0_ n1_ n2_ n3_ n4_ n5_
            (try clear hb)
            (try clear hb2)
            (try clear hk)
            (try clear hi)
            (try clear ho0)
            obtain ⟨Ao97, co97, eo97⟩ := Kd.R_slice HO211.out
            (first | subst eo97 | (injection eo97 with f1_ f2_ f3_; have f4_ := f1_.symm; have f5_ := f3_.symm; clear f1_ f2_ f3_; subst f4_; subst f5_))
            refine hK.out _ _ ⟨(blk_cell BK189.out 0).trans rfl, (blk_cell BK189.out 1).trans rfl, (blk_cell BK189.out 2).trans rfl, (blk_cell BK187.out 0).trans rfl, (blk_cell BK187.out 1).trans rfl, (pw_cell_below HB.out hw207_0), (pw_cell_below HB.out hw207_1), (pw_cell_below HB.out hw207_2), (pw_cell_below HB.out hw207_3), (pw_cell_below HB.out hw208_0)⟩ (fun hHeld => ?_)
            clear hK K
            refine norm_ (a' := ?_) ?_ ?_
            rotate_left
            ·show Act.put _ (some 126) _ = _
             simp only [Act.put, q1_, q2_, q3_, i64_w, i32_w]
             rfl
            refine pure_ (i := 13) (N := some 127) (v := ?_) (a' := ?_) #[true, true, true, true, true, true, true, true, true, true, true, true, true, true, false] rfl rfl (any_of HT_.out (by kernel_rfl)) (fun _ _ _ h => h) (Or.inl ⟨by rfl, ?_⟩) ?_ ?_
            rotate_left
            ·intro w'
             go_simp
             with_reducible rfl
            rotate_left
            ·simp only [Act.put, q1_, q2_, q3_, i64_w, i32_w]
             rfl
            refine last_ (i := 14) (N := none) #[true, true, true, true, true, true, true, true, true, true, true, true, true, true, true] rfl rfl (one_of HT_.out (by kernel_rfl)) (by decide) (fun K hK => ?_)
            have hs98 : w96.cell? ⟨gb189, 2, none⟩ = some (.slice Ao95 x190002_1.length co95) := (blk_cell BK189.out 2).trans rfl
            have hfs98 := blk_frozen BK189.out 2
            have hns98_0 := NB187_189.out
            have hns98_1 := NB188_189.out
            have hms98_0 := NB189_187.out
            have hms98_1 := NB189_188.out
            refine skip_ (w1 := ?_) (by rfl) rfl ?_ ?_
            rotate_left
            ·go_simp
             rfl
            refine hK.out _ _ ?_
            clear hK K
            refine done_ (done_of HT_.out (by kernel_rfl)) ?_
            try go_wp2
            go_roundg k1
            case measure => have := HK1.out; omega
            case rel => exact ⟨(false), (wrap64 (x7_1 + 1)), (IntKind.u64.wrap (x190000_1 + ((rd_T44 l1 x7_1).f1))), (x190001_1), (t209), (.slice Ao97 t209.length co97), (by first | rfl | (simp; done) | (simp [*]; done)), (by first | rfl | (simp; done) | (simp [*]; done)), H', ⟨by have := HK1.out; omega⟩, ⟨by (with_reducible repeat (first | apply Kd.R_alloc | apply Kd.R_drewN | apply Kd.R_drew)); exact Kd.R_mono (Kd.R_far (p := ⟨gb189, 2, none⟩) (Kd.R_types HO211.out BK189.out (by decide)) (fun _ hk => hk.2) (.slice Ao97 t209.length co97)) (fun _ hk => trivial)⟩, ⟨by (with_reducible repeat (first | refine blk_drewN ?_ _ | refine blk_drew ?_ | refine blk_alloc ?_ _)); refine blk_far ?_ NB187_189.out _; (with_reducible repeat (first | refine blk_drewN ?_ _ | refine blk_drew ?_ | refine blk_alloc ?_ _)); exact BK187.out⟩, ⟨by (with_reducible repeat (first | refine blk_drewN ?_ _ | refine blk_drew ?_ | refine blk_alloc ?_ _)); refine blk_far ?_ NB188_189.out _; (with_reducible repeat (first | refine blk_drewN ?_ _ | refine blk_drew ?_ | refine blk_alloc ?_ _)); exact BK188.out⟩, ⟨by (with_reducible repeat (first | refine blk_drewN ?_ _ | refine blk_drew ?_ | refine blk_alloc ?_ _)); refine blk_put (cs := #[.int .u64 (IntKind.u64.wrap (x190000_1 + ((rd_T44 l1 x7_1).f1))), .int .i64 x190001_1, .slice Ao95 x190002_1.length co95]) ?_ 2 _ rfl; (with_reducible repeat (first | refine blk_drewN ?_ _ | refine blk_drew ?_ | refine blk_alloc ?_ _)); exact BK189.out⟩, ⟨by repeat (first | (with_reducible first | exact HB.out | apply below_alloc | apply pw_below_drewN | apply below_drew1 | refine below_set ?_ GE187.out | refine below_set ?_ GE188.out | refine below_set ?_ GE189.out) | exact HB.out)⟩⟩
           ·rw [if_neg c86] at H
            exact absurd H (by simp)
          ·rw [if_neg c85] at H
           exact absurd H (by simp)
         ·rw [if_neg c84] at H
          have c84b0 : (a0_0 == 5) = false := beq_eq_false_iff_ne.mpr c84
          have c84b1 : (a0_0 != 5) = true := bne_iff_ne.mpr c84
          have H' := Aside0.mk H
          clear H
          have p190 : 0 ≤ (x7_1 : Int) := of_decide_eq_true (by assumption)
          have q190 : x7_1 < (l1.length : Int) := of_decide_eq_true (by assumption)
          obtain ⟨ad190, A190_1, c190_1, A190_2, c190_2, e190, hx190_0, hx190_1, hx190_2, hx190_3, hl190_1, hi190_1, hl190_2, hi190_2⟩ := at_T44 HR1.out x7_1 p190 q190
          cases e190
          replace hx190_0 := pw_cell_below HB.out hx190_0
          replace hx190_1 := pw_cell_below HB.out hx190_1
          replace hx190_2 := pw_cell_below HB.out hx190_2
          replace hx190_3 := pw_cell_below HB.out hx190_3
          have HR190_1 := Aside0.mk hi190_1
          have HC190_1 := Aside0.mk hl190_1
          clear hi190_1 hl190_1
          have HR190_2 := Aside0.mk hi190_2
          have HC190_2 := Aside0.mk hl190_2
          clear hi190_2 hl190_2
          replace p190 := eq_true p190
          replace q190 := eq_true q190
          try go_wp2
          have n0_ := Aside0.mk (Kd.R_drew HO_190002.out)
          have n1_ := Aside0.mk (blk_drew BK187.out)
          have n2_ := Aside0.mk (blk_drew BK188.out)
          have n3_ := Aside0.mk (blk_drew BK189.out)
          have n4_ := Aside0.mk (below_drew1 HB.out)
          clear HO_190002
          clear BK187
          clear BK188
          clear BK189
          clear HB
          have HO_190002 := n0_
          have BK187 := n1_
          have BK188 := n2_
          have BK189 := n3_
          have HB := n4_
          clear n0_ n1_ n2_ n3_ n4_
          have p191 : 0 ≤ (x7_1 : Int) := of_decide_eq_true (by assumption)
          have q191 : x7_1 < (l1.length : Int) := of_decide_eq_true (by assumption)
          obtain ⟨ad191, A191_1, c191_1, A191_2, c191_2, e191, hx191_0, hx191_1, hx191_2, hx191_3, hl191_1, hi191_1, hl191_2, hi191_2⟩ := at_T44 HR1.out x7_1 p191 q191
          have hw191_3 := hx191_3
          have hw191_2 := hx191_2
          have hw191_1 := hx191_1
          have hw191_0 := hx191_0
          obtain rfl : ad190 = ad191 := (by injection e191)
          replace hx191_0 := pw_cell_below HB.out hx191_0
          replace hx191_1 := pw_cell_below HB.out hx191_1
          replace hx191_2 := pw_cell_below HB.out hx191_2
          replace hx191_3 := pw_cell_below HB.out hx191_3
          have HR191_1 := Aside0.mk hi191_1
          have HC191_1 := Aside0.mk hl191_1
          clear hi191_1 hl191_1
          have HR191_2 := Aside0.mk hi191_2
          have HC191_2 := Aside0.mk hl191_2
          clear hi191_2 hl191_2
          replace p191 := eq_true p191
          replace q191 := eq_true q191
          refine start_ (n := 10) (S := fun w' => w'.cell? ⟨gb189, 0, none⟩ = some (.int .u64 x190000_1) ∧ w'.cell? ⟨gb189, 1, none⟩ = some (.int .i64 x190001_1) ∧ w'.cell? ⟨gb189, 2, none⟩ = some (u190002) ∧ w'.cell? (ad190.add ((x7_1).toNat * 4)) = some (.int .i64 ((rd_T44 l1 x7_1).f0.f0)) ∧ w'.cell? ⟨(ad190.add ((x7_1).toNat * 4)).block, (ad190.add ((x7_1).toNat * 4)).off + 1, none⟩ = some (.slice A191_1 ((rd_T44 l1 x7_1).f0.f1).length c191_1) ∧ w'.cell? ⟨(ad190.add ((x7_1).toNat * 4)).block, (ad190.add ((x7_1).toNat * 4)).off + 2, none⟩ = some (.slice A191_2 ((rd_T44 l1 x7_1).f0.f2).length c191_2) ∧ w'.cell? ⟨(ad190.add ((x7_1).toNat * 4)).block, (ad190.add ((x7_1).toNat * 4)).off + 3, none⟩ = some (.int .u64 ((rd_T44 l1 x7_1).f1))) (ds := [9]) #[false, false, false, false, false, false, false, false, false, false] (by kernel_rfl) rfl rfl ⟨(blk_cell BK189.out 0).trans rfl, (blk_cell BK189.out 1).trans rfl, (blk_cell BK189.out 2).trans rfl, (pw_cell_below HB.out hw191_0), (pw_cell_below HB.out hw191_1), (pw_cell_below HB.out hw191_2), (pw_cell_below HB.out hw191_3)⟩ (fun hHeld => ?_); refine with_tabW gristmillref06_Of.tab7 gristmillref06_Of.bits7 (fun HT_ HW_ => ?_)
          generalize wr.drew = w99 at HO_190002 BK187 BK188 BK189 HB HR191_1 HR191_2 hx191_0 hx191_1 hx191_2 hx191_3 hHeld ⊢
          refine pure_ (i := 0) (N := some 20) (v := ?_) (a' := ?_) #[true, false, false, false, false, false, false, false, false, false] rfl rfl (any_of HT_.out (by kernel_rfl)) (fun _ _ _ h => h) (Or.inl ⟨by rfl, ?_⟩) ?_ ?_
          rotate_left
          ·intro w'
           go_simp
           with_reducible rfl
          rotate_left
          ·simp only [Act.put, q1_, q2_, q3_, i64_w, i32_w]
           rfl
          refine pure_ (i := 2) (N := some 22) (v := ?_) (a' := ?_) #[true, false, true, false, false, false, false, false, false, false] rfl rfl (any_of HT_.out (by kernel_rfl)) (fun _ _ _ h => h) (Or.inl ⟨by rfl, ?_⟩) ?_ ?_
          rotate_left
          ·intro w'
           go_simp
           with_reducible rfl
          rotate_left
          ·simp only [Act.put, q1_, q2_, q3_, i64_w, i32_w]
           rfl
          refine pure_ (i := 3) (N := some 23) (v := ?_) (a' := ?_) #[true, false, true, true, false, false, false, false, false, false] rfl rfl (any_of HT_.out (by kernel_rfl)) (fun _ _ _ h => h) (Or.inl ⟨by rfl, ?_⟩) ?_ ?_
          rotate_left
          ·intro w'
           go_simp
           with_reducible rfl
          rotate_left
          ·simp only [Act.put, q1_, q2_, q3_, i64_w, i32_w]
           rfl
          refine pure_ (i := 4) (N := some 24) (v := ?_) (a' := ?_) #[true, false, true, true, true, false, false, false, false, false] rfl rfl (any_of HT_.out (by kernel_rfl)) (fun _ _ _ h => h) (Or.inl ⟨by rfl, ?_⟩) ?_ ?_
          rotate_left
          ·intro w'
           go_simp
           with_reducible rfl
          rotate_left
          ·simp only [Act.put, q1_, q2_, q3_, i64_w, i32_w]
           rfl
          refine pure_ (i := 5) (N := some 25) (v := ?_) (a' := ?_) #[true, false, true, true, true, true, false, false, false, false] rfl rfl (any_of HT_.out (by kernel_rfl)) (fun _ _ _ h => h) (Or.inl ⟨by rfl, ?_⟩) ?_ ?_
          rotate_left
          ·intro w'
           go_simp
           with_reducible rfl
          rotate_left
          ·simp only [Act.put, q1_, q2_, q3_, i64_w, i32_w]
           rfl
          refine take_ (i := 1) (N := some 21) (v := ?_) (a' := ?_) #[true, true, true, true, true, true, false, false, false, false] rfl rfl (take_ofW HT_.out HW_.out (by kernel_rfl)) (fun _ _ _ h => h) (Or.inl ⟨by rfl, ?_⟩) hHeld ?_ ?_
          rotate_left
          ·rintro w' ⟨s0, s1, s2, s3, s4, s5, s6⟩
           go_simp
           with_reducible rfl
          rotate_left
          ·simp only [Act.put, q1_, q2_, q3_, i64_w, i32_w]
           rfl
          refine take_ (i := 6) (N := some 26) (v := ?_) (a' := ?_) #[true, true, true, true, true, true, true, false, false, false] rfl rfl (take_ofW HT_.out HW_.out (by kernel_rfl)) (fun _ _ _ h => h) (Or.inl ⟨by rfl, ?_⟩) hHeld ?_ ?_
          rotate_left
          ·rintro w' ⟨s0, s1, s2, s3, s4, s5, s6⟩
           go_simp
           with_reducible rfl
          rotate_left
          ·simp only [Act.put, q1_, q2_, q3_, i64_w, i32_w]
           rfl
          refine pure_ (i := 7) (N := some 27) (v := ?_) (a' := ?_) #[true, true, true, true, true, true, true, true, false, false] rfl rfl (any_of HT_.out (by kernel_rfl)) (fun _ _ _ h => h) (Or.inl ⟨by rfl, ?_⟩) ?_ ?_
          rotate_left
          ·intro w'
           go_simp
           with_reducible rfl
          rotate_left
          ·simp only [Act.put, q1_, q2_, q3_, i64_w, i32_w]
           rfl
          refine pure_ (i := 8) (N := some 28) (v := ?_) (a' := ?_) #[true, true, true, true, true, true, true, true, true, false] rfl rfl (any_of HT_.out (by kernel_rfl)) (fun _ _ _ h => h) (Or.inl ⟨by rfl, ?_⟩) ?_ ?_
          rotate_left
          ·intro w'
           go_simp
           with_reducible rfl
          rotate_left
          ·simp only [Act.put, q1_, q2_, q3_, i64_w, i32_w]
           rfl
          refine last_ (i := 9) (N := none) #[true, true, true, true, true, true, true, true, true, true] rfl rfl (one_of HT_.out (by kernel_rfl)) (by decide) (fun K hK => ?_)
          have hs100 : w99.cell? ⟨gb189, 0, none⟩ = some (.int .u64 x190000_1) := (blk_cell BK189.out 0).trans rfl
          have hfs100 := blk_frozen BK189.out 0
          have hns100_0 := NB187_189.out
          have hns100_1 := NB188_189.out
          have hms100_0 := NB189_187.out
          have hms100_1 := NB189_188.out
          refine skip_ (w1 := ?_) (by rfl) rfl ?_ ?_
          rotate_left
          ·go_simp
           rfl
          refine hK.out _ _ ?_
          clear hK K
          refine done_ (done_of HT_.out (by kernel_rfl)) ?_
          have hnb101 := NB187_188.out
          have hnc101 := NB188_187.out
          have hnb102 := NB187_189.out
          have hnc102 := NB189_187.out
          have hcz103_0 : w99.cell? ⟨gb187, 0, none⟩ = some (.int .i64 a0_0) := (blk_cell BK187.out 0).trans rfl
          have hcz103_1 : w99.cell? ⟨gb187, 1, none⟩ = some (.int .i64 a0_1) := (blk_cell BK187.out 1).trans rfl
          have hfz103_0 := blk_frozen BK187.out 0
          have hfz103_1 := blk_frozen BK187.out 1
          try go_wp2
          go_roundg k1
          case measure => have := HK1.out; omega
          case rel => exact ⟨(false), (wrap64 (x7_1 + 1)), (IntKind.u64.wrap (x190000_1 + ((rd_T44 l1 x7_1).f1))), (x190001_1), (x190002_1), (u190002), (by first | rfl | (simp; done) | (simp [*]; done)), (by first | rfl | (simp; done) | (simp [*]; done)), H', ⟨by have := HK1.out; omega⟩, ⟨by (with_reducible repeat (first | apply Kd.R_alloc | apply Kd.R_drewN | apply Kd.R_drew)); exact Kd.R_mono (Kd.R_far (p := ⟨gb189, 0, none⟩) (Kd.R_types HO_190002.out BK189.out (by decide)) (fun _ hk => hk.2) (.int .u64 (IntKind.u64.wrap (x190000_1 + ((rd_T44 l1 x7_1).f1))))) (fun _ hk => trivial)⟩, ⟨by (with_reducible repeat (first | refine blk_drewN ?_ _ | refine blk_drew ?_ | refine blk_alloc ?_ _)); refine blk_far ?_ NB187_189.out _; (with_reducible repeat (first | refine blk_drewN ?_ _ | refine blk_drew ?_ | refine blk_alloc ?_ _)); exact BK187.out⟩, ⟨by (with_reducible repeat (first | refine blk_drewN ?_ _ | refine blk_drew ?_ | refine blk_alloc ?_ _)); refine blk_far ?_ NB188_189.out _; (with_reducible repeat (first | refine blk_drewN ?_ _ | refine blk_drew ?_ | refine blk_alloc ?_ _)); exact BK188.out⟩, ⟨by (with_reducible repeat (first | refine blk_drewN ?_ _ | refine blk_drew ?_ | refine blk_alloc ?_ _)); refine blk_put (cs := #[.int .u64 x190000_1, .int .i64 x190001_1, u190002]) ?_ 0 _ rfl; (with_reducible repeat (first | refine blk_drewN ?_ _ | refine blk_drew ?_ | refine blk_alloc ?_ _)); exact BK189.out⟩, ⟨by repeat (first | (with_reducible first | exact HB.out | apply below_alloc | apply pw_below_drewN | apply below_drew1 | refine below_set ?_ GE187.out | refine below_set ?_ GE188.out | refine below_set ?_ GE189.out) | exact HB.out)⟩⟩
    ·rw [if_neg c7] at H
     exact absurd H (by simp)
   ·rw [if_neg c6] at H
    have c6b0 : decide (x7_1 < (l1.length : Int)) = false := decide_eq_false c6
    clear c6
    simp only [Option.some.injEq, Prod.mk.injEq] at H
    obtain ⟨rfl, rfl, rfl⟩ := H
    have hnb104 := NB189_187.out
    have hnc104 := NB187_189.out
    have hnb105 := NB189_188.out
    have hnc105 := NB188_189.out
    have hcz106_0 : wr.cell? ⟨gb189, 0, none⟩ = some (.int .u64 x190000_1) := (blk_cell BK189.out 0).trans rfl
    have hcz106_1 : wr.cell? ⟨gb189, 1, none⟩ = some (.int .i64 x190001_1) := (blk_cell BK189.out 1).trans rfl
    have hcz106_2 : wr.cell? ⟨gb189, 2, none⟩ = some (u190002) := (blk_cell BK189.out 2).trans rfl
    have hfz106_0 := blk_frozen BK189.out 0
    have hfz106_1 := blk_frozen BK189.out 1
    have hfz106_2 := blk_frozen BK189.out 2
    have hnb107 := NB188_187.out
    have hnc107 := NB187_188.out
    have hcz108_0 : wr.cell? ⟨gb188, 0, none⟩ = some (.int .u64 0) := (blk_cell BK188.out 0).trans rfl
    have hcz108_1 : wr.cell? ⟨gb188, 1, none⟩ = some (.int .i64 0) := (blk_cell BK188.out 1).trans rfl
    have hcz108_2 : wr.cell? ⟨gb188, 2, none⟩ = some (.slice none 0 0) := (blk_cell BK188.out 2).trans rfl
    have hfz108_0 := blk_frozen BK188.out 0
    have hfz108_1 := blk_frozen BK188.out 1
    have hfz108_2 := blk_frozen BK188.out 2
    obtain ⟨Ao109, co109, eo109⟩ := Kd.R_slice HO_190002.out
    subst eo109
    go_wp2
    refine bodyPost_ret (results_cell_row rfl _ _ gb188 33 #[.int .u64 x190000_1, .int .i64 x190001_1, .slice Ao109 x190002_1.length co109] (0, 0) _ rfl (by (with_reducible repeat (first | refine blk_drewN ?_ _ | refine blk_drew ?_ | refine blk_alloc ?_ _)); refine blk_put (cs := #[.int .u64 x190000_1, .int .i64 x190001_1, .slice none 0 0]) ?_ 2 _ rfl; (with_reducible repeat (first | refine blk_drewN ?_ _ | refine blk_drew ?_ | refine blk_alloc ?_ _)); refine blk_put (cs := #[.int .u64 x190000_1, .int .i64 0, .slice none 0 0]) ?_ 1 _ rfl; (with_reducible repeat (first | refine blk_drewN ?_ _ | refine blk_drew ?_ | refine blk_alloc ?_ _)); refine blk_put (cs := #[.int .u64 0, .int .i64 0, .slice none 0 0]) ?_ 0 _ rfl; (with_reducible repeat (first | refine blk_drewN ?_ _ | refine blk_drew ?_ | refine blk_alloc ?_ _)); exact BK188.out) Try.underlying33 rfl (by kernel_rfl)) rfl ?_
    exact ⟨_, by first | rfl | (simp [errW_none, errW_some] <;> rfl) | (simp [*, errW_none, errW_some] <;> rfl), by (with_reducible repeat (first | apply Kd.R_alloc | apply Kd.R_drewN | apply Kd.R_drew)); exact Kd.R_mono (Kd.R_far (p := ⟨gb188, 2, none⟩) (Kd.R_far (p := ⟨gb188, 1, none⟩) (Kd.R_far (p := ⟨gb188, 0, none⟩) (Kd.R_types HO_190002.out BK188.out (by decide)) (fun _ hk => hk.2) (.int .u64 x190000_1)) (fun _ hk => hk.2) (.int .i64 x190001_1)) (fun _ hk => hk.2) (.slice Ao109 x190002_1.length co109)) (fun _ hk => trivial), by repeat (first | (with_reducible first | exact HB.out | apply below_alloc | apply pw_below_drewN | apply below_drew1 | refine below_set ?_ GE187.out | refine below_set ?_ GE188.out | refine below_set ?_ GE189.out) | exact HB.out)⟩
end Go.Proofs.Ytmjhgeinhhhodaa.P
end
