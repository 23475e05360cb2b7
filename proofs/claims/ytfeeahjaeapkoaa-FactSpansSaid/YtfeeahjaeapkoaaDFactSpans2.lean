/- Texts of this repo, joined, without what this claim does not use: P22, P23. -/
import Derived.Test.YtfeeahjaeapkoaaDFactSpans1
section
namespace Go.Proofs.Ytfeeahjaeapkoaa.P
open Go.RowKit Go.Proofs.YtfeeahjaeapkoaaW.PrintWords Go.Proofs.YtfeeahjaeapkoaaW.PrintLast Go.Proofs.YtfeeahjaeapkoaaW.PrintMore
attribute [local go_sem] max2_int min2_int max_two min_two max_three min_three max_four min_four   -- for this text's walks alone
set_option linter.unusedVariables false
set_option linter.unusedSimpArgs false
open Go.Proofs.Ytfeeahjaeapkoaa.Ext (q1_ q2_ q3_ bk_ bw_ sz_ ne_ bx_)
attribute [local go_sem high] Go.Proofs.Ytfeeahjaeapkoaa.Ext.gtr_str Go.Proofs.Ytfeeahjaeapkoaa.Ext.leq_str Go.Proofs.Ytfeeahjaeapkoaa.Ext.geq_str
def gristmillref04_Is.l0 : Nat → List (S40) → List (S40) → Int → Option (Bool)
 | 0, _, _, _ => none
 | k + 1, x0, x1, x5 => if x5 < (x0.length : Int) then (if 0 ≤ x5 then (if x5 < (x1.length : Int) then (if ((rd_T40 x0 x5).f1) = ((rd_T40 x1 x5).f1) then ((gristmillref04_Compare.f k ((rd_T40 x0 x5).f0.f0) ((rd_T40 x0 x5).f0.f1) ((rd_T40 x0 x5).f0.f2) ((rd_T40 x1 x5).f0.f0) ((rd_T40 x1 x5).f0.f1) ((rd_T40 x1 x5).f0.f2)).bind fun t181 => (if t181 = 0 then (gristmillref04_Is.l0 k x0 x1 (wrap64 (x5 + 1))) else (some false))) else (some false)) else (none)) else (none)) else (some true)
def gristmillref04_Is.f (k : Nat) (l0 : List (S40)) (l1 : List (S40)) : Option (Bool) := if (l0.length : Int) = (l1.length : Int) then (gristmillref04_Is.l0 k l0 l1 0) else (some false)
def gristmillref04_Is.T6 : Bool × List (List Nat × List Nat) := (true, [([], []), ([], []), ([0, 1], [0, 1]), ([2], [2]), ([3], [3]), ([], []), ([], []), ([5, 6], [5, 6]), ([7], [7]), ([8], [8]), ([4, 9], [4, 9]), ([10], [10]), ([11], [11]), ([11], [11]), ([12, 13, 11], [11, 12, 13]), ([14, 11], [11, 14]), ([15, 11], [11, 15]), ([11], [11]), ([11], [11]), ([17, 18, 11], [11, 17, 18]), ([19, 11], [11, 19]), ([20, 11], [11, 20]), ([16, 21, 11, 11], [11, 16, 21]), ([22, 11], [11, 22]), ([11, 23], [11, 23])])
def gristmillref04_Is.B6 : List Nat := [0, 0, 3, 7, 15, 0, 0, 96, 224, 480, 1023, 2047, 4095, 4095, 16383, 32767, 65535, 4095, 4095, 397311, 921599, 1970175, 4194303, 8388607, 16777215]
theorem gristmillref04_Is.tab6 : rtab .any (opsOf Try.f18 6) = gristmillref04_Is.T6 := by kernel_rfl
theorem gristmillref04_Is.bits6 : waitsOk gristmillref04_Is.T6.2 gristmillref04_Is.B6 = true := by kernel_rfl
set_option maxHeartbeats 8000000 in
set_option maxRecDepth 100000 in
theorem gristmillref04_Is.calls (k : Nat) (A0 : Option Addr) (c0 : Nat) (l0 : List (S40)) (A1 : Option Addr) (c1 : Nat) (l1 : List (S40)) (r : Bool) (w : World) (hr0 : Kd.C k40 w A0 l0.length l0) (hc0 : l0.length ≤ c0) (hr1 : Kd.C k40 w A1 l1.length l1) (hc1 : l1.length ≤ c1) (h : gristmillref04_Is.f k l0 l1 = some r) :
  Calls Try.prog 18 #[.slice A0 l0.length c0, .slice A1 l1.length c1] w fun e w' => e = .returned (.bool r) ∧ Below w.heap.size w w' := by
 have hu27 := Try.underlying27
 have HR0 := Aside0.mk hr0
 have HC0 := Aside0.mk hc0
 clear hr0 hc0
 have HR1 := Aside0.mk hr1
 have HC1 := Aside0.mk hc1
 clear hr1 hc1
 have HB := Aside0.mk (Below.refl w.heap.size w)
 have H : (if (l0.length : Int) = (l1.length : Int) then (gristmillref04_Is.l0 k l0 l1 0) else (some false)) = some r := h
 clear h
 by_cases c3 : (l0.length : Int) = (l1.length : Int)
 ·rw [if_pos c3] at H
  have c3b0 : ((l0.length : Int) == (l1.length : Int)) = true := beq_iff_eq.mpr c3
  have c3b1 : ((l0.length : Int) != (l1.length : Int)) = false := bne_eq_false_iff_eq.mpr c3
  have c3b2 : (l0.length == l1.length) = true := by first | simpa using c3 | (simp at c3 ⊢; omega)
  clear c3
  have H' := Aside0.mk H
  clear H
  go_enter Try.func18, Try.ntmps18
  go_wp2
  go_loopg [5] k (fun kq v5 w' => ∃ (x5_1 : Int), v5 = .int .i64 x5_1 ∧ Aside0 (gristmillref04_Is.l0 kq l0 l1 x5_1 = some r) ∧ Aside0 (kq ≤ k) ∧ Aside0 (Below w.heap.size w w'))
  case atStart => exact ⟨(0), (by first | rfl | (simp; done) | (simp [*]; done)), H', ⟨Nat.le_refl _⟩, ⟨by repeat (first | (with_reducible first | exact HB.out | apply below_alloc | apply pw_below_drewN | apply below_drew1) | exact HB.out)⟩⟩
  case round =>
   clear H'
   try clear c1
   try clear p2
   try clear c3
   try clear c3b0
   try clear c3b1
   try clear c3b2
   obtain ⟨x5_1, rfl, HA, HK1, HB⟩ := hrel
   cases gk with
   | zero => exact absurd HA.out (by simp [gristmillref04_Is.l0])
   | succ k1 =>
    have H := HA.out
    clear HA
    simp only [gristmillref04_Is.l0] at H
    by_cases c4 : x5_1 < (l0.length : Int)
    ·rw [if_pos c4] at H
     have c4b0 : decide (x5_1 < (l0.length : Int)) = true := decide_eq_true c4
     clear c4
     by_cases c5 : 0 ≤ x5_1
     ·rw [if_pos c5] at H
      have c5b0 : decide (0 ≤ x5_1) = true := decide_eq_true c5
      clear c5
      by_cases c6 : x5_1 < (l1.length : Int)
      ·rw [if_pos c6] at H
       have c6b0 : decide (x5_1 < (l1.length : Int)) = true := decide_eq_true c6
       clear c6
       by_cases c7 : ((rd_T40 l0 x5_1).f1) = ((rd_T40 l1 x5_1).f1)
       ·rw [if_pos c7] at H
        have c7b0 : (((rd_T40 l0 x5_1).f1) == ((rd_T40 l1 x5_1).f1)) = true := beq_iff_eq.mpr c7
        have c7b1 : (((rd_T40 l0 x5_1).f1) != ((rd_T40 l1 x5_1).f1)) = false := bne_eq_false_iff_eq.mpr c7
        clear c7
        replace H := Option.bind_eq_some_iff.mp H
        obtain ⟨t181, A80, H⟩ := H
        replace H : (if t181 = 0 then (gristmillref04_Is.l0 k1 l0 l1 (wrap64 (x5_1 + 1))) else (some false)) = some r := H
        have A8 := Aside0.mk A80
        clear A80
        by_cases c9 : t181 = 0
        ·rw [if_pos c9] at H
         have c9b0 : (t181 == 0) = true := beq_iff_eq.mpr c9
         have c9b1 : (t181 != 0) = false := bne_eq_false_iff_eq.mpr c9
         clear c9
         have H' := Aside0.mk H
         clear H
         try go_wp2
         have n0_ := Aside0.mk (below_drew1 HB.out)
         clear HB
         have HB := n0_
         clear n0_
         have p177 : 0 ≤ (x5_1 : Int) := of_decide_eq_true (by assumption)
         have q177 : x5_1 < (l0.length : Int) := of_decide_eq_true (by assumption)
         obtain ⟨ad177, A177_1, c177_1, A177_2, c177_2, e177, hx177_0, hx177_1, hx177_2, hx177_3, hl177_1, hi177_1, hl177_2, hi177_2⟩ := at_T40 HR0.out x5_1 p177 q177
         have hw177_3 := hx177_3
         have hw177_2 := hx177_2
         have hw177_1 := hx177_1
         have hw177_0 := hx177_0
         cases e177
         replace hx177_0 := pw_cell_below HB.out hx177_0
         replace hx177_1 := pw_cell_below HB.out hx177_1
         replace hx177_2 := pw_cell_below HB.out hx177_2
         replace hx177_3 := pw_cell_below HB.out hx177_3
         have HR177_1 := Aside0.mk hi177_1
         have HC177_1 := Aside0.mk hl177_1
         clear hi177_1 hl177_1
         have HR177_2 := Aside0.mk hi177_2
         have HC177_2 := Aside0.mk hl177_2
         clear hi177_2 hl177_2
         replace p177 := eq_true p177
         replace q177 := eq_true q177
         have p178 : 0 ≤ (x5_1 : Int) := of_decide_eq_true (by assumption)
         have q178 : x5_1 < (l1.length : Int) := of_decide_eq_true (by assumption)
         obtain ⟨ad178, A178_1, c178_1, A178_2, c178_2, e178, hx178_0, hx178_1, hx178_2, hx178_3, hl178_1, hi178_1, hl178_2, hi178_2⟩ := at_T40 HR1.out x5_1 p178 q178
         have hw178_3 := hx178_3
         have hw178_2 := hx178_2
         have hw178_1 := hx178_1
         have hw178_0 := hx178_0
         cases e178
         replace hx178_0 := pw_cell_below HB.out hx178_0
         replace hx178_1 := pw_cell_below HB.out hx178_1
         replace hx178_2 := pw_cell_below HB.out hx178_2
         replace hx178_3 := pw_cell_below HB.out hx178_3
         have HR178_1 := Aside0.mk hi178_1
         have HC178_1 := Aside0.mk hl178_1
         clear hi178_1 hl178_1
         have HR178_2 := Aside0.mk hi178_2
         have HC178_2 := Aside0.mk hl178_2
         clear hi178_2 hl178_2
         replace p178 := eq_true p178
         replace q178 := eq_true q178
         have p179 : 0 ≤ (x5_1 : Int) := of_decide_eq_true (by assumption)
         have q179 : x5_1 < (l0.length : Int) := of_decide_eq_true (by assumption)
         obtain ⟨ad179, A179_1, c179_1, A179_2, c179_2, e179, hx179_0, hx179_1, hx179_2, hx179_3, hl179_1, hi179_1, hl179_2, hi179_2⟩ := at_T40 HR0.out x5_1 p179 q179
         have hw179_3 := hx179_3
         have hw179_2 := hx179_2
         have hw179_1 := hx179_1
         have hw179_0 := hx179_0
         obtain rfl : ad177 = ad179 := (by injection e179)
         replace hx179_0 := pw_cell_below HB.out hx179_0
         replace hx179_1 := pw_cell_below HB.out hx179_1
         replace hx179_2 := pw_cell_below HB.out hx179_2
         replace hx179_3 := pw_cell_below HB.out hx179_3
         have HR179_1 := Aside0.mk hi179_1
         have HC179_1 := Aside0.mk hl179_1
         clear hi179_1 hl179_1
         have HR179_2 := Aside0.mk hi179_2
         have HC179_2 := Aside0.mk hl179_2
         clear hi179_2 hl179_2
         replace p179 := eq_true p179
         replace q179 := eq_true q179
         have ea_ := Option.some.inj (hx177_1.symm.trans hx179_1)
         injection ea_ with ea_ en_ ec_
         subst ea_
         subst ec_
         clear en_
         have ea_ := Option.some.inj (hx177_2.symm.trans hx179_2)
         injection ea_ with ea_ en_ ec_
         subst ea_
         subst ec_
         clear en_
         have p180 : 0 ≤ (x5_1 : Int) := of_decide_eq_true (by assumption)
         have q180 : x5_1 < (l1.length : Int) := of_decide_eq_true (by assumption)
         obtain ⟨ad180, A180_1, c180_1, A180_2, c180_2, e180, hx180_0, hx180_1, hx180_2, hx180_3, hl180_1, hi180_1, hl180_2, hi180_2⟩ := at_T40 HR1.out x5_1 p180 q180
         have hw180_3 := hx180_3
         have hw180_2 := hx180_2
         have hw180_1 := hx180_1
         have hw180_0 := hx180_0
         obtain rfl : ad178 = ad180 := (by injection e180)
         replace hx180_0 := pw_cell_below HB.out hx180_0
         replace hx180_1 := pw_cell_below HB.out hx180_1
         replace hx180_2 := pw_cell_below HB.out hx180_2
         replace hx180_3 := pw_cell_below HB.out hx180_3
         have HR180_1 := Aside0.mk hi180_1
         have HC180_1 := Aside0.mk hl180_1
         clear hi180_1 hl180_1
         have HR180_2 := Aside0.mk hi180_2
         have HC180_2 := Aside0.mk hl180_2
         clear hi180_2 hl180_2
         replace p180 := eq_true p180
         replace q180 := eq_true q180
         have ea_ := Option.some.inj (hx178_1.symm.trans hx180_1)
         injection ea_ with ea_ en_ ec_
         subst ea_
         subst ec_
         clear en_
         have ea_ := Option.some.inj (hx178_2.symm.trans hx180_2)
         injection ea_ with ea_ en_ ec_
         subst ea_
         subst ec_
         clear en_
         refine start_ (n := 25) (S := fun w' => w'.cell? (ad177.add ((x5_1).toNat * 4)) = some (.int .i64 ((rd_T40 l0 x5_1).f0.f0)) ∧ w'.cell? ⟨(ad177.add ((x5_1).toNat * 4)).block, (ad177.add ((x5_1).toNat * 4)).off + 1, none⟩ = some (.slice A177_1 ((rd_T40 l0 x5_1).f0.f1).length c177_1) ∧ w'.cell? ⟨(ad177.add ((x5_1).toNat * 4)).block, (ad177.add ((x5_1).toNat * 4)).off + 2, none⟩ = some (.slice A177_2 ((rd_T40 l0 x5_1).f0.f2).length c177_2) ∧ w'.cell? ⟨(ad177.add ((x5_1).toNat * 4)).block, (ad177.add ((x5_1).toNat * 4)).off + 3, none⟩ = some (.int .u64 ((rd_T40 l0 x5_1).f1)) ∧ w'.cell? (ad178.add ((x5_1).toNat * 4)) = some (.int .i64 ((rd_T40 l1 x5_1).f0.f0)) ∧ w'.cell? ⟨(ad178.add ((x5_1).toNat * 4)).block, (ad178.add ((x5_1).toNat * 4)).off + 1, none⟩ = some (.slice A178_1 ((rd_T40 l1 x5_1).f0.f1).length c178_1) ∧ w'.cell? ⟨(ad178.add ((x5_1).toNat * 4)).block, (ad178.add ((x5_1).toNat * 4)).off + 2, none⟩ = some (.slice A178_2 ((rd_T40 l1 x5_1).f0.f2).length c178_2) ∧ w'.cell? ⟨(ad178.add ((x5_1).toNat * 4)).block, (ad178.add ((x5_1).toNat * 4)).off + 3, none⟩ = some (.int .u64 ((rd_T40 l1 x5_1).f1)) ∧ w'.cell? (ad177.add ((x5_1).toNat * 4)) = some (.int .i64 ((rd_T40 l0 x5_1).f0.f0)) ∧ w'.cell? ⟨(ad177.add ((x5_1).toNat * 4)).block, (ad177.add ((x5_1).toNat * 4)).off + 1, none⟩ = some (.slice A177_1 ((rd_T40 l0 x5_1).f0.f1).length c177_1) ∧ w'.cell? ⟨(ad177.add ((x5_1).toNat * 4)).block, (ad177.add ((x5_1).toNat * 4)).off + 2, none⟩ = some (.slice A177_2 ((rd_T40 l0 x5_1).f0.f2).length c177_2) ∧ w'.cell? ⟨(ad177.add ((x5_1).toNat * 4)).block, (ad177.add ((x5_1).toNat * 4)).off + 3, none⟩ = some (.int .u64 ((rd_T40 l0 x5_1).f1)) ∧ w'.cell? (ad178.add ((x5_1).toNat * 4)) = some (.int .i64 ((rd_T40 l1 x5_1).f0.f0)) ∧ w'.cell? ⟨(ad178.add ((x5_1).toNat * 4)).block, (ad178.add ((x5_1).toNat * 4)).off + 1, none⟩ = some (.slice A178_1 ((rd_T40 l1 x5_1).f0.f1).length c178_1) ∧ w'.cell? ⟨(ad178.add ((x5_1).toNat * 4)).block, (ad178.add ((x5_1).toNat * 4)).off + 2, none⟩ = some (.slice A178_2 ((rd_T40 l1 x5_1).f0.f2).length c178_2) ∧ w'.cell? ⟨(ad178.add ((x5_1).toNat * 4)).block, (ad178.add ((x5_1).toNat * 4)).off + 3, none⟩ = some (.int .u64 ((rd_T40 l1 x5_1).f1))) (ds := []) #[false, false, false, false, false, false, false, false, false, false, false, false, false, false, false, false, false, false, false, false, false, false, false, false, false] (by kernel_rfl) rfl rfl ⟨(pw_cell_below HB.out hw177_0), (pw_cell_below HB.out hw177_1), (pw_cell_below HB.out hw177_2), (pw_cell_below HB.out hw177_3), (pw_cell_below HB.out hw178_0), (pw_cell_below HB.out hw178_1), (pw_cell_below HB.out hw178_2), (pw_cell_below HB.out hw178_3), (pw_cell_below HB.out hw179_0), (pw_cell_below HB.out hw179_1), (pw_cell_below HB.out hw179_2), (pw_cell_below HB.out hw179_3), (pw_cell_below HB.out hw180_0), (pw_cell_below HB.out hw180_1), (pw_cell_below HB.out hw180_2), (pw_cell_below HB.out hw180_3)⟩ (fun hHeld => ?_); refine with_tabW gristmillref04_Is.tab6 gristmillref04_Is.bits6 (fun HT_ HW_ => ?_)
         generalize wr.drew = w10 at HB HR177_1 HR177_2 HR178_1 HR178_2 HR179_1 HR179_2 HR180_1 HR180_2 hx177_0 hx177_1 hx177_2 hx177_3 hx178_0 hx178_1 hx178_2 hx178_3 hx179_0 hx179_1 hx179_2 hx179_3 hx180_0 hx180_1 hx180_2 hx180_3 hHeld ⊢
         refine pure_ (i := 0) (N := some 17) (v := ?_) (a' := ?_) #[true, false, false, false, false, false, false, false, false, false, false, false, false, false, false, false, false, false, false, false, false, false, false, false, false] rfl rfl (any_of HT_.out (by kernel_rfl)) (fun _ _ _ h => h) (Or.inl ⟨by rfl, ?_⟩) ?_ ?_
         rotate_left
         ·intro w'
          go_simp
          with_reducible rfl
         rotate_left
         ·simp only [Act.put, q1_, q2_, q3_, i64_w, i32_w]
          rfl
         refine pure_ (i := 1) (N := some 18) (v := ?_) (a' := ?_) #[true, true, false, false, false, false, false, false, false, false, false, false, false, false, false, false, false, false, false, false, false, false, false, false, false] rfl rfl (any_of HT_.out (by kernel_rfl)) (fun _ _ _ h => h) (Or.inl ⟨by rfl, ?_⟩) ?_ ?_
         rotate_left
         ·intro w'
          go_simp
          with_reducible rfl
         rotate_left
         ·simp only [Act.put, q1_, q2_, q3_, i64_w, i32_w]
          rfl
         refine pure_ (i := 2) (N := some 19) (v := ?_) (a' := ?_) #[true, true, true, false, false, false, false, false, false, false, false, false, false, false, false, false, false, false, false, false, false, false, false, false, false] rfl rfl (any_of HT_.out (by kernel_rfl)) (fun _ _ _ h => h) (Or.inl ⟨by rfl, ?_⟩) ?_ ?_
         rotate_left
         ·intro w'
          go_simp
          with_reducible rfl
         rotate_left
         ·simp only [Act.put, q1_, q2_, q3_, i64_w, i32_w]
          rfl
         refine pure_ (i := 3) (N := some 20) (v := ?_) (a' := ?_) #[true, true, true, true, false, false, false, false, false, false, false, false, false, false, false, false, false, false, false, false, false, false, false, false, false] rfl rfl (any_of HT_.out (by kernel_rfl)) (fun _ _ _ h => h) (Or.inl ⟨by rfl, ?_⟩) ?_ ?_
         rotate_left
         ·intro w'
          go_simp
          with_reducible rfl
         rotate_left
         ·simp only [Act.put, q1_, q2_, q3_, i64_w, i32_w]
          rfl
         refine pure_ (i := 5) (N := some 22) (v := ?_) (a' := ?_) #[true, true, true, true, false, true, false, false, false, false, false, false, false, false, false, false, false, false, false, false, false, false, false, false, false] rfl rfl (any_of HT_.out (by kernel_rfl)) (fun _ _ _ h => h) (Or.inl ⟨by rfl, ?_⟩) ?_ ?_
         rotate_left
         ·intro w'
          go_simp
          with_reducible rfl
         rotate_left
         ·simp only [Act.put, q1_, q2_, q3_, i64_w, i32_w]
          rfl
         refine pure_ (i := 6) (N := some 23) (v := ?_) (a' := ?_) #[true, true, true, true, false, true, true, false, false, false, false, false, false, false, false, false, false, false, false, false, false, false, false, false, false] rfl rfl (any_of HT_.out (by kernel_rfl)) (fun _ _ _ h => h) (Or.inl ⟨by rfl, ?_⟩) ?_ ?_
         rotate_left
         ·intro w'
          go_simp
          with_reducible rfl
         rotate_left
         ·simp only [Act.put, q1_, q2_, q3_, i64_w, i32_w]
          rfl
         refine pure_ (i := 7) (N := some 24) (v := ?_) (a' := ?_) #[true, true, true, true, false, true, true, true, false, false, false, false, false, false, false, false, false, false, false, false, false, false, false, false, false] rfl rfl (any_of HT_.out (by kernel_rfl)) (fun _ _ _ h => h) (Or.inl ⟨by rfl, ?_⟩) ?_ ?_
         rotate_left
         ·intro w'
          go_simp
          with_reducible rfl
         rotate_left
         ·simp only [Act.put, q1_, q2_, q3_, i64_w, i32_w]
          rfl
         refine pure_ (i := 8) (N := some 25) (v := ?_) (a' := ?_) #[true, true, true, true, false, true, true, true, true, false, false, false, false, false, false, false, false, false, false, false, false, false, false, false, false] rfl rfl (any_of HT_.out (by kernel_rfl)) (fun _ _ _ h => h) (Or.inl ⟨by rfl, ?_⟩) ?_ ?_
         rotate_left
         ·intro w'
          go_simp
          with_reducible rfl
         rotate_left
         ·simp only [Act.put, q1_, q2_, q3_, i64_w, i32_w]
          rfl
         refine take_ (i := 4) (N := some 21) (v := ?_) (a' := ?_) #[true, true, true, true, true, true, true, true, true, false, false, false, false, false, false, false, false, false, false, false, false, false, false, false, false] rfl rfl (take_ofW HT_.out HW_.out (by kernel_rfl)) (fun _ _ _ h => h) (Or.inl ⟨by rfl, ?_⟩) hHeld ?_ ?_
         rotate_left
         ·rintro w' ⟨s0, s1, s2, s3, s4, s5, s6, s7, s8, s9, s10, s11, s12, s13, s14, s15⟩
          go_simp
          with_reducible rfl
         rotate_left
         ·simp only [Act.put, q1_, q2_, q3_, i64_w, i32_w]
          rfl
         refine take_ (i := 9) (N := some 26) (v := ?_) (a' := ?_) #[true, true, true, true, true, true, true, true, true, true, false, false, false, false, false, false, false, false, false, false, false, false, false, false, false] rfl rfl (take_ofW HT_.out HW_.out (by kernel_rfl)) (fun _ _ _ h => h) (Or.inl ⟨by rfl, ?_⟩) hHeld ?_ ?_
         rotate_left
         ·rintro w' ⟨s0, s1, s2, s3, s4, s5, s6, s7, s8, s9, s10, s11, s12, s13, s14, s15⟩
          go_simp
          with_reducible rfl
         rotate_left
         ·simp only [Act.put, q1_, q2_, q3_, i64_w, i32_w]
          rfl
         refine pure_ (i := 10) (N := some 27) (v := ?_) (a' := ?_) #[true, true, true, true, true, true, true, true, true, true, true, false, false, false, false, false, false, false, false, false, false, false, false, false, false] rfl rfl (any_of HT_.out (by kernel_rfl)) (fun _ _ _ h => h) (Or.inl ⟨by rfl, ?_⟩) ?_ ?_
         rotate_left
         ·intro w'
          go_simp
          with_reducible rfl
         rotate_left
         ·simp only [Act.put, q1_, q2_, q3_, i64_w, i32_w]
          rfl
         refine pure_ (i := 11) (N := some 28) (v := ?_) (a' := ?_) #[true, true, true, true, true, true, true, true, true, true, true, true, false, false, false, false, false, false, false, false, false, false, false, false, false] rfl rfl (any_of HT_.out (by kernel_rfl)) (fun _ _ _ h => h) (Or.inl ⟨by rfl, ?_⟩) ?_ ?_
         rotate_left
         ·intro w'
          go_simp
          with_reducible rfl
         rotate_left
         ·simp only [Act.put, q1_, q2_, q3_, i64_w, i32_w]
          rfl
         refine pure_ (i := 12) (N := some 29) (v := ?_) (a' := ?_) #[true, true, true, true, true, true, true, true, true, true, true, true, true, false, false, false, false, false, false, false, false, false, false, false, false] rfl rfl (any_of HT_.out (by kernel_rfl)) (fun _ _ _ h => h) (Or.inl ⟨by rfl, ?_⟩) ?_ ?_
         rotate_left
         ·intro w'
          go_simp
          with_reducible rfl
         rotate_left
         ·simp only [Act.put, q1_, q2_, q3_, i64_w, i32_w]
          rfl
         refine pure_ (i := 13) (N := some 30) (v := ?_) (a' := ?_) #[true, true, true, true, true, true, true, true, true, true, true, true, true, true, false, false, false, false, false, false, false, false, false, false, false] rfl rfl (any_of HT_.out (by kernel_rfl)) (fun _ _ _ h => h) (Or.inl ⟨by rfl, ?_⟩) ?_ ?_
         rotate_left
         ·intro w'
          go_simp
          with_reducible rfl
         rotate_left
         ·simp only [Act.put, q1_, q2_, q3_, i64_w, i32_w]
          rfl
         refine pure_ (i := 14) (N := some 31) (v := ?_) (a' := ?_) #[true, true, true, true, true, true, true, true, true, true, true, true, true, true, true, false, false, false, false, false, false, false, false, false, false] rfl rfl (any_of HT_.out (by kernel_rfl)) (fun _ _ _ h => h) (Or.inl ⟨by rfl, ?_⟩) ?_ ?_
         rotate_left
         ·intro w'
          go_simp
          with_reducible rfl
         rotate_left
         ·simp only [Act.put, q1_, q2_, q3_, i64_w, i32_w]
          rfl
         refine pure_ (i := 15) (N := some 32) (v := ?_) (a' := ?_) #[true, true, true, true, true, true, true, true, true, true, true, true, true, true, true, true, false, false, false, false, false, false, false, false, false] rfl rfl (any_of HT_.out (by kernel_rfl)) (fun _ _ _ h => h) (Or.inl ⟨by rfl, ?_⟩) ?_ ?_
         rotate_left
         ·intro w'
          go_simp
          with_reducible rfl
         rotate_left
         ·simp only [Act.put, q1_, q2_, q3_, i64_w, i32_w]
          rfl
         refine pure_ (i := 17) (N := some 34) (v := ?_) (a' := ?_) #[true, true, true, true, true, true, true, true, true, true, true, true, true, true, true, true, false, true, false, false, false, false, false, false, false] rfl rfl (any_of HT_.out (by kernel_rfl)) (fun _ _ _ h => h) (Or.inl ⟨by rfl, ?_⟩) ?_ ?_
         rotate_left
         ·intro w'
          go_simp
          with_reducible rfl
         rotate_left
         ·simp only [Act.put, q1_, q2_, q3_, i64_w, i32_w]
          rfl
         refine pure_ (i := 18) (N := some 35) (v := ?_) (a' := ?_) #[true, true, true, true, true, true, true, true, true, true, true, true, true, true, true, true, false, true, true, false, false, false, false, false, false] rfl rfl (any_of HT_.out (by kernel_rfl)) (fun _ _ _ h => h) (Or.inl ⟨by rfl, ?_⟩) ?_ ?_
         rotate_left
         ·intro w'
          go_simp
          with_reducible rfl
         rotate_left
         ·simp only [Act.put, q1_, q2_, q3_, i64_w, i32_w]
          rfl
         refine pure_ (i := 19) (N := some 36) (v := ?_) (a' := ?_) #[true, true, true, true, true, true, true, true, true, true, true, true, true, true, true, true, false, true, true, true, false, false, false, false, false] rfl rfl (any_of HT_.out (by kernel_rfl)) (fun _ _ _ h => h) (Or.inl ⟨by rfl, ?_⟩) ?_ ?_
         rotate_left
         ·intro w'
          go_simp
          with_reducible rfl
         rotate_left
         ·simp only [Act.put, q1_, q2_, q3_, i64_w, i32_w]
          rfl
         refine pure_ (i := 20) (N := some 37) (v := ?_) (a' := ?_) #[true, true, true, true, true, true, true, true, true, true, true, true, true, true, true, true, false, true, true, true, true, false, false, false, false] rfl rfl (any_of HT_.out (by kernel_rfl)) (fun _ _ _ h => h) (Or.inl ⟨by rfl, ?_⟩) ?_ ?_
         rotate_left
         ·intro w'
          go_simp
          with_reducible rfl
         rotate_left
         ·simp only [Act.put, q1_, q2_, q3_, i64_w, i32_w]
          rfl
         refine take_ (i := 16) (N := some 33) (v := ?_) (a' := ?_) #[true, true, true, true, true, true, true, true, true, true, true, true, true, true, true, true, true, true, true, true, true, false, false, false, false] rfl rfl (take_ofW HT_.out HW_.out (by kernel_rfl)) (fun _ _ _ h => h) (Or.inl ⟨by rfl, ?_⟩) hHeld ?_ ?_
         rotate_left
         ·rintro w' ⟨s0, s1, s2, s3, s4, s5, s6, s7, s8, s9, s10, s11, s12, s13, s14, s15⟩
          go_simp
          with_reducible rfl
         rotate_left
         ·simp only [Act.put, q1_, q2_, q3_, i64_w, i32_w]
          rfl
         refine take_ (i := 21) (N := some 38) (v := ?_) (a' := ?_) #[true, true, true, true, true, true, true, true, true, true, true, true, true, true, true, true, true, true, true, true, true, true, false, false, false] rfl rfl (take_ofW HT_.out HW_.out (by kernel_rfl)) (fun _ _ _ h => h) (Or.inl ⟨by rfl, ?_⟩) hHeld ?_ ?_
         rotate_left
         ·rintro w' ⟨s0, s1, s2, s3, s4, s5, s6, s7, s8, s9, s10, s11, s12, s13, s14, s15⟩
          go_simp
          with_reducible rfl
         rotate_left
         ·simp only [Act.put, q1_, q2_, q3_, i64_w, i32_w]
          rfl
         refine one_ (i := 22) (N := some 39) #[true, true, true, true, true, true, true, true, true, true, true, true, true, true, true, true, true, true, true, true, true, true, true, false, false] rfl rfl (one_of HT_.out (by kernel_rfl)) (by decide) (fun K hK => ?_)
         refine goes_ Try.func15 (by kernel_rfl) rfl #[.agg #[.int .i64 ((rd_T40 l0 x5_1).f0.f0), .slice A177_1 ((rd_T40 l0 x5_1).f0.f1).length c177_1, .slice A177_2 ((rd_T40 l0 x5_1).f0.f2).length c177_2], .agg #[.int .i64 ((rd_T40 l1 x5_1).f0.f0), .slice A178_1 ((rd_T40 l1 x5_1).f0.f1).length c178_1, .slice A178_2 ((rd_T40 l1 x5_1).f0.f2).length c178_2]] (by rfl) rfl rfl (by (try simp only [List.map_toArray, List.map_cons, List.map_nil]); first | done | rfl | (simp only [List.length_drop, List.length_take]; rfl)) ?_
         with_reducible refine (gristmillref04_Compare.calls k1 ((rd_T40 l0 x5_1).f0.f0) _ _ ((rd_T40 l0 x5_1).f0.f1) _ _ ((rd_T40 l0 x5_1).f0.f2) ((rd_T40 l1 x5_1).f0.f0) _ _ ((rd_T40 l1 x5_1).f0.f1) _ _ ((rd_T40 l1 x5_1).f0.f2) t181 _ ?side1 ?side2 ?side3 ?side4 ?side5 ?side6 ?side7 ?side8 A8.out).mono ?_
         (case side1 => repeat (first | exact (Kd.C_below HR179_1.out HB.out) | (with_reducible refine Kd.C_alloc ?_ _) | (with_reducible refine Kd.C_drewN ?_ _) | (with_reducible refine Kd.C_drew ?_)))
         (case side2 => exact HC179_1.out)
         (case side3 => repeat (first | exact (Kd.C_below HR179_2.out HB.out) | (with_reducible refine Kd.C_alloc ?_ _) | (with_reducible refine Kd.C_drewN ?_ _) | (with_reducible refine Kd.C_drew ?_)))
         (case side4 => exact HC179_2.out)
         (case side5 => repeat (first | exact (Kd.C_below HR180_1.out HB.out) | (with_reducible refine Kd.C_alloc ?_ _) | (with_reducible refine Kd.C_drewN ?_ _) | (with_reducible refine Kd.C_drew ?_)))
         (case side6 => exact HC180_1.out)
         (case side7 => repeat (first | exact (Kd.C_below HR180_2.out HB.out) | (with_reducible refine Kd.C_alloc ?_ _) | (with_reducible refine Kd.C_drewN ?_ _) | (with_reducible refine Kd.C_drew ?_)))
         (case side8 => exact HC180_2.out)
         rintro e w11 ⟨rfl, hb⟩
         refine ⟨_, rfl, ?_⟩
         have n0_ := Aside0.mk (below_step (bw_ HB.out) hb)
         clear HB
         have HB := n0_
         clear n0_
         (try clear hb)
         (try clear hb2)
         (try clear hk)
         (try clear hi)
         refine hK.out _ _ ⟨(pw_cell_below HB.out hw177_0), (pw_cell_below HB.out hw177_1), (pw_cell_below HB.out hw177_2), (pw_cell_below HB.out hw177_3), (pw_cell_below HB.out hw178_0), (pw_cell_below HB.out hw178_1), (pw_cell_below HB.out hw178_2), (pw_cell_below HB.out hw178_3), (pw_cell_below HB.out hw179_0), (pw_cell_below HB.out hw179_1), (pw_cell_below HB.out hw179_2), (pw_cell_below HB.out hw179_3), (pw_cell_below HB.out hw180_0), (pw_cell_below HB.out hw180_1), (pw_cell_below HB.out hw180_2), (pw_cell_below HB.out hw180_3)⟩ (fun hHeld => ?_)
         clear hK K
         refine norm_ (a' := ?_) ?_ ?_
         rotate_left
         ·show Act.put _ (some 39) _ = _
          simp only [Act.put, q1_, q2_, q3_, i64_w, i32_w]
          rfl
         refine pure_ (i := 23) (N := some 40) (v := ?_) (a' := ?_) #[true, true, true, true, true, true, true, true, true, true, true, true, true, true, true, true, true, true, true, true, true, true, true, true, false] rfl rfl (any_of HT_.out (by kernel_rfl)) (fun _ _ _ h => h) (Or.inl ⟨by rfl, ?_⟩) ?_ ?_
         rotate_left
         ·intro w'
          go_simp
          with_reducible rfl
         rotate_left
         ·simp only [Act.put, q1_, q2_, q3_, i64_w, i32_w]
          rfl
         refine pure_ (i := 24) (N := some 41) (v := ?_) (a' := ?_) #[true, true, true, true, true, true, true, true, true, true, true, true, true, true, true, true, true, true, true, true, true, true, true, true, true] rfl rfl (any_of HT_.out (by kernel_rfl)) (fun _ _ _ h => h) (Or.inl ⟨by rfl, ?_⟩) ?_ ?_
         rotate_left
         ·intro w'
          go_simp
          with_reducible rfl
         rotate_left
         ·simp only [Act.put, q1_, q2_, q3_, i64_w, i32_w]
          rfl
         refine done_ (done_of HT_.out (by kernel_rfl)) ?_
         try go_wp2
         go_roundg k1
         case measure => have := HK1.out; omega
         case rel => exact ⟨(wrap64 (x5_1 + 1)), (by first | rfl | (simp; done) | (simp [*]; done)), H', ⟨by have := HK1.out; omega⟩, ⟨by repeat (first | (with_reducible first | exact HB.out | apply below_alloc | apply pw_below_drewN | apply below_drew1) | exact HB.out)⟩⟩
        ·rw [if_neg c9] at H
         have c9b0 : (t181 == 0) = false := beq_eq_false_iff_ne.mpr c9
         have c9b1 : (t181 != 0) = true := bne_iff_ne.mpr c9
         obtain rfl := Option.some.inj H
         try go_wp2
         have n0_ := Aside0.mk (below_drew1 HB.out)
         clear HB
         have HB := n0_
         clear n0_
         have p177 : 0 ≤ (x5_1 : Int) := of_decide_eq_true (by assumption)
         have q177 : x5_1 < (l0.length : Int) := of_decide_eq_true (by assumption)
         obtain ⟨ad177, A177_1, c177_1, A177_2, c177_2, e177, hx177_0, hx177_1, hx177_2, hx177_3, hl177_1, hi177_1, hl177_2, hi177_2⟩ := at_T40 HR0.out x5_1 p177 q177
         have hw177_3 := hx177_3
         have hw177_2 := hx177_2
         have hw177_1 := hx177_1
         have hw177_0 := hx177_0
         cases e177
         replace hx177_0 := pw_cell_below HB.out hx177_0
         replace hx177_1 := pw_cell_below HB.out hx177_1
         replace hx177_2 := pw_cell_below HB.out hx177_2
         replace hx177_3 := pw_cell_below HB.out hx177_3
         have HR177_1 := Aside0.mk hi177_1
         have HC177_1 := Aside0.mk hl177_1
         clear hi177_1 hl177_1
         have HR177_2 := Aside0.mk hi177_2
         have HC177_2 := Aside0.mk hl177_2
         clear hi177_2 hl177_2
         replace p177 := eq_true p177
         replace q177 := eq_true q177
         have p178 : 0 ≤ (x5_1 : Int) := of_decide_eq_true (by assumption)
         have q178 : x5_1 < (l1.length : Int) := of_decide_eq_true (by assumption)
         obtain ⟨ad178, A178_1, c178_1, A178_2, c178_2, e178, hx178_0, hx178_1, hx178_2, hx178_3, hl178_1, hi178_1, hl178_2, hi178_2⟩ := at_T40 HR1.out x5_1 p178 q178
         have hw178_3 := hx178_3
         have hw178_2 := hx178_2
         have hw178_1 := hx178_1
         have hw178_0 := hx178_0
         cases e178
         replace hx178_0 := pw_cell_below HB.out hx178_0
         replace hx178_1 := pw_cell_below HB.out hx178_1
         replace hx178_2 := pw_cell_below HB.out hx178_2
         replace hx178_3 := pw_cell_below HB.out hx178_3
         have HR178_1 := Aside0.mk hi178_1
         have HC178_1 := Aside0.mk hl178_1
         clear hi178_1 hl178_1
         have HR178_2 := Aside0.mk hi178_2
         have HC178_2 := Aside0.mk hl178_2
         clear hi178_2 hl178_2
         replace p178 := eq_true p178
         replace q178 := eq_true q178
         have p179 : 0 ≤ (x5_1 : Int) := of_decide_eq_true (by assumption)
         have q179 : x5_1 < (l0.length : Int) := of_decide_eq_true (by assumption)
         obtain ⟨ad179, A179_1, c179_1, A179_2, c179_2, e179, hx179_0, hx179_1, hx179_2, hx179_3, hl179_1, hi179_1, hl179_2, hi179_2⟩ := at_T40 HR0.out x5_1 p179 q179
         have hw179_3 := hx179_3
         have hw179_2 := hx179_2
         have hw179_1 := hx179_1
         have hw179_0 := hx179_0
         obtain rfl : ad177 = ad179 := (by injection e179)
         replace hx179_0 := pw_cell_below HB.out hx179_0
         replace hx179_1 := pw_cell_below HB.out hx179_1
         replace hx179_2 := pw_cell_below HB.out hx179_2
         replace hx179_3 := pw_cell_below HB.out hx179_3
         have HR179_1 := Aside0.mk hi179_1
         have HC179_1 := Aside0.mk hl179_1
         clear hi179_1 hl179_1
         have HR179_2 := Aside0.mk hi179_2
         have HC179_2 := Aside0.mk hl179_2
         clear hi179_2 hl179_2
         replace p179 := eq_true p179
         replace q179 := eq_true q179
         have ea_ := Option.some.inj (hx177_1.symm.trans hx179_1)
         injection ea_ with ea_ en_ ec_
         subst ea_
         subst ec_
         clear en_
         have ea_ := Option.some.inj (hx177_2.symm.trans hx179_2)
         injection ea_ with ea_ en_ ec_
         subst ea_
         subst ec_
         clear en_
         have p180 : 0 ≤ (x5_1 : Int) := of_decide_eq_true (by assumption)
         have q180 : x5_1 < (l1.length : Int) := of_decide_eq_true (by assumption)
         obtain ⟨ad180, A180_1, c180_1, A180_2, c180_2, e180, hx180_0, hx180_1, hx180_2, hx180_3, hl180_1, hi180_1, hl180_2, hi180_2⟩ := at_T40 HR1.out x5_1 p180 q180
         have hw180_3 := hx180_3
         have hw180_2 := hx180_2
         have hw180_1 := hx180_1
         have hw180_0 := hx180_0
         obtain rfl : ad178 = ad180 := (by injection e180)
         replace hx180_0 := pw_cell_below HB.out hx180_0
         replace hx180_1 := pw_cell_below HB.out hx180_1
         replace hx180_2 := pw_cell_below HB.out hx180_2
         replace hx180_3 := pw_cell_below HB.out hx180_3
         have HR180_1 := Aside0.mk hi180_1
         have HC180_1 := Aside0.mk hl180_1
         clear hi180_1 hl180_1
         have HR180_2 := Aside0.mk hi180_2
         have HC180_2 := Aside0.mk hl180_2
         clear hi180_2 hl180_2
         replace p180 := eq_true p180
         replace q180 := eq_true q180
         have ea_ := Option.some.inj (hx178_1.symm.trans hx180_1)
         injection ea_ with ea_ en_ ec_
         subst ea_
         subst ec_
         clear en_
         have ea_ := Option.some.inj (hx178_2.symm.trans hx180_2)
         injection ea_ with ea_ en_ ec_
         subst ea_
         subst ec_
         clear en_
         refine start_ (n := 25) (S := fun w' => w'.cell? (ad177.add ((x5_1).toNat * 4)) = some (.int .i64 ((rd_T40 l0 x5_1).f0.f0)) ∧ w'.cell? ⟨(ad177.add ((x5_1).toNat * 4)).block, (ad177.add ((x5_1).toNat * 4)).off + 1, none⟩ = some (.slice A177_1 ((rd_T40 l0 x5_1).f0.f1).length c177_1) ∧ w'.cell? ⟨(ad177.add ((x5_1).toNat * 4)).block, (ad177.add ((x5_1).toNat * 4)).off + 2, none⟩ = some (.slice A177_2 ((rd_T40 l0 x5_1).f0.f2).length c177_2) ∧ w'.cell? ⟨(ad177.add ((x5_1).toNat * 4)).block, (ad177.add ((x5_1).toNat * 4)).off + 3, none⟩ = some (.int .u64 ((rd_T40 l0 x5_1).f1)) ∧ w'.cell? (ad178.add ((x5_1).toNat * 4)) = some (.int .i64 ((rd_T40 l1 x5_1).f0.f0)) ∧ w'.cell? ⟨(ad178.add ((x5_1).toNat * 4)).block, (ad178.add ((x5_1).toNat * 4)).off + 1, none⟩ = some (.slice A178_1 ((rd_T40 l1 x5_1).f0.f1).length c178_1) ∧ w'.cell? ⟨(ad178.add ((x5_1).toNat * 4)).block, (ad178.add ((x5_1).toNat * 4)).off + 2, none⟩ = some (.slice A178_2 ((rd_T40 l1 x5_1).f0.f2).length c178_2) ∧ w'.cell? ⟨(ad178.add ((x5_1).toNat * 4)).block, (ad178.add ((x5_1).toNat * 4)).off + 3, none⟩ = some (.int .u64 ((rd_T40 l1 x5_1).f1)) ∧ w'.cell? (ad177.add ((x5_1).toNat * 4)) = some (.int .i64 ((rd_T40 l0 x5_1).f0.f0)) ∧ w'.cell? ⟨(ad177.add ((x5_1).toNat * 4)).block, (ad177.add ((x5_1).toNat * 4)).off + 1, none⟩ = some (.slice A177_1 ((rd_T40 l0 x5_1).f0.f1).length c177_1) ∧ w'.cell? ⟨(ad177.add ((x5_1).toNat * 4)).block, (ad177.add ((x5_1).toNat * 4)).off + 2, none⟩ = some (.slice A177_2 ((rd_T40 l0 x5_1).f0.f2).length c177_2) ∧ w'.cell? ⟨(ad177.add ((x5_1).toNat * 4)).block, (ad177.add ((x5_1).toNat * 4)).off + 3, none⟩ = some (.int .u64 ((rd_T40 l0 x5_1).f1)) ∧ w'.cell? (ad178.add ((x5_1).toNat * 4)) = some (.int .i64 ((rd_T40 l1 x5_1).f0.f0)) ∧ w'.cell? ⟨(ad178.add ((x5_1).toNat * 4)).block, (ad178.add ((x5_1).toNat * 4)).off + 1, none⟩ = some (.slice A178_1 ((rd_T40 l1 x5_1).f0.f1).length c178_1) ∧ w'.cell? ⟨(ad178.add ((x5_1).toNat * 4)).block, (ad178.add ((x5_1).toNat * 4)).off + 2, none⟩ = some (.slice A178_2 ((rd_T40 l1 x5_1).f0.f2).length c178_2) ∧ w'.cell? ⟨(ad178.add ((x5_1).toNat * 4)).block, (ad178.add ((x5_1).toNat * 4)).off + 3, none⟩ = some (.int .u64 ((rd_T40 l1 x5_1).f1))) (ds := []) #[false, false, false, false, false, false, false, false, false, false, false, false, false, false, false, false, false, false, false, false, false, false, false, false, false] (by kernel_rfl) rfl rfl ⟨(pw_cell_below HB.out hw177_0), (pw_cell_below HB.out hw177_1), (pw_cell_below HB.out hw177_2), (pw_cell_below HB.out hw177_3), (pw_cell_below HB.out hw178_0), (pw_cell_below HB.out hw178_1), (pw_cell_below HB.out hw178_2), (pw_cell_below HB.out hw178_3), (pw_cell_below HB.out hw179_0), (pw_cell_below HB.out hw179_1), (pw_cell_below HB.out hw179_2), (pw_cell_below HB.out hw179_3), (pw_cell_below HB.out hw180_0), (pw_cell_below HB.out hw180_1), (pw_cell_below HB.out hw180_2), (pw_cell_below HB.out hw180_3)⟩ (fun hHeld => ?_); refine with_tabW gristmillref04_Is.tab6 gristmillref04_Is.bits6 (fun HT_ HW_ => ?_)
         generalize wr.drew = w12 at HB HR177_1 HR177_2 HR178_1 HR178_2 HR179_1 HR179_2 HR180_1 HR180_2 hx177_0 hx177_1 hx177_2 hx177_3 hx178_0 hx178_1 hx178_2 hx178_3 hx179_0 hx179_1 hx179_2 hx179_3 hx180_0 hx180_1 hx180_2 hx180_3 hHeld ⊢
         refine pure_ (i := 0) (N := some 17) (v := ?_) (a' := ?_) #[true, false, false, false, false, false, false, false, false, false, false, false, false, false, false, false, false, false, false, false, false, false, false, false, false] rfl rfl (any_of HT_.out (by kernel_rfl)) (fun _ _ _ h => h) (Or.inl ⟨by rfl, ?_⟩) ?_ ?_
         rotate_left
         ·intro w'
          go_simp
          with_reducible rfl
         rotate_left
         ·simp only [Act.put, q1_, q2_, q3_, i64_w, i32_w]
          rfl
         refine pure_ (i := 1) (N := some 18) (v := ?_) (a' := ?_) #[true, true, false, false, false, false, false, false, false, false, false, false, false, false, false, false, false, false, false, false, false, false, false, false, false] rfl rfl (any_of HT_.out (by kernel_rfl)) (fun _ _ _ h => h) (Or.inl ⟨by rfl, ?_⟩) ?_ ?_
         rotate_left
         ·intro w'
          go_simp
          with_reducible rfl
         rotate_left
         ·simp only [Act.put, q1_, q2_, q3_, i64_w, i32_w]
          rfl
         refine pure_ (i := 2) (N := some 19) (v := ?_) (a' := ?_) #[true, true, true, false, false, false, false, false, false, false, false, false, false, false, false, false, false, false, false, false, false, false, false, false, false] rfl rfl (any_of HT_.out (by kernel_rfl)) (fun _ _ _ h => h) (Or.inl ⟨by rfl, ?_⟩) ?_ ?_
         rotate_left
         ·intro w'
          go_simp
          with_reducible rfl
         rotate_left
         ·simp only [Act.put, q1_, q2_, q3_, i64_w, i32_w]
          rfl
         refine pure_ (i := 3) (N := some 20) (v := ?_) (a' := ?_) #[true, true, true, true, false, false, false, false, false, false, false, false, false, false, false, false, false, false, false, false, false, false, false, false, false] rfl rfl (any_of HT_.out (by kernel_rfl)) (fun _ _ _ h => h) (Or.inl ⟨by rfl, ?_⟩) ?_ ?_
         rotate_left
         ·intro w'
          go_simp
          with_reducible rfl
         rotate_left
         ·simp only [Act.put, q1_, q2_, q3_, i64_w, i32_w]
          rfl
         refine pure_ (i := 5) (N := some 22) (v := ?_) (a' := ?_) #[true, true, true, true, false, true, false, false, false, false, false, false, false, false, false, false, false, false, false, false, false, false, false, false, false] rfl rfl (any_of HT_.out (by kernel_rfl)) (fun _ _ _ h => h) (Or.inl ⟨by rfl, ?_⟩) ?_ ?_
         rotate_left
         ·intro w'
          go_simp
          with_reducible rfl
         rotate_left
         ·simp only [Act.put, q1_, q2_, q3_, i64_w, i32_w]
          rfl
         refine pure_ (i := 6) (N := some 23) (v := ?_) (a' := ?_) #[true, true, true, true, false, true, true, false, false, false, false, false, false, false, false, false, false, false, false, false, false, false, false, false, false] rfl rfl (any_of HT_.out (by kernel_rfl)) (fun _ _ _ h => h) (Or.inl ⟨by rfl, ?_⟩) ?_ ?_
         rotate_left
         ·intro w'
          go_simp
          with_reducible rfl
         rotate_left
         ·simp only [Act.put, q1_, q2_, q3_, i64_w, i32_w]
          rfl
         refine pure_ (i := 7) (N := some 24) (v := ?_) (a' := ?_) #[true, true, true, true, false, true, true, true, false, false, false, false, false, false, false, false, false, false, false, false, false, false, false, false, false] rfl rfl (any_of HT_.out (by kernel_rfl)) (fun _ _ _ h => h) (Or.inl ⟨by rfl, ?_⟩) ?_ ?_
         rotate_left
         ·intro w'
          go_simp
          with_reducible rfl
         rotate_left
         ·simp only [Act.put, q1_, q2_, q3_, i64_w, i32_w]
          rfl
         refine pure_ (i := 8) (N := some 25) (v := ?_) (a' := ?_) #[true, true, true, true, false, true, true, true, true, false, false, false, false, false, false, false, false, false, false, false, false, false, false, false, false] rfl rfl (any_of HT_.out (by kernel_rfl)) (fun _ _ _ h => h) (Or.inl ⟨by rfl, ?_⟩) ?_ ?_
         rotate_left
         ·intro w'
          go_simp
          with_reducible rfl
         rotate_left
         ·simp only [Act.put, q1_, q2_, q3_, i64_w, i32_w]
          rfl
         refine take_ (i := 4) (N := some 21) (v := ?_) (a' := ?_) #[true, true, true, true, true, true, true, true, true, false, false, false, false, false, false, false, false, false, false, false, false, false, false, false, false] rfl rfl (take_ofW HT_.out HW_.out (by kernel_rfl)) (fun _ _ _ h => h) (Or.inl ⟨by rfl, ?_⟩) hHeld ?_ ?_
         rotate_left
         ·rintro w' ⟨s0, s1, s2, s3, s4, s5, s6, s7, s8, s9, s10, s11, s12, s13, s14, s15⟩
          go_simp
          with_reducible rfl
         rotate_left
         ·simp only [Act.put, q1_, q2_, q3_, i64_w, i32_w]
          rfl
         refine take_ (i := 9) (N := some 26) (v := ?_) (a' := ?_) #[true, true, true, true, true, true, true, true, true, true, false, false, false, false, false, false, false, false, false, false, false, false, false, false, false] rfl rfl (take_ofW HT_.out HW_.out (by kernel_rfl)) (fun _ _ _ h => h) (Or.inl ⟨by rfl, ?_⟩) hHeld ?_ ?_
         rotate_left
         ·rintro w' ⟨s0, s1, s2, s3, s4, s5, s6, s7, s8, s9, s10, s11, s12, s13, s14, s15⟩
          go_simp
          with_reducible rfl
         rotate_left
         ·simp only [Act.put, q1_, q2_, q3_, i64_w, i32_w]
          rfl
         refine pure_ (i := 10) (N := some 27) (v := ?_) (a' := ?_) #[true, true, true, true, true, true, true, true, true, true, true, false, false, false, false, false, false, false, false, false, false, false, false, false, false] rfl rfl (any_of HT_.out (by kernel_rfl)) (fun _ _ _ h => h) (Or.inl ⟨by rfl, ?_⟩) ?_ ?_
         rotate_left
         ·intro w'
          go_simp
          with_reducible rfl
         rotate_left
         ·simp only [Act.put, q1_, q2_, q3_, i64_w, i32_w]
          rfl
         refine pure_ (i := 11) (N := some 28) (v := ?_) (a' := ?_) #[true, true, true, true, true, true, true, true, true, true, true, true, false, false, false, false, false, false, false, false, false, false, false, false, false] rfl rfl (any_of HT_.out (by kernel_rfl)) (fun _ _ _ h => h) (Or.inl ⟨by rfl, ?_⟩) ?_ ?_
         rotate_left
         ·intro w'
          go_simp
          with_reducible rfl
         rotate_left
         ·simp only [Act.put, q1_, q2_, q3_, i64_w, i32_w]
          rfl
         refine pure_ (i := 12) (N := some 29) (v := ?_) (a' := ?_) #[true, true, true, true, true, true, true, true, true, true, true, true, true, false, false, false, false, false, false, false, false, false, false, false, false] rfl rfl (any_of HT_.out (by kernel_rfl)) (fun _ _ _ h => h) (Or.inl ⟨by rfl, ?_⟩) ?_ ?_
         rotate_left
         ·intro w'
          go_simp
          with_reducible rfl
         rotate_left
         ·simp only [Act.put, q1_, q2_, q3_, i64_w, i32_w]
          rfl
         refine pure_ (i := 13) (N := some 30) (v := ?_) (a' := ?_) #[true, true, true, true, true, true, true, true, true, true, true, true, true, true, false, false, false, false, false, false, false, false, false, false, false] rfl rfl (any_of HT_.out (by kernel_rfl)) (fun _ _ _ h => h) (Or.inl ⟨by rfl, ?_⟩) ?_ ?_
         rotate_left
         ·intro w'
          go_simp
          with_reducible rfl
         rotate_left
         ·simp only [Act.put, q1_, q2_, q3_, i64_w, i32_w]
          rfl
         refine pure_ (i := 14) (N := some 31) (v := ?_) (a' := ?_) #[true, true, true, true, true, true, true, true, true, true, true, true, true, true, true, false, false, false, false, false, false, false, false, false, false] rfl rfl (any_of HT_.out (by kernel_rfl)) (fun _ _ _ h => h) (Or.inl ⟨by rfl, ?_⟩) ?_ ?_
         rotate_left
         ·intro w'
          go_simp
          with_reducible rfl
         rotate_left
         ·simp only [Act.put, q1_, q2_, q3_, i64_w, i32_w]
          rfl
         refine pure_ (i := 15) (N := some 32) (v := ?_) (a' := ?_) #[true, true, true, true, true, true, true, true, true, true, true, true, true, true, true, true, false, false, false, false, false, false, false, false, false] rfl rfl (any_of HT_.out (by kernel_rfl)) (fun _ _ _ h => h) (Or.inl ⟨by rfl, ?_⟩) ?_ ?_
         rotate_left
         ·intro w'
          go_simp
          with_reducible rfl
         rotate_left
         ·simp only [Act.put, q1_, q2_, q3_, i64_w, i32_w]
          rfl
         refine pure_ (i := 17) (N := some 34) (v := ?_) (a' := ?_) #[true, true, true, true, true, true, true, true, true, true, true, true, true, true, true, true, false, true, false, false, false, false, false, false, false] rfl rfl (any_of HT_.out (by kernel_rfl)) (fun _ _ _ h => h) (Or.inl ⟨by rfl, ?_⟩) ?_ ?_
         rotate_left
         ·intro w'
          go_simp
          with_reducible rfl
         rotate_left
         ·simp only [Act.put, q1_, q2_, q3_, i64_w, i32_w]
          rfl
         refine pure_ (i := 18) (N := some 35) (v := ?_) (a' := ?_) #[true, true, true, true, true, true, true, true, true, true, true, true, true, true, true, true, false, true, true, false, false, false, false, false, false] rfl rfl (any_of HT_.out (by kernel_rfl)) (fun _ _ _ h => h) (Or.inl ⟨by rfl, ?_⟩) ?_ ?_
         rotate_left
         ·intro w'
          go_simp
          with_reducible rfl
         rotate_left
         ·simp only [Act.put, q1_, q2_, q3_, i64_w, i32_w]
          rfl
         refine pure_ (i := 19) (N := some 36) (v := ?_) (a' := ?_) #[true, true, true, true, true, true, true, true, true, true, true, true, true, true, true, true, false, true, true, true, false, false, false, false, false] rfl rfl (any_of HT_.out (by kernel_rfl)) (fun _ _ _ h => h) (Or.inl ⟨by rfl, ?_⟩) ?_ ?_
         rotate_left
         ·intro w'
          go_simp
          with_reducible rfl
         rotate_left
         ·simp only [Act.put, q1_, q2_, q3_, i64_w, i32_w]
          rfl
         refine pure_ (i := 20) (N := some 37) (v := ?_) (a' := ?_) #[true, true, true, true, true, true, true, true, true, true, true, true, true, true, true, true, false, true, true, true, true, false, false, false, false] rfl rfl (any_of HT_.out (by kernel_rfl)) (fun _ _ _ h => h) (Or.inl ⟨by rfl, ?_⟩) ?_ ?_
         rotate_left
         ·intro w'
          go_simp
          with_reducible rfl
         rotate_left
         ·simp only [Act.put, q1_, q2_, q3_, i64_w, i32_w]
          rfl
         refine take_ (i := 16) (N := some 33) (v := ?_) (a' := ?_) #[true, true, true, true, true, true, true, true, true, true, true, true, true, true, true, true, true, true, true, true, true, false, false, false, false] rfl rfl (take_ofW HT_.out HW_.out (by kernel_rfl)) (fun _ _ _ h => h) (Or.inl ⟨by rfl, ?_⟩) hHeld ?_ ?_
         rotate_left
         ·rintro w' ⟨s0, s1, s2, s3, s4, s5, s6, s7, s8, s9, s10, s11, s12, s13, s14, s15⟩
          go_simp
          with_reducible rfl
         rotate_left
         ·simp only [Act.put, q1_, q2_, q3_, i64_w, i32_w]
          rfl
         refine take_ (i := 21) (N := some 38) (v := ?_) (a' := ?_) #[true, true, true, true, true, true, true, true, true, true, true, true, true, true, true, true, true, true, true, true, true, true, false, false, false] rfl rfl (take_ofW HT_.out HW_.out (by kernel_rfl)) (fun _ _ _ h => h) (Or.inl ⟨by rfl, ?_⟩) hHeld ?_ ?_
         rotate_left
         ·rintro w' ⟨s0, s1, s2, s3, s4, s5, s6, s7, s8, s9, s10, s11, s12, s13, s14, s15⟩
          go_simp
          with_reducible rfl
         rotate_left
         ·simp only [Act.put, q1_, q2_, q3_, i64_w, i32_w]
          rfl
         refine one_ (i := 22) (N := some 39) #[true, true, true, true, true, true, true, true, true, true, true, true, true, true, true, true, true, true, true, true, true, true, true, false, false] rfl rfl (one_of HT_.out (by kernel_rfl)) (by decide) (fun K hK => ?_)
         refine goes_ Try.func15 (by kernel_rfl) rfl #[.agg #[.int .i64 ((rd_T40 l0 x5_1).f0.f0), .slice A177_1 ((rd_T40 l0 x5_1).f0.f1).length c177_1, .slice A177_2 ((rd_T40 l0 x5_1).f0.f2).length c177_2], .agg #[.int .i64 ((rd_T40 l1 x5_1).f0.f0), .slice A178_1 ((rd_T40 l1 x5_1).f0.f1).length c178_1, .slice A178_2 ((rd_T40 l1 x5_1).f0.f2).length c178_2]] (by rfl) rfl rfl (by (try simp only [List.map_toArray, List.map_cons, List.map_nil]); first | done | rfl | (simp only [List.length_drop, List.length_take]; rfl)) ?_
         with_reducible refine (gristmillref04_Compare.calls k1 ((rd_T40 l0 x5_1).f0.f0) _ _ ((rd_T40 l0 x5_1).f0.f1) _ _ ((rd_T40 l0 x5_1).f0.f2) ((rd_T40 l1 x5_1).f0.f0) _ _ ((rd_T40 l1 x5_1).f0.f1) _ _ ((rd_T40 l1 x5_1).f0.f2) t181 _ ?side1 ?side2 ?side3 ?side4 ?side5 ?side6 ?side7 ?side8 A8.out).mono ?_
         (case side1 => repeat (first | exact (Kd.C_below HR179_1.out HB.out) | (with_reducible refine Kd.C_alloc ?_ _) | (with_reducible refine Kd.C_drewN ?_ _) | (with_reducible refine Kd.C_drew ?_)))
         (case side2 => exact HC179_1.out)
         (case side3 => repeat (first | exact (Kd.C_below HR179_2.out HB.out) | (with_reducible refine Kd.C_alloc ?_ _) | (with_reducible refine Kd.C_drewN ?_ _) | (with_reducible refine Kd.C_drew ?_)))
         (case side4 => exact HC179_2.out)
         (case side5 => repeat (first | exact (Kd.C_below HR180_1.out HB.out) | (with_reducible refine Kd.C_alloc ?_ _) | (with_reducible refine Kd.C_drewN ?_ _) | (with_reducible refine Kd.C_drew ?_)))
         (case side6 => exact HC180_1.out)
         (case side7 => repeat (first | exact (Kd.C_below HR180_2.out HB.out) | (with_reducible refine Kd.C_alloc ?_ _) | (with_reducible refine Kd.C_drewN ?_ _) | (with_reducible refine Kd.C_drew ?_)))
         (case side8 => exact HC180_2.out)
         rintro e w13 ⟨rfl, hb⟩
         refine ⟨_, rfl, ?_⟩
         have n0_ := Aside0.mk (below_step (bw_ HB.out) hb)
         clear HB
         have HB := n0_
         clear n0_
         (try clear hb)
         (try clear hb2)
         (try clear hk)
         (try clear hi)
         refine hK.out _ _ ⟨(pw_cell_below HB.out hw177_0), (pw_cell_below HB.out hw177_1), (pw_cell_below HB.out hw177_2), (pw_cell_below HB.out hw177_3), (pw_cell_below HB.out hw178_0), (pw_cell_below HB.out hw178_1), (pw_cell_below HB.out hw178_2), (pw_cell_below HB.out hw178_3), (pw_cell_below HB.out hw179_0), (pw_cell_below HB.out hw179_1), (pw_cell_below HB.out hw179_2), (pw_cell_below HB.out hw179_3), (pw_cell_below HB.out hw180_0), (pw_cell_below HB.out hw180_1), (pw_cell_below HB.out hw180_2), (pw_cell_below HB.out hw180_3)⟩ (fun hHeld => ?_)
         clear hK K
         refine norm_ (a' := ?_) ?_ ?_
         rotate_left
         ·show Act.put _ (some 39) _ = _
          simp only [Act.put, q1_, q2_, q3_, i64_w, i32_w]
          rfl
         refine pure_ (i := 23) (N := some 40) (v := ?_) (a' := ?_) #[true, true, true, true, true, true, true, true, true, true, true, true, true, true, true, true, true, true, true, true, true, true, true, true, false] rfl rfl (any_of HT_.out (by kernel_rfl)) (fun _ _ _ h => h) (Or.inl ⟨by rfl, ?_⟩) ?_ ?_
         rotate_left
         ·intro w'
          go_simp
          with_reducible rfl
         rotate_left
         ·simp only [Act.put, q1_, q2_, q3_, i64_w, i32_w]
          rfl
         refine pure_ (i := 24) (N := some 41) (v := ?_) (a' := ?_) #[true, true, true, true, true, true, true, true, true, true, true, true, true, true, true, true, true, true, true, true, true, true, true, true, true] rfl rfl (any_of HT_.out (by kernel_rfl)) (fun _ _ _ h => h) (Or.inl ⟨by rfl, ?_⟩) ?_ ?_
         rotate_left
         ·intro w'
          go_simp
          with_reducible rfl
         rotate_left
         ·simp only [Act.put, q1_, q2_, q3_, i64_w, i32_w]
          rfl
         refine done_ (done_of HT_.out (by kernel_rfl)) ?_
         try go_wp2
         go_ret
         exact ⟨by first | rfl | (simp [errW_none, errW_some] <;> rfl) | (simp [*, errW_none, errW_some] <;> rfl), by repeat (first | (with_reducible first | exact HB.out | apply below_alloc | apply pw_below_drewN | apply below_drew1) | exact HB.out)⟩
       ·rw [if_neg c7] at H
        have c7b0 : (((rd_T40 l0 x5_1).f1) == ((rd_T40 l1 x5_1).f1)) = false := beq_eq_false_iff_ne.mpr c7
        have c7b1 : (((rd_T40 l0 x5_1).f1) != ((rd_T40 l1 x5_1).f1)) = true := bne_iff_ne.mpr c7
        obtain rfl := Option.some.inj H
        try go_wp2
        have n0_ := Aside0.mk (below_drew1 HB.out)
        clear HB
        have HB := n0_
        clear n0_
        have p177 : 0 ≤ (x5_1 : Int) := of_decide_eq_true (by assumption)
        have q177 : x5_1 < (l0.length : Int) := of_decide_eq_true (by assumption)
        obtain ⟨ad177, A177_1, c177_1, A177_2, c177_2, e177, hx177_0, hx177_1, hx177_2, hx177_3, hl177_1, hi177_1, hl177_2, hi177_2⟩ := at_T40 HR0.out x5_1 p177 q177
        have hw177_3 := hx177_3
        have hw177_2 := hx177_2
        have hw177_1 := hx177_1
        have hw177_0 := hx177_0
        cases e177
        replace hx177_0 := pw_cell_below HB.out hx177_0
        replace hx177_1 := pw_cell_below HB.out hx177_1
        replace hx177_2 := pw_cell_below HB.out hx177_2
        replace hx177_3 := pw_cell_below HB.out hx177_3
        have HR177_1 := Aside0.mk hi177_1
        have HC177_1 := Aside0.mk hl177_1
        clear hi177_1 hl177_1
        have HR177_2 := Aside0.mk hi177_2
        have HC177_2 := Aside0.mk hl177_2
        clear hi177_2 hl177_2
        replace p177 := eq_true p177
        replace q177 := eq_true q177
        have p178 : 0 ≤ (x5_1 : Int) := of_decide_eq_true (by assumption)
        have q178 : x5_1 < (l1.length : Int) := of_decide_eq_true (by assumption)
        obtain ⟨ad178, A178_1, c178_1, A178_2, c178_2, e178, hx178_0, hx178_1, hx178_2, hx178_3, hl178_1, hi178_1, hl178_2, hi178_2⟩ := at_T40 HR1.out x5_1 p178 q178
        have hw178_3 := hx178_3
        have hw178_2 := hx178_2
        have hw178_1 := hx178_1
        have hw178_0 := hx178_0
        cases e178
        replace hx178_0 := pw_cell_below HB.out hx178_0
        replace hx178_1 := pw_cell_below HB.out hx178_1
        replace hx178_2 := pw_cell_below HB.out hx178_2
        replace hx178_3 := pw_cell_below HB.out hx178_3
        have HR178_1 := Aside0.mk hi178_1
        have HC178_1 := Aside0.mk hl178_1
        clear hi178_1 hl178_1
        have HR178_2 := Aside0.mk hi178_2
        have HC178_2 := Aside0.mk hl178_2
        clear hi178_2 hl178_2
        replace p178 := eq_true p178
        replace q178 := eq_true q178
        refine start_ (n := 25) (S := fun w' => w'.cell? (ad177.add ((x5_1).toNat * 4)) = some (.int .i64 ((rd_T40 l0 x5_1).f0.f0)) ∧ w'.cell? ⟨(ad177.add ((x5_1).toNat * 4)).block, (ad177.add ((x5_1).toNat * 4)).off + 1, none⟩ = some (.slice A177_1 ((rd_T40 l0 x5_1).f0.f1).length c177_1) ∧ w'.cell? ⟨(ad177.add ((x5_1).toNat * 4)).block, (ad177.add ((x5_1).toNat * 4)).off + 2, none⟩ = some (.slice A177_2 ((rd_T40 l0 x5_1).f0.f2).length c177_2) ∧ w'.cell? ⟨(ad177.add ((x5_1).toNat * 4)).block, (ad177.add ((x5_1).toNat * 4)).off + 3, none⟩ = some (.int .u64 ((rd_T40 l0 x5_1).f1)) ∧ w'.cell? (ad178.add ((x5_1).toNat * 4)) = some (.int .i64 ((rd_T40 l1 x5_1).f0.f0)) ∧ w'.cell? ⟨(ad178.add ((x5_1).toNat * 4)).block, (ad178.add ((x5_1).toNat * 4)).off + 1, none⟩ = some (.slice A178_1 ((rd_T40 l1 x5_1).f0.f1).length c178_1) ∧ w'.cell? ⟨(ad178.add ((x5_1).toNat * 4)).block, (ad178.add ((x5_1).toNat * 4)).off + 2, none⟩ = some (.slice A178_2 ((rd_T40 l1 x5_1).f0.f2).length c178_2) ∧ w'.cell? ⟨(ad178.add ((x5_1).toNat * 4)).block, (ad178.add ((x5_1).toNat * 4)).off + 3, none⟩ = some (.int .u64 ((rd_T40 l1 x5_1).f1))) (ds := []) #[false, false, false, false, false, false, false, false, false, false, false, false, false, false, false, false, false, false, false, false, false, false, false, false, false] (by kernel_rfl) rfl rfl ⟨(pw_cell_below HB.out hw177_0), (pw_cell_below HB.out hw177_1), (pw_cell_below HB.out hw177_2), (pw_cell_below HB.out hw177_3), (pw_cell_below HB.out hw178_0), (pw_cell_below HB.out hw178_1), (pw_cell_below HB.out hw178_2), (pw_cell_below HB.out hw178_3)⟩ (fun hHeld => ?_); refine with_tabW gristmillref04_Is.tab6 gristmillref04_Is.bits6 (fun HT_ HW_ => ?_)
        generalize wr.drew = w14 at HB HR177_1 HR177_2 HR178_1 HR178_2 hx177_0 hx177_1 hx177_2 hx177_3 hx178_0 hx178_1 hx178_2 hx178_3 hHeld ⊢
        refine pure_ (i := 0) (N := some 17) (v := ?_) (a' := ?_) #[true, false, false, false, false, false, false, false, false, false, false, false, false, false, false, false, false, false, false, false, false, false, false, false, false] rfl rfl (any_of HT_.out (by kernel_rfl)) (fun _ _ _ h => h) (Or.inl ⟨by rfl, ?_⟩) ?_ ?_
        rotate_left
        ·intro w'
         go_simp
         with_reducible rfl
        rotate_left
        ·simp only [Act.put, q1_, q2_, q3_, i64_w, i32_w]
         rfl
        refine pure_ (i := 1) (N := some 18) (v := ?_) (a' := ?_) #[true, true, false, false, false, false, false, false, false, false, false, false, false, false, false, false, false, false, false, false, false, false, false, false, false] rfl rfl (any_of HT_.out (by kernel_rfl)) (fun _ _ _ h => h) (Or.inl ⟨by rfl, ?_⟩) ?_ ?_
        rotate_left
        ·intro w'
         go_simp
         with_reducible rfl
        rotate_left
        ·simp only [Act.put, q1_, q2_, q3_, i64_w, i32_w]
         rfl
        refine pure_ (i := 2) (N := some 19) (v := ?_) (a' := ?_) #[true, true, true, false, false, false, false, false, false, false, false, false, false, false, false, false, false, false, false, false, false, false, false, false, false] rfl rfl (any_of HT_.out (by kernel_rfl)) (fun _ _ _ h => h) (Or.inl ⟨by rfl, ?_⟩) ?_ ?_
        rotate_left
        ·intro w'
         go_simp
         with_reducible rfl
        rotate_left
        ·simp only [Act.put, q1_, q2_, q3_, i64_w, i32_w]
         rfl
        refine pure_ (i := 3) (N := some 20) (v := ?_) (a' := ?_) #[true, true, true, true, false, false, false, false, false, false, false, false, false, false, false, false, false, false, false, false, false, false, false, false, false] rfl rfl (any_of HT_.out (by kernel_rfl)) (fun _ _ _ h => h) (Or.inl ⟨by rfl, ?_⟩) ?_ ?_
        rotate_left
        ·intro w'
         go_simp
         with_reducible rfl
        rotate_left
        ·simp only [Act.put, q1_, q2_, q3_, i64_w, i32_w]
         rfl
        refine pure_ (i := 5) (N := some 22) (v := ?_) (a' := ?_) #[true, true, true, true, false, true, false, false, false, false, false, false, false, false, false, false, false, false, false, false, false, false, false, false, false] rfl rfl (any_of HT_.out (by kernel_rfl)) (fun _ _ _ h => h) (Or.inl ⟨by rfl, ?_⟩) ?_ ?_
        rotate_left
        ·intro w'
         go_simp
         with_reducible rfl
        rotate_left
        ·simp only [Act.put, q1_, q2_, q3_, i64_w, i32_w]
         rfl
        refine pure_ (i := 6) (N := some 23) (v := ?_) (a' := ?_) #[true, true, true, true, false, true, true, false, false, false, false, false, false, false, false, false, false, false, false, false, false, false, false, false, false] rfl rfl (any_of HT_.out (by kernel_rfl)) (fun _ _ _ h => h) (Or.inl ⟨by rfl, ?_⟩) ?_ ?_
        rotate_left
        ·intro w'
         go_simp
         with_reducible rfl
        rotate_left
        ·simp only [Act.put, q1_, q2_, q3_, i64_w, i32_w]
         rfl
        refine pure_ (i := 7) (N := some 24) (v := ?_) (a' := ?_) #[true, true, true, true, false, true, true, true, false, false, false, false, false, false, false, false, false, false, false, false, false, false, false, false, false] rfl rfl (any_of HT_.out (by kernel_rfl)) (fun _ _ _ h => h) (Or.inl ⟨by rfl, ?_⟩) ?_ ?_
        rotate_left
        ·intro w'
         go_simp
         with_reducible rfl
        rotate_left
        ·simp only [Act.put, q1_, q2_, q3_, i64_w, i32_w]
         rfl
        refine pure_ (i := 8) (N := some 25) (v := ?_) (a' := ?_) #[true, true, true, true, false, true, true, true, true, false, false, false, false, false, false, false, false, false, false, false, false, false, false, false, false] rfl rfl (any_of HT_.out (by kernel_rfl)) (fun _ _ _ h => h) (Or.inl ⟨by rfl, ?_⟩) ?_ ?_
        rotate_left
        ·intro w'
         go_simp
         with_reducible rfl
        rotate_left
        ·simp only [Act.put, q1_, q2_, q3_, i64_w, i32_w]
         rfl
        refine take_ (i := 4) (N := some 21) (v := ?_) (a' := ?_) #[true, true, true, true, true, true, true, true, true, false, false, false, false, false, false, false, false, false, false, false, false, false, false, false, false] rfl rfl (take_ofW HT_.out HW_.out (by kernel_rfl)) (fun _ _ _ h => h) (Or.inl ⟨by rfl, ?_⟩) hHeld ?_ ?_
        rotate_left
        ·rintro w' ⟨s0, s1, s2, s3, s4, s5, s6, s7⟩
         go_simp
         with_reducible rfl
        rotate_left
        ·simp only [Act.put, q1_, q2_, q3_, i64_w, i32_w]
         rfl
        refine take_ (i := 9) (N := some 26) (v := ?_) (a' := ?_) #[true, true, true, true, true, true, true, true, true, true, false, false, false, false, false, false, false, false, false, false, false, false, false, false, false] rfl rfl (take_ofW HT_.out HW_.out (by kernel_rfl)) (fun _ _ _ h => h) (Or.inl ⟨by rfl, ?_⟩) hHeld ?_ ?_
        rotate_left
        ·rintro w' ⟨s0, s1, s2, s3, s4, s5, s6, s7⟩
         go_simp
         with_reducible rfl
        rotate_left
        ·simp only [Act.put, q1_, q2_, q3_, i64_w, i32_w]
         rfl
        refine pure_ (i := 10) (N := some 27) (v := ?_) (a' := ?_) #[true, true, true, true, true, true, true, true, true, true, true, false, false, false, false, false, false, false, false, false, false, false, false, false, false] rfl rfl (any_of HT_.out (by kernel_rfl)) (fun _ _ _ h => h) (Or.inl ⟨by rfl, ?_⟩) ?_ ?_
        rotate_left
        ·intro w'
         go_simp
         with_reducible rfl
        rotate_left
        ·simp only [Act.put, q1_, q2_, q3_, i64_w, i32_w]
         rfl
        refine pure_ (i := 11) (N := some 28) (v := ?_) (a' := ?_) #[true, true, true, true, true, true, true, true, true, true, true, true, false, false, false, false, false, false, false, false, false, false, false, false, false] rfl rfl (any_of HT_.out (by kernel_rfl)) (fun _ _ _ h => h) (Or.inl ⟨by rfl, ?_⟩) ?_ ?_
        rotate_left
        ·intro w'
         go_simp
         with_reducible rfl
        rotate_left
        ·simp only [Act.put, q1_, q2_, q3_, i64_w, i32_w]
         rfl
        refine pure_ (i := 12) (N := some 29) (v := undef) (a' := ?_) #[true, true, true, true, true, true, true, true, true, true, true, true, true, false, false, false, false, false, false, false, false, false, false, false, false] rfl rfl (any_of HT_.out (by kernel_rfl)) (fun _ _ _ h => h) (Or.inr ⟨by rfl, rfl⟩) ?_ ?_
        rotate_left
        ·simp only [Act.put, q1_, q2_, q3_, i64_w, i32_w]
         rfl
        refine pure_ (i := 13) (N := some 30) (v := undef) (a' := ?_) #[true, true, true, true, true, true, true, true, true, true, true, true, true, true, false, false, false, false, false, false, false, false, false, false, false] rfl rfl (any_of HT_.out (by kernel_rfl)) (fun _ _ _ h => h) (Or.inr ⟨by rfl, rfl⟩) ?_ ?_
        rotate_left
        ·simp only [Act.put, q1_, q2_, q3_, i64_w, i32_w]
         rfl
        refine pure_ (i := 14) (N := some 31) (v := undef) (a' := ?_) #[true, true, true, true, true, true, true, true, true, true, true, true, true, true, true, false, false, false, false, false, false, false, false, false, false] rfl rfl (any_of HT_.out (by kernel_rfl)) (fun _ _ _ h => h) (Or.inr ⟨by rfl, rfl⟩) ?_ ?_
        rotate_left
        ·simp only [Act.put, q1_, q2_, q3_, i64_w, i32_w]
         rfl
        refine pure_ (i := 15) (N := some 32) (v := undef) (a' := ?_) #[true, true, true, true, true, true, true, true, true, true, true, true, true, true, true, true, false, false, false, false, false, false, false, false, false] rfl rfl (any_of HT_.out (by kernel_rfl)) (fun _ _ _ h => h) (Or.inr ⟨by rfl, rfl⟩) ?_ ?_
        rotate_left
        ·simp only [Act.put, q1_, q2_, q3_, i64_w, i32_w]
         rfl
        refine pure_ (i := 16) (N := some 33) (v := undef) (a' := ?_) #[true, true, true, true, true, true, true, true, true, true, true, true, true, true, true, true, true, false, false, false, false, false, false, false, false] rfl rfl (any_of HT_.out (by kernel_rfl)) (fun _ _ _ h => h) (Or.inr ⟨by rfl, rfl⟩) ?_ ?_
        rotate_left
        ·simp only [Act.put, q1_, q2_, q3_, i64_w, i32_w]
         rfl
        refine pure_ (i := 17) (N := some 34) (v := undef) (a' := ?_) #[true, true, true, true, true, true, true, true, true, true, true, true, true, true, true, true, true, true, false, false, false, false, false, false, false] rfl rfl (any_of HT_.out (by kernel_rfl)) (fun _ _ _ h => h) (Or.inr ⟨by rfl, rfl⟩) ?_ ?_
        rotate_left
        ·simp only [Act.put, q1_, q2_, q3_, i64_w, i32_w]
         rfl
        refine pure_ (i := 18) (N := some 35) (v := undef) (a' := ?_) #[true, true, true, true, true, true, true, true, true, true, true, true, true, true, true, true, true, true, true, false, false, false, false, false, false] rfl rfl (any_of HT_.out (by kernel_rfl)) (fun _ _ _ h => h) (Or.inr ⟨by rfl, rfl⟩) ?_ ?_
        rotate_left
        ·simp only [Act.put, q1_, q2_, q3_, i64_w, i32_w]
         rfl
        refine pure_ (i := 19) (N := some 36) (v := undef) (a' := ?_) #[true, true, true, true, true, true, true, true, true, true, true, true, true, true, true, true, true, true, true, true, false, false, false, false, false] rfl rfl (any_of HT_.out (by kernel_rfl)) (fun _ _ _ h => h) (Or.inr ⟨by rfl, rfl⟩) ?_ ?_
        rotate_left
        ·simp only [Act.put, q1_, q2_, q3_, i64_w, i32_w]
         rfl
        refine pure_ (i := 20) (N := some 37) (v := undef) (a' := ?_) #[true, true, true, true, true, true, true, true, true, true, true, true, true, true, true, true, true, true, true, true, true, false, false, false, false] rfl rfl (any_of HT_.out (by kernel_rfl)) (fun _ _ _ h => h) (Or.inr ⟨by rfl, rfl⟩) ?_ ?_
        rotate_left
        ·simp only [Act.put, q1_, q2_, q3_, i64_w, i32_w]
         rfl
        refine pure_ (i := 21) (N := some 38) (v := undef) (a' := ?_) #[true, true, true, true, true, true, true, true, true, true, true, true, true, true, true, true, true, true, true, true, true, true, false, false, false] rfl rfl (any_of HT_.out (by kernel_rfl)) (fun _ _ _ h => h) (Or.inr ⟨by rfl, rfl⟩) ?_ ?_
        rotate_left
        ·simp only [Act.put, q1_, q2_, q3_, i64_w, i32_w]
         rfl
        refine pure_ (i := 22) (N := some 39) (v := undef) (a' := ?_) #[true, true, true, true, true, true, true, true, true, true, true, true, true, true, true, true, true, true, true, true, true, true, true, false, false] rfl rfl (any_of HT_.out (by kernel_rfl)) (fun _ _ _ h => h) (Or.inr ⟨by rfl, rfl⟩) ?_ ?_
        rotate_left
        ·simp only [Act.put, q1_, q2_, q3_, i64_w, i32_w]
         rfl
        refine pure_ (i := 23) (N := some 40) (v := undef) (a' := ?_) #[true, true, true, true, true, true, true, true, true, true, true, true, true, true, true, true, true, true, true, true, true, true, true, true, false] rfl rfl (any_of HT_.out (by kernel_rfl)) (fun _ _ _ h => h) (Or.inr ⟨by rfl, rfl⟩) ?_ ?_
        rotate_left
        ·simp only [Act.put, q1_, q2_, q3_, i64_w, i32_w]
         rfl
        refine pure_ (i := 24) (N := some 41) (v := ?_) (a' := ?_) #[true, true, true, true, true, true, true, true, true, true, true, true, true, true, true, true, true, true, true, true, true, true, true, true, true] rfl rfl (any_of HT_.out (by kernel_rfl)) (fun _ _ _ h => h) (Or.inl ⟨by rfl, ?_⟩) ?_ ?_
        rotate_left
        ·intro w'
         go_simp
         with_reducible rfl
        rotate_left
        ·simp only [Act.put, q1_, q2_, q3_, i64_w, i32_w]
         rfl
        refine done_ (done_of HT_.out (by kernel_rfl)) ?_
        try go_wp2
        go_ret
        exact ⟨by first | rfl | (simp [errW_none, errW_some] <;> rfl) | (simp [*, errW_none, errW_some] <;> rfl), by repeat (first | (with_reducible first | exact HB.out | apply below_alloc | apply pw_below_drewN | apply below_drew1) | exact HB.out)⟩
      ·rw [if_neg c6] at H
       exact absurd H (by simp)
     ·rw [if_neg c5] at H
      exact absurd H (by simp)
    ·rw [if_neg c4] at H
     have c4b0 : decide (x5_1 < (l0.length : Int)) = false := decide_eq_false c4
     clear c4
     obtain rfl := Option.some.inj H
     go_wp2
     go_ret
     exact ⟨by first | rfl | (simp [errW_none, errW_some] <;> rfl) | (simp [*, errW_none, errW_some] <;> rfl), by repeat (first | (with_reducible first | exact HB.out | apply below_alloc | apply pw_below_drewN | apply below_drew1) | exact HB.out)⟩
 ·rw [if_neg c3] at H
  have c3b0 : ((l0.length : Int) == (l1.length : Int)) = false := beq_eq_false_iff_ne.mpr c3
  have c3b1 : ((l0.length : Int) != (l1.length : Int)) = true := bne_iff_ne.mpr c3
  have c3b2 : (l0.length == l1.length) = false := by first | simpa using c3 | (simp at c3 ⊢; omega)
  obtain rfl := Option.some.inj H
  go_enter Try.func18, Try.ntmps18
  go_wp2
  go_ret
  exact ⟨by first | rfl | (simp [errW_none, errW_some] <;> rfl) | (simp [*, errW_none, errW_some] <;> rfl), by repeat (first | (with_reducible first | exact HB.out | apply below_alloc | apply pw_below_drewN | apply below_drew1) | exact HB.out)⟩
end Go.Proofs.Ytfeeahjaeapkoaa.P
end

section
namespace Go.Proofs.Ytfeeahjaeapkoaa.P
open Go.RowKit Go.Proofs.YtfeeahjaeapkoaaW.PrintWords Go.Proofs.YtfeeahjaeapkoaaW.PrintLast Go.Proofs.YtfeeahjaeapkoaaW.PrintMore
attribute [local go_sem] max2_int min2_int max_two min_two max_three min_three max_four min_four   -- for this text's walks alone
set_option linter.unusedVariables false
set_option linter.unusedSimpArgs false
open Go.Proofs.Ytfeeahjaeapkoaa.Ext (q1_ q2_ q3_ bk_ bw_ sz_ ne_ bx_)
attribute [local go_sem high] Go.Proofs.Ytfeeahjaeapkoaa.Ext.gtr_str Go.Proofs.Ytfeeahjaeapkoaa.Ext.leq_str Go.Proofs.Ytfeeahjaeapkoaa.Ext.geq_str
def gristmillref04_Put.l0 : Nat → List (S40) → Int → Int → Int → List ByteArray → List Int → Option ((List (S40)))
 | 0, _, _, _, _, _, _ => none
 | k + 1, x0, x2, x7, x183000, x183001, x183002 => if x7 < (x0.length : Int) then (if 0 ≤ x7 then ((gristmillref04_Compare.f k ((rd_T40 x0 x7).f0.f0) ((rd_T40 x0 x7).f0.f1) ((rd_T40 x0 x7).f0.f2) x183000 x183001 x183002).bind fun t184 => (if t184 < 0 then (gristmillref04_Put.l0 k x0 x2 (wrap64 (x7 + 1)) x183000 x183001 x183002) else (if x7 ≤ (x0.length : Int) then ((some (x0.take (x7 : Int).toNat : List (S40))).bind fun y185 => (if ([] : List (S40)).length + y185.length < 2199023255552 then ((some (([] : List (S40)) ++ y185 : List (S40))).bind fun y190 => ((gristmillref04_Compare.f k ((rd_T40 x0 x7).f0.f0) ((rd_T40 x0 x7).f0.f1) ((rd_T40 x0 x7).f0.f2) x183000 x183001 x183002).bind fun t194 => (if t194 = 0 then (if y190.length < 2199023255552 then ((some (y190 ++ [(⟨(⟨x183000, x183001, x183002⟩ : S27), IntKind.u64.wrap (((rd_T40 x0 x7).f1) + x2)⟩ : S40)] : List (S40))).bind fun y196 => (if 0 ≤ (wrap64 (x7 + 1)) then (if (wrap64 (x7 + 1)) ≤ (x0.length : Int) then ((some (x0.drop ((wrap64 (x7 + 1)) : Int).toNat : List (S40))).bind fun y199 => (if y196.length + y199.length < 2199023255552 then (some (y196 ++ y199)) else (none))) else (none)) else (none))) else (none)) else (if y190.length < 2199023255552 then ((some (y190 ++ [(⟨(⟨x183000, x183001, x183002⟩ : S27), x2⟩ : S40)] : List (S40))).bind fun y207 => ((some (x0.drop (x7 : Int).toNat : List (S40))).bind fun y210 => (if y207.length + y210.length < 2199023255552 then (some (y207 ++ y210)) else (none)))) else (none))))) else (none))) else (none)))) else (none)) else (if 0 ≤ x7 then (if x7 ≤ (x0.length : Int) then ((some (x0.take (x7 : Int).toNat : List (S40))).bind fun y218 => (if ([] : List (S40)).length + y218.length < 2199023255552 then ((some (([] : List (S40)) ++ y218 : List (S40))).bind fun y223 => (if y223.length < 2199023255552 then ((some (y223 ++ [(⟨(⟨x183000, x183001, x183002⟩ : S27), x2⟩ : S40)] : List (S40))).bind fun y226 => ((some (x0.drop (x7 : Int).toNat : List (S40))).bind fun y229 => (if y226.length + y229.length < 2199023255552 then (some (y226 ++ y229)) else (none)))) else (none))) else (none))) else (none)) else (none))
def gristmillref04_Put.f (k : Nat) (l0 : List (S40)) (a1_0 : Int) (l1_1 : List ByteArray) (l1_2 : List Int) (a2 : Int) : Option ((List (S40))) := gristmillref04_Put.l0 k l0 a2 0 a1_0 l1_1 l1_2
def gristmillref04_Put.T2 : Bool × List (List Nat × List Nat) := (true, [([], []), ([], []), ([1], [1]), ([0, 2], [0, 2]), ([3], [3]), ([4], [4]), ([4], [4]), ([5, 6, 4], [4, 5, 6]), ([7, 4], [4, 7]), ([8, 4], [4, 8]), ([4], [4]), ([9, 10, 4, 4], [4, 9, 10]), ([11, 4], [4, 11]), ([4, 12], [4, 12])])
def gristmillref04_Put.B2 : List Nat := [0, 0, 2, 7, 15, 31, 31, 127, 255, 511, 31, 2047, 4095, 8191]
theorem gristmillref04_Put.tab2 : rtab .any (opsOf Try.f38 2) = gristmillref04_Put.T2 := by kernel_rfl
theorem gristmillref04_Put.bits2 : waitsOk gristmillref04_Put.T2.2 gristmillref04_Put.B2 = true := by kernel_rfl
def gristmillref04_Put.T6 : Bool × List (List Nat × List Nat) := (true, [([], []), ([], []), ([1], [1]), ([0, 2], [0, 2]), ([3], [3]), ([4], [4]), ([4], [4]), ([5, 6, 4], [4, 5, 6]), ([7, 4], [4, 7]), ([8, 4], [4, 8]), ([4], [4]), ([9, 10, 4, 4], [4, 9, 10]), ([11, 4], [4, 11]), ([4, 12], [4, 12])])
def gristmillref04_Put.B6 : List Nat := [0, 0, 2, 7, 15, 31, 31, 127, 255, 511, 31, 2047, 4095, 8191]
theorem gristmillref04_Put.tab6 : rtab .any (opsOf Try.f38 6) = gristmillref04_Put.T6 := by kernel_rfl
theorem gristmillref04_Put.bits6 : waitsOk gristmillref04_Put.T6.2 gristmillref04_Put.B6 = true := by kernel_rfl
def gristmillref04_Put.T7 : Bool × List (List Nat × List Nat) := (true, [([], []), ([], []), ([], []), ([], []), ([2, 3], [2, 3]), ([4], [4]), ([5], [5]), ([], []), ([6, 7], [6, 7]), ([1, 8], [1, 8]), ([9], [9]), ([0, 10], [0, 10]), ([11, 11, 0, 1, 2, 3, 4, 5, 6, 7, 8, 9, 10, 11], [0, 11])])
def gristmillref04_Put.B7 : List Nat := [0, 0, 0, 0, 12, 28, 60, 0, 252, 510, 1022, 2047, 4095]
theorem gristmillref04_Put.tab7 : rtab .any (opsOf Try.f38 7) = gristmillref04_Put.T7 := by kernel_rfl
theorem gristmillref04_Put.bits7 : waitsOk gristmillref04_Put.T7.2 gristmillref04_Put.B7 = true := by kernel_rfl
set_option maxHeartbeats 8000000 in
set_option maxRecDepth 100000 in
theorem gristmillref04_Put.calls (k : Nat) (P0_ : Nat → Prop) (A0 : Option Addr) (c0 : Nat) (l0 : List (S40)) (a1_0 : Int) (P1_1_ : Nat → Prop) (A1_1 : Option Addr) (c1_1 : Nat) (l1_1 : List ByteArray) (P1_2_ : Nat → Prop) (A1_2 : Option Addr) (c1_2 : Nat) (l1_2 : List Int) (a2 : Int) (r : List (S40)) (w : World) (hs0 : Kd.V k40 40 w w.heap.size (fun k_ => P0_ k_) (.slice A0 l0.length c0) l0) (hs1_1 : Kd.V Kd.string 9 w w.heap.size (fun k_ => P1_1_ k_) (.slice A1_1 l1_1.length c1_1) l1_1) (hs1_2 : Kd.V (Kd.int .i64) 2 w w.heap.size (fun k_ => P1_2_ k_) (.slice A1_2 l1_2.length c1_2) l1_2) (h : gristmillref04_Put.f k l0 a1_0 l1_1 l1_2 a2 = some r) :
  Calls Try.prog 38 #[.slice A0 l0.length c0, .agg #[.int .i64 a1_0, .slice A1_1 l1_1.length c1_1, .slice A1_2 l1_2.length c1_2], .int .u64 a2] w fun e w' => ∃ v0_ : Value, e = .returned (v0_) ∧ Kd.N k40 40 w' w.heap.size (fun k_ => ((P0_ k_ ∨ P1_1_ k_ ∨ P1_2_ k_) ∨ w.heap.size ≤ k_)) v0_ r ∧ Below w.heap.size w w' := by
 have hu27 := Try.underlying27
 have hu40 := Try.underlying40
 have HO0 := Aside0.mk (show Kd.V k40 40 w w.heap.size (fun k_ => ((P0_ k_ ∨ P1_1_ k_ ∨ P1_2_ k_) ∨ w.heap.size ≤ k_)) (.slice A0 l0.length c0) l0 from Kd.V_mono hs0 (fun k_ hk => .inl (.inl hk)))
 have HO1_1 := Aside0.mk (show Kd.V Kd.string 9 w w.heap.size (fun k_ => ((P0_ k_ ∨ P1_1_ k_ ∨ P1_2_ k_) ∨ w.heap.size ≤ k_)) (.slice A1_1 l1_1.length c1_1) l1_1 from Kd.V_mono hs1_1 (fun k_ hk => .inl (.inr (.inl hk))))
 have HO1_2 := Aside0.mk (show Kd.V (Kd.int .i64) 2 w w.heap.size (fun k_ => ((P0_ k_ ∨ P1_1_ k_ ∨ P1_2_ k_) ∨ w.heap.size ≤ k_)) (.slice A1_2 l1_2.length c1_2) l1_2 from Kd.V_mono hs1_2 (fun k_ hk => .inl (.inr (.inr hk))))
 have HB := Aside0.mk (Below.refl w.heap.size w)
 have H : (gristmillref04_Put.l0 k l0 a2 0 a1_0 l1_1 l1_2) = some r := h
 clear h
 have H' := Aside0.mk H
 clear H
 go_enter Try.func38, Try.ntmps38
 go_wp2_with (first | ((with_reducible refine gate_dst (N := 4) rfl ?_); refine bx_ (N := 4) (cs := #[.int .i64 a1_0, .slice A1_1 l1_1.length c1_1, .slice A1_2 l1_2.length c1_2]) (t := 27) ?_; intro gb182 hg w4 hbox hb; have n0_ := Aside0.mk (Kd.V_below (Kd.V_elderB (by (with_reducible repeat (first | apply Kd.V_alloc | apply Kd.V_drewN | apply Kd.V_drew)); exact HO0.out) gb182 (Nat.le_of_eq hg.symm)) hb); have n1_ := Aside0.mk (Kd.V_below (Kd.V_elderB (by (with_reducible repeat (first | apply Kd.V_alloc | apply Kd.V_drewN | apply Kd.V_drew)); exact HO1_1.out) gb182 (Nat.le_of_eq hg.symm)) hb); have n2_ := Aside0.mk (Kd.V_below (Kd.V_elderB (by (with_reducible repeat (first | apply Kd.V_alloc | apply Kd.V_drewN | apply Kd.V_drew)); exact HO1_2.out) gb182 (Nat.le_of_eq hg.symm)) hb); have n3_ := Aside0.mk (below_step (bw_ HB.out) hb); have n4_ := Aside0.mk (hbox); have n5_ := Aside0.mk (sz_ hg (bw_ HB.out)); have n6_ := n5_; clear HO0 HO1_1 HO1_2 HB; have HO0 := n0_; have HO1_1 := n1_; have HO1_2 := n2_; have HB := n3_; have BK182 := n4_; have GW182 := n5_; have GE182 := n6_; clear n0_ n1_ n2_ n3_ n4_ n5_ n6_; clear hb hbox hg))
 go_loopg [7] k (fun kq v7 w' => ∃ (x7_1 : Int), v7 = .int .i64 x7_1 ∧ Aside0 (gristmillref04_Put.l0 kq l0 a2 x7_1 a1_0 l1_1 l1_2 = some r) ∧ Aside0 (kq ≤ k) ∧ Aside0 (Kd.V k40 40 w' w.heap.size (fun k_ => ((P0_ k_ ∨ P1_1_ k_ ∨ P1_2_ k_) ∨ w.heap.size ≤ k_) ∧ k_ ≠ gb182) (.slice A0 l0.length c0) l0) ∧ Aside0 (Kd.V Kd.string 9 w' w.heap.size (fun k_ => ((P0_ k_ ∨ P1_1_ k_ ∨ P1_2_ k_) ∨ w.heap.size ≤ k_) ∧ k_ ≠ gb182) (.slice A1_1 l1_1.length c1_1) l1_1) ∧ Aside0 (Kd.V (Kd.int .i64) 2 w' w.heap.size (fun k_ => ((P0_ k_ ∨ P1_1_ k_ ∨ P1_2_ k_) ∨ w.heap.size ≤ k_) ∧ k_ ≠ gb182) (.slice A1_2 l1_2.length c1_2) l1_2) ∧ Aside0 (w'.heap[gb182]? = some (.cells #[.int .i64 a1_0, (.slice A1_1 l1_1.length c1_1), (.slice A1_2 l1_2.length c1_2)] 27 (0, 0))) ∧ Aside0 (Below w.heap.size w w'))
 case atStart => exact ⟨(0), (by first | rfl | (simp; done) | (simp [*]; done)), H', ⟨Nat.le_refl _⟩, ⟨by (with_reducible repeat (first | apply Kd.V_alloc | apply Kd.V_drewN | apply Kd.V_drew)); exact HO0.out⟩, ⟨by (with_reducible repeat (first | apply Kd.V_alloc | apply Kd.V_drewN | apply Kd.V_drew)); exact HO1_1.out⟩, ⟨by (with_reducible repeat (first | apply Kd.V_alloc | apply Kd.V_drewN | apply Kd.V_drew)); exact HO1_2.out⟩, ⟨by (with_reducible repeat (first | refine blk_drewN ?_ _ | refine blk_drew ?_ | refine blk_alloc ?_ _)); exact BK182.out⟩, ⟨by repeat (first | (with_reducible first | exact HB.out | apply below_alloc | apply pw_below_drewN | apply below_drew1 | refine below_set ?_ GE182.out) | exact HB.out)⟩⟩
 case round =>
  clear H'
  try clear c1
  try clear p2
  try clear c3
  obtain ⟨x7_1, rfl, HA, HK1, HO_0, HO_183001, HO_183002, BK182, HB⟩ := hrel
  cases gk with
  | zero => exact absurd HA.out (by simp [gristmillref04_Put.l0])
  | succ k1 =>
   have H := HA.out
   clear HA
   simp only [gristmillref04_Put.l0] at H
   by_cases c5 : x7_1 < (l0.length : Int)
   ·rw [if_pos c5] at H
    have c5b0 : decide (x7_1 < (l0.length : Int)) = true := decide_eq_true c5
    clear c5
    by_cases c6 : 0 ≤ x7_1
    ·rw [if_pos c6] at H
     have c6b0 : decide (0 ≤ x7_1) = true := decide_eq_true c6
     clear c6
     replace H := Option.bind_eq_some_iff.mp H
     obtain ⟨t184, A70, H⟩ := H
     replace H : (if t184 < 0 then (gristmillref04_Put.l0 k1 l0 a2 (wrap64 (x7_1 + 1)) a1_0 l1_1 l1_2) else (if x7_1 ≤ (l0.length : Int) then ((some (l0.take (x7_1 : Int).toNat : List (S40))).bind fun y185 => (if ([] : List (S40)).length + y185.length < 2199023255552 then ((some (([] : List (S40)) ++ y185 : List (S40))).bind fun y190 => ((gristmillref04_Compare.f k1 ((rd_T40 l0 x7_1).f0.f0) ((rd_T40 l0 x7_1).f0.f1) ((rd_T40 l0 x7_1).f0.f2) a1_0 l1_1 l1_2).bind fun t194 => (if t194 = 0 then (if y190.length < 2199023255552 then ((some (y190 ++ [(⟨(⟨a1_0, l1_1, l1_2⟩ : S27), IntKind.u64.wrap (((rd_T40 l0 x7_1).f1) + a2)⟩ : S40)] : List (S40))).bind fun y196 => (if 0 ≤ (wrap64 (x7_1 + 1)) then (if (wrap64 (x7_1 + 1)) ≤ (l0.length : Int) then ((some (l0.drop ((wrap64 (x7_1 + 1)) : Int).toNat : List (S40))).bind fun y199 => (if y196.length + y199.length < 2199023255552 then (some (y196 ++ y199)) else (none))) else (none)) else (none))) else (none)) else (if y190.length < 2199023255552 then ((some (y190 ++ [(⟨(⟨a1_0, l1_1, l1_2⟩ : S27), a2⟩ : S40)] : List (S40))).bind fun y207 => ((some (l0.drop (x7_1 : Int).toNat : List (S40))).bind fun y210 => (if y207.length + y210.length < 2199023255552 then (some (y207 ++ y210)) else (none)))) else (none))))) else (none))) else (none))) = some r := H
     have A7 := Aside0.mk A70
     clear A70
     by_cases c8 : t184 < 0
     ·rw [if_pos c8] at H
      have c8b0 : decide (t184 < 0) = true := decide_eq_true c8
      clear c8
      have H' := Aside0.mk H
      clear H
      try go_wp2
      have n0_ := Aside0.mk (Kd.V_drew HO_0.out)
      have n1_ := Aside0.mk (Kd.V_drew HO_183001.out)
      have n2_ := Aside0.mk (Kd.V_drew HO_183002.out)
      have n3_ := Aside0.mk (blk_drew BK182.out)
      have n4_ := Aside0.mk (below_drew1 HB.out)
      clear HO_0
      clear HO_183001
      clear HO_183002
      clear BK182
      clear HB
      have HO_0 := n0_
      have HO_183001 := n1_
      have HO_183002 := n2_
      have BK182 := n3_
      have HB := n4_
      clear n0_ n1_ n2_ n3_ n4_
      have p183 : 0 ≤ (x7_1 : Int) := of_decide_eq_true (by assumption)
      have q183 : x7_1 < (l0.length : Int) := of_decide_eq_true (by assumption)
      obtain ⟨ad183, A183_1, c183_1, A183_2, c183_2, e183, hx183_0, hx183_1, hx183_2, hx183_3, hl183_1, hi183_1, hl183_2, hi183_2⟩ := at_T40 (Kd.V_reads' HO_0.out).2.2 x7_1 p183 q183
      cases e183
      obtain ⟨ce183, hce183, hMe183, hcc183⟩ := Kd.V_get HO_0.out z40 x7_1 p183 (by first | exact q183 | exact of_decide_eq_true (by assumption) | (have e_ := (Kd.V_reads' HO_0.out).1; omega))
      obtain ⟨ua183_1, uc183_1, ua183_2, uc183_2, rfl, ul183_1, ge183_1, ul183_2, ge183_2⟩ := k40_openF hMe183
      have hv183_1 := hcc183 1 _ rfl
      rw [add_field _ _ 1 (by omega)] at hv183_1
      replace hv183_1 := Option.some.inj (hv183_1.symm.trans hx183_1)
      injection hv183_1 with hva_ hvn_ hvc_
      rw [hva_] at ge183_1
      rw [hvc_] at ul183_1
      have HL183_1 := Aside0.mk (show Kd.V Kd.string 9 _ w.heap.size _ _ ((rd_T40 l0 x7_1).f0.f1) from Kd.V_mk ul183_1 ge183_1)
      clear hva_ hvn_ hvc_ ge183_1 ul183_1
      have hv183_2 := hcc183 2 _ rfl
      rw [add_field _ _ 2 (by omega)] at hv183_2
      replace hv183_2 := Option.some.inj (hv183_2.symm.trans hx183_2)
      injection hv183_2 with hva_ hvn_ hvc_
      rw [hva_] at ge183_2
      rw [hvc_] at ul183_2
      have HL183_2 := Aside0.mk (show Kd.V (Kd.int .i64) 2 _ w.heap.size _ _ ((rd_T40 l0 x7_1).f0.f2) from Kd.V_mk ul183_2 ge183_2)
      clear hva_ hvn_ hvc_ ge183_2 ul183_2
      clear hcc183 hce183
      have HR183_1 := Aside0.mk hi183_1
      have HC183_1 := Aside0.mk hl183_1
      clear hi183_1 hl183_1
      have HR183_2 := Aside0.mk hi183_2
      have HC183_2 := Aside0.mk hl183_2
      clear hi183_2 hl183_2
      replace p183 := eq_true p183
      replace q183 := eq_true q183
      refine start_ (n := 14) (S := fun w' => w'.cell? ⟨gb182, 0, none⟩ = some (.int .i64 a1_0) ∧ w'.cell? ⟨gb182, 1, none⟩ = some (.slice A1_1 l1_1.length c1_1) ∧ w'.cell? ⟨gb182, 2, none⟩ = some (.slice A1_2 l1_2.length c1_2) ∧ w'.cell? (ad183.add ((x7_1).toNat * 4)) = some (.int .i64 ((rd_T40 l0 x7_1).f0.f0)) ∧ w'.cell? ⟨(ad183.add ((x7_1).toNat * 4)).block, (ad183.add ((x7_1).toNat * 4)).off + 1, none⟩ = some (.slice A183_1 ((rd_T40 l0 x7_1).f0.f1).length c183_1) ∧ w'.cell? ⟨(ad183.add ((x7_1).toNat * 4)).block, (ad183.add ((x7_1).toNat * 4)).off + 2, none⟩ = some (.slice A183_2 ((rd_T40 l0 x7_1).f0.f2).length c183_2) ∧ w'.cell? ⟨(ad183.add ((x7_1).toNat * 4)).block, (ad183.add ((x7_1).toNat * 4)).off + 3, none⟩ = some (.int .u64 ((rd_T40 l0 x7_1).f1))) (ds := []) #[false, false, false, false, false, false, false, false, false, false, false, false, false, false] (by kernel_rfl) rfl rfl ⟨(blk_cell BK182.out 0).trans rfl, (blk_cell BK182.out 1).trans rfl, (blk_cell BK182.out 2).trans rfl, hx183_0, hx183_1, hx183_2, hx183_3⟩ (fun hHeld => ?_); refine with_tabW gristmillref04_Put.tab2 gristmillref04_Put.bits2 (fun HT_ HW_ => ?_)
      generalize wr.drew = w9 at HO_0 HO_183001 HO_183002 BK182 HB HL183_1 HL183_2 HR183_1 HR183_2 hx183_0 hx183_1 hx183_2 hx183_3 hHeld ⊢
      refine pure_ (i := 0) (N := some 9) (v := ?_) (a' := ?_) #[true, false, false, false, false, false, false, false, false, false, false, false, false, false] rfl rfl (any_of HT_.out (by kernel_rfl)) (fun _ _ _ h => h) (Or.inl ⟨by rfl, ?_⟩) ?_ ?_
      rotate_left
      ·intro w'
       go_simp
       with_reducible rfl
      rotate_left
      ·simp only [Act.put, q1_, q2_, q3_, i64_w, i32_w]
       rfl
      refine pure_ (i := 1) (N := some 10) (v := ?_) (a' := ?_) #[true, true, false, false, false, false, false, false, false, false, false, false, false, false] rfl rfl (any_of HT_.out (by kernel_rfl)) (fun _ _ _ h => h) (Or.inl ⟨by rfl, ?_⟩) ?_ ?_
      rotate_left
      ·intro w'
       go_simp
       with_reducible rfl
      rotate_left
      ·simp only [Act.put, q1_, q2_, q3_, i64_w, i32_w]
       rfl
      refine pure_ (i := 2) (N := some 11) (v := ?_) (a' := ?_) #[true, true, true, false, false, false, false, false, false, false, false, false, false, false] rfl rfl (any_of HT_.out (by kernel_rfl)) (fun _ _ _ h => h) (Or.inl ⟨by rfl, ?_⟩) ?_ ?_
      rotate_left
      ·intro w'
       go_simp
       with_reducible rfl
      rotate_left
      ·simp only [Act.put, q1_, q2_, q3_, i64_w, i32_w]
       rfl
      refine pure_ (i := 3) (N := some 12) (v := ?_) (a' := ?_) #[true, true, true, true, false, false, false, false, false, false, false, false, false, false] rfl rfl (any_of HT_.out (by kernel_rfl)) (fun _ _ _ h => h) (Or.inl ⟨by rfl, ?_⟩) ?_ ?_
      rotate_left
      ·intro w'
       go_simp
       with_reducible rfl
      rotate_left
      ·simp only [Act.put, q1_, q2_, q3_, i64_w, i32_w]
       rfl
      refine pure_ (i := 4) (N := some 13) (v := ?_) (a' := ?_) #[true, true, true, true, true, false, false, false, false, false, false, false, false, false] rfl rfl (any_of HT_.out (by kernel_rfl)) (fun _ _ _ h => h) (Or.inl ⟨by rfl, ?_⟩) ?_ ?_
      rotate_left
      ·intro w'
       go_simp
       with_reducible rfl
      rotate_left
      ·simp only [Act.put, q1_, q2_, q3_, i64_w, i32_w]
       rfl
      refine pure_ (i := 5) (N := some 14) (v := ?_) (a' := ?_) #[true, true, true, true, true, true, false, false, false, false, false, false, false, false] rfl rfl (any_of HT_.out (by kernel_rfl)) (fun _ _ _ h => h) (Or.inl ⟨by rfl, ?_⟩) ?_ ?_
      rotate_left
      ·intro w'
       go_simp
       with_reducible rfl
      rotate_left
      ·simp only [Act.put, q1_, q2_, q3_, i64_w, i32_w]
       rfl
      refine pure_ (i := 6) (N := some 15) (v := ?_) (a' := ?_) #[true, true, true, true, true, true, true, false, false, false, false, false, false, false] rfl rfl (any_of HT_.out (by kernel_rfl)) (fun _ _ _ h => h) (Or.inl ⟨by rfl, ?_⟩) ?_ ?_
      rotate_left
      ·intro w'
       go_simp
       with_reducible rfl
      rotate_left
      ·simp only [Act.put, q1_, q2_, q3_, i64_w, i32_w]
       rfl
      refine pure_ (i := 7) (N := some 16) (v := ?_) (a' := ?_) #[true, true, true, true, true, true, true, true, false, false, false, false, false, false] rfl rfl (any_of HT_.out (by kernel_rfl)) (fun _ _ _ h => h) (Or.inl ⟨by rfl, ?_⟩) ?_ ?_
      rotate_left
      ·intro w'
       go_simp
       with_reducible rfl
      rotate_left
      ·simp only [Act.put, q1_, q2_, q3_, i64_w, i32_w]
       rfl
      refine pure_ (i := 8) (N := some 17) (v := ?_) (a' := ?_) #[true, true, true, true, true, true, true, true, true, false, false, false, false, false] rfl rfl (any_of HT_.out (by kernel_rfl)) (fun _ _ _ h => h) (Or.inl ⟨by rfl, ?_⟩) ?_ ?_
      rotate_left
      ·intro w'
       go_simp
       with_reducible rfl
      rotate_left
      ·simp only [Act.put, q1_, q2_, q3_, i64_w, i32_w]
       rfl
      refine take_ (i := 9) (N := some 18) (v := ?_) (a' := ?_) #[true, true, true, true, true, true, true, true, true, true, false, false, false, false] rfl rfl (take_ofW HT_.out HW_.out (by kernel_rfl)) (fun _ _ _ h => h) (Or.inl ⟨by rfl, ?_⟩) hHeld ?_ ?_
      rotate_left
      ·rintro w' ⟨s0, s1, s2, s3, s4, s5, s6⟩
       go_simp
       with_reducible rfl
      rotate_left
      ·simp only [Act.put, q1_, q2_, q3_, i64_w, i32_w]
       rfl
      refine take_ (i := 10) (N := some 19) (v := ?_) (a' := ?_) #[true, true, true, true, true, true, true, true, true, true, true, false, false, false] rfl rfl (take_ofW HT_.out HW_.out (by kernel_rfl)) (fun _ _ _ h => h) (Or.inl ⟨by rfl, ?_⟩) hHeld ?_ ?_
      rotate_left
      ·rintro w' ⟨s0, s1, s2, s3, s4, s5, s6⟩
       go_simp
       with_reducible rfl
      rotate_left
      ·simp only [Act.put, q1_, q2_, q3_, i64_w, i32_w]
       rfl
      refine one_ (i := 11) (N := some 20) #[true, true, true, true, true, true, true, true, true, true, true, true, false, false] rfl rfl (one_of HT_.out (by kernel_rfl)) (by decide) (fun K hK => ?_)
      refine goes_ Try.func15 (by kernel_rfl) rfl #[.agg #[.int .i64 ((rd_T40 l0 x7_1).f0.f0), .slice A183_1 ((rd_T40 l0 x7_1).f0.f1).length c183_1, .slice A183_2 ((rd_T40 l0 x7_1).f0.f2).length c183_2], .agg #[.int .i64 a1_0, .slice A1_1 l1_1.length c1_1, .slice A1_2 l1_2.length c1_2]] (by rfl) rfl rfl (by (try simp only [List.map_toArray, List.map_cons, List.map_nil]); first | done | rfl | (simp only [List.length_drop, List.length_take]; rfl)) ?_
      with_reducible refine (gristmillref04_Compare.calls k1 ((rd_T40 l0 x7_1).f0.f0) _ _ ((rd_T40 l0 x7_1).f0.f1) _ _ ((rd_T40 l0 x7_1).f0.f2) a1_0 _ _ l1_1 _ _ l1_2 t184 _ ?side1 ?side2 ?side3 ?side4 ?side5 ?side6 ?side7 ?side8 A7.out).mono ?_
      (case side1 => repeat (first | exact (by repeat (first | (with_reducible exact HR183_1.out) | (with_reducible refine Kd.C_alloc ?_ _) | (with_reducible refine Kd.C_drewN ?_ _) | (with_reducible refine Kd.C_drew ?_) | exact HR183_1.out)) | (with_reducible refine Kd.C_alloc ?_ _) | (with_reducible refine Kd.C_drewN ?_ _) | (with_reducible refine Kd.C_drew ?_)))
      (case side2 => exact HC183_1.out)
      (case side3 => repeat (first | exact (by repeat (first | (with_reducible exact HR183_2.out) | (with_reducible refine Kd.C_alloc ?_ _) | (with_reducible refine Kd.C_drewN ?_ _) | (with_reducible refine Kd.C_drew ?_) | exact HR183_2.out)) | (with_reducible refine Kd.C_alloc ?_ _) | (with_reducible refine Kd.C_drewN ?_ _) | (with_reducible refine Kd.C_drew ?_)))
      (case side4 => exact HC183_2.out)
      (case side5 => repeat (first | exact (Kd.V_reads' HO_183001.out).2.2 | (with_reducible refine Kd.C_alloc ?_ _) | (with_reducible refine Kd.C_drewN ?_ _) | (with_reducible refine Kd.C_drew ?_)))
      (case side6 => exact (Kd.V_reads' HO_183001.out).2.1)
      (case side7 => repeat (first | exact (Kd.V_reads' HO_183002.out).2.2 | (with_reducible refine Kd.C_alloc ?_ _) | (with_reducible refine Kd.C_drewN ?_ _) | (with_reducible refine Kd.C_drew ?_)))
      (case side8 => exact (Kd.V_reads' HO_183002.out).2.1)
      rintro e w10 ⟨rfl, hb⟩
      have HS3_ := (hb.cell (World.block_lt_of_cell? _ _ (hHeld.2.2.2.1))).trans (hHeld.2.2.2.1)
      have HS4_ := (hb.cell (World.block_lt_of_cell? _ _ (hHeld.2.2.2.2.1))).trans (hHeld.2.2.2.2.1)
      have HS5_ := (hb.cell (World.block_lt_of_cell? _ _ (hHeld.2.2.2.2.2.1))).trans (hHeld.2.2.2.2.2.1)
      have HS6_ := (hb.cell (World.block_lt_of_cell? _ _ (hHeld.2.2.2.2.2.2))).trans (hHeld.2.2.2.2.2.2)
      refine ⟨_, rfl, ?_⟩
      have n0_ := Aside0.mk (Kd.V_below (by (with_reducible repeat (first | apply Kd.V_alloc | apply Kd.V_drewN | apply Kd.V_drew)); exact HO_0.out) hb)
      have n1_ := Aside0.mk (Kd.V_below (by (with_reducible repeat (first | apply Kd.V_alloc | apply Kd.V_drewN | apply Kd.V_drew)); exact HO_183001.out) hb)
      have n2_ := Aside0.mk (Kd.V_below (by (with_reducible repeat (first | apply Kd.V_alloc | apply Kd.V_drewN | apply Kd.V_drew)); exact HO_183002.out) hb)
      have n3_ := Aside0.mk (Kd.V_below (by (with_reducible repeat (first | apply Kd.V_alloc | apply Kd.V_drewN | apply Kd.V_drew)); exact HL183_1.out) hb)
      have n4_ := Aside0.mk (Kd.V_below (by (with_reducible repeat (first | apply Kd.V_alloc | apply Kd.V_drewN | apply Kd.V_drew)); exact HL183_2.out) hb)
      have n5_ := Aside0.mk (blk_below (bk_ BK182.out) hb)
      have n6_ := Aside0.mk (Kd.C_below (by repeat (first | (with_reducible exact HR183_1.out) | (with_reducible refine Kd.C_alloc ?_ _) | (with_reducible refine Kd.C_drewN ?_ _) | (with_reducible refine Kd.C_drew ?_) | exact HR183_1.out)) hb)
      have n7_ := Aside0.mk (Kd.C_below (by repeat (first | (with_reducible exact HR183_2.out) | (with_reducible refine Kd.C_alloc ?_ _) | (with_reducible refine Kd.C_drewN ?_ _) | (with_reducible refine Kd.C_drew ?_) | exact HR183_2.out)) hb)
      have n8_ := Aside0.mk (below_step (bw_ HB.out) hb)
      clear HO_0
      clear HO_183001
      clear HO_183002
      clear HL183_1
      clear HL183_2
      clear BK182
      clear HR183_1
      clear HR183_2
      clear HB
      have HO_0 := n0_
      have HO_183001 := n1_
      have HO_183002 := n2_
      have HL183_1 := n3_
      have HL183_2 := n4_
      have BK182 := n5_
      have HR183_1 := n6_
      have HR183_2 := n7_
      have HB := n8_
      clear n0_ n1_ n2_ n3_ n4_ n5_ n6_ n7_ n8_
      (try clear hb)
      (try clear hb2)
      (try clear hk)
      (try clear hi)
      refine hK.out _ _ ⟨(blk_cell BK182.out 0).trans rfl, (blk_cell BK182.out 1).trans rfl, (blk_cell BK182.out 2).trans rfl, HS3_, HS4_, HS5_, HS6_⟩ (fun hHeld => ?_)
      clear hK K
      refine norm_ (a' := ?_) ?_ ?_
      rotate_left
      ·show Act.put _ (some 20) _ = _
       simp only [Act.put, q1_, q2_, q3_, i64_w, i32_w]
       rfl
      refine pure_ (i := 12) (N := some 21) (v := ?_) (a' := ?_) #[true, true, true, true, true, true, true, true, true, true, true, true, true, false] rfl rfl (any_of HT_.out (by kernel_rfl)) (fun _ _ _ h => h) (Or.inl ⟨by rfl, ?_⟩) ?_ ?_
      rotate_left
      ·intro w'
       go_simp
       with_reducible rfl
      rotate_left
      ·simp only [Act.put, q1_, q2_, q3_, i64_w, i32_w]
       rfl
      refine pure_ (i := 13) (N := some 22) (v := ?_) (a' := ?_) #[true, true, true, true, true, true, true, true, true, true, true, true, true, true] rfl rfl (any_of HT_.out (by kernel_rfl)) (fun _ _ _ h => h) (Or.inl ⟨by rfl, ?_⟩) ?_ ?_
      rotate_left
      ·intro w'
       go_simp
       with_reducible rfl
      rotate_left
      ·simp only [Act.put, q1_, q2_, q3_, i64_w, i32_w]
       rfl
      refine done_ (done_of HT_.out (by kernel_rfl)) ?_
      try go_wp2
      go_roundg k1
      case measure => have := HK1.out; omega
      case rel => exact ⟨(wrap64 (x7_1 + 1)), (by first | rfl | (simp; done) | (simp [*]; done)), H', ⟨by have := HK1.out; omega⟩, ⟨by (with_reducible repeat (first | apply Kd.V_alloc | apply Kd.V_drewN | apply Kd.V_drew)); exact HO_0.out⟩, ⟨by (with_reducible repeat (first | apply Kd.V_alloc | apply Kd.V_drewN | apply Kd.V_drew)); exact HO_183001.out⟩, ⟨by (with_reducible repeat (first | apply Kd.V_alloc | apply Kd.V_drewN | apply Kd.V_drew)); exact HO_183002.out⟩, ⟨by (with_reducible repeat (first | refine blk_drewN ?_ _ | refine blk_drew ?_ | refine blk_alloc ?_ _)); exact BK182.out⟩, ⟨by repeat (first | (with_reducible first | exact HB.out | apply below_alloc | apply pw_below_drewN | apply below_drew1 | refine below_set ?_ GE182.out) | exact HB.out)⟩⟩
     ·rw [if_neg c8] at H
      have c8b0 : decide (t184 < 0) = false := decide_eq_false c8
      clear c8
      have c11b0 := eq_true (of_decide_eq_true (by assumption) : 0 ≤ x7_1)
      by_cases c12 : x7_1 ≤ (l0.length : Int)
      ·rw [if_pos c12] at H
       have c12b0 := eq_true c12
       have c12b1 : decide (x7_1 ≤ (l0.length : Int)) = true := decide_eq_true c12
       clear c12
       obtain ⟨y185, hy185⟩ : ∃ y_ : List (S40), y_ = (l0.take (x7_1 : Int).toNat) := ⟨_, rfl⟩
       replace H : (if ([] : List (S40)).length + y185.length < 2199023255552 then ((some (([] : List (S40)) ++ y185 : List (S40))).bind fun y190 => ((gristmillref04_Compare.f k1 ((rd_T40 l0 x7_1).f0.f0) ((rd_T40 l0 x7_1).f0.f1) ((rd_T40 l0 x7_1).f0.f2) a1_0 l1_1 l1_2).bind fun t194 => (if t194 = 0 then (if y190.length < 2199023255552 then ((some (y190 ++ [(⟨(⟨a1_0, l1_1, l1_2⟩ : S27), IntKind.u64.wrap (((rd_T40 l0 x7_1).f1) + a2)⟩ : S40)] : List (S40))).bind fun y196 => (if 0 ≤ (wrap64 (x7_1 + 1)) then (if (wrap64 (x7_1 + 1)) ≤ (l0.length : Int) then ((some (l0.drop ((wrap64 (x7_1 + 1)) : Int).toNat : List (S40))).bind fun y199 => (if y196.length + y199.length < 2199023255552 then (some (y196 ++ y199)) else (none))) else (none)) else (none))) else (none)) else (if y190.length < 2199023255552 then ((some (y190 ++ [(⟨(⟨a1_0, l1_1, l1_2⟩ : S27), a2⟩ : S40)] : List (S40))).bind fun y207 => ((some (l0.drop (x7_1 : Int).toNat : List (S40))).bind fun y210 => (if y207.length + y210.length < 2199023255552 then (some (y207 ++ y210)) else (none)))) else (none))))) else (none)) = some r := by first | (rw [hy185]; with_reducible exact H) | (have H2_ := (Option.bind_some _ _).symm.trans H; rw [hy185]; with_reducible exact H2_) | (have H2_ := (Option.bind_some _ _).symm.trans H; with_reducible exact H2_) | with_reducible exact H | (rw [hy185]; exact H) | exact H
       have Ny185 := Aside0.mk hy185
       clear hy185
       by_cases c13 : ([] : List (S40)).length + y185.length < 2199023255552
       ·rw [if_pos c13] at H
        have LMc13 := Aside0.mk c13
        clear c13
        obtain ⟨y190, hy190⟩ : ∃ y_ : List (S40), y_ = (([] : List (S40)) ++ y185) := ⟨_, rfl⟩
        replace H : ((gristmillref04_Compare.f k1 ((rd_T40 l0 x7_1).f0.f0) ((rd_T40 l0 x7_1).f0.f1) ((rd_T40 l0 x7_1).f0.f2) a1_0 l1_1 l1_2).bind fun t194 => (if t194 = 0 then (if y190.length < 2199023255552 then ((some (y190 ++ [(⟨(⟨a1_0, l1_1, l1_2⟩ : S27), IntKind.u64.wrap (((rd_T40 l0 x7_1).f1) + a2)⟩ : S40)] : List (S40))).bind fun y196 => (if 0 ≤ (wrap64 (x7_1 + 1)) then (if (wrap64 (x7_1 + 1)) ≤ (l0.length : Int) then ((some (l0.drop ((wrap64 (x7_1 + 1)) : Int).toNat : List (S40))).bind fun y199 => (if y196.length + y199.length < 2199023255552 then (some (y196 ++ y199)) else (none))) else (none)) else (none))) else (none)) else (if y190.length < 2199023255552 then ((some (y190 ++ [(⟨(⟨a1_0, l1_1, l1_2⟩ : S27), a2⟩ : S40)] : List (S40))).bind fun y207 => ((some (l0.drop (x7_1 : Int).toNat : List (S40))).bind fun y210 => (if y207.length + y210.length < 2199023255552 then (some (y207 ++ y210)) else (none)))) else (none)))) = some r := by first | (rw [hy190]; with_reducible exact H) | (have H2_ := (Option.bind_some _ _).symm.trans H; rw [hy190]; with_reducible exact H2_) | (have H2_ := (Option.bind_some _ _).symm.trans H; with_reducible exact H2_) | with_reducible exact H | (rw [hy190]; exact H) | exact H
        have Ny190 := Aside0.mk hy190
        clear hy190
        replace H := Option.bind_eq_some_iff.mp H
        obtain ⟨t194, A140, H⟩ := H
        replace H : (if t194 = 0 then (if y190.length < 2199023255552 then ((some (y190 ++ [(⟨(⟨a1_0, l1_1, l1_2⟩ : S27), IntKind.u64.wrap (((rd_T40 l0 x7_1).f1) + a2)⟩ : S40)] : List (S40))).bind fun y196 => (if 0 ≤ (wrap64 (x7_1 + 1)) then (if (wrap64 (x7_1 + 1)) ≤ (l0.length : Int) then ((some (l0.drop ((wrap64 (x7_1 + 1)) : Int).toNat : List (S40))).bind fun y199 => (if y196.length + y199.length < 2199023255552 then (some (y196 ++ y199)) else (none))) else (none)) else (none))) else (none)) else (if y190.length < 2199023255552 then ((some (y190 ++ [(⟨(⟨a1_0, l1_1, l1_2⟩ : S27), a2⟩ : S40)] : List (S40))).bind fun y207 => ((some (l0.drop (x7_1 : Int).toNat : List (S40))).bind fun y210 => (if y207.length + y210.length < 2199023255552 then (some (y207 ++ y210)) else (none)))) else (none))) = some r := H
        have A14 := Aside0.mk A140
        clear A140
        by_cases c15 : t194 = 0
        ·rw [if_pos c15] at H
         have c15b0 : (t194 == 0) = true := beq_iff_eq.mpr c15
         have c15b1 : (t194 != 0) = false := bne_eq_false_iff_eq.mpr c15
         clear c15
         by_cases c16 : y190.length < 2199023255552
         ·rw [if_pos c16] at H
          have LMc16 := Aside0.mk c16
          clear c16
          obtain ⟨y196, hy196⟩ : ∃ y_ : List (S40), y_ = (y190 ++ [(⟨(⟨a1_0, l1_1, l1_2⟩ : S27), IntKind.u64.wrap (((rd_T40 l0 x7_1).f1) + a2)⟩ : S40)]) := ⟨_, rfl⟩
          replace H : (if 0 ≤ (wrap64 (x7_1 + 1)) then (if (wrap64 (x7_1 + 1)) ≤ (l0.length : Int) then ((some (l0.drop ((wrap64 (x7_1 + 1)) : Int).toNat : List (S40))).bind fun y199 => (if y196.length + y199.length < 2199023255552 then (some (y196 ++ y199)) else (none))) else (none)) else (none)) = some r := by first | (rw [hy196]; with_reducible exact H) | (have H2_ := (Option.bind_some _ _).symm.trans H; rw [hy196]; with_reducible exact H2_) | (have H2_ := (Option.bind_some _ _).symm.trans H; with_reducible exact H2_) | with_reducible exact H | (rw [hy196]; exact H) | exact H
          have Ny196 := Aside0.mk hy196
          clear hy196
          obtain ⟨ji17, hji17⟩ : ∃ j_ : Int, (wrap64 (x7_1 + 1)) = j_ := ⟨_, rfl⟩
          replace H : (if 0 ≤ (ji17) then (if (ji17) ≤ (l0.length : Int) then ((some (l0.drop ((ji17) : Int).toNat : List (S40))).bind fun y199 => (if y196.length + y199.length < 2199023255552 then (some (y196 ++ y199)) else (none))) else (none)) else (none)) = some r := by first | (rw [hji17] at H; exact H) | (simp only [hji17] at H ⊢; exact H)
          (try rw [hji17] at A7)
          (try rw [hji17] at A14)
          have hji17w : (IntKind.i64.wrap (x7_1 + 1)) = ji17 := (i64_w _).trans hji17
          by_cases c18 : 0 ≤ (ji17)
          ·rw [if_pos c18] at H
           have c18b0 := eq_true c18
           have c18b1 : decide (0 ≤ (ji17)) = true := decide_eq_true c18
           clear c18
           by_cases c19 : (ji17) ≤ (l0.length : Int)
           ·rw [if_pos c19] at H
            have c19b0 := eq_true c19
            have c19b1 : decide ((ji17) ≤ (l0.length : Int)) = true := decide_eq_true c19
            clear c19
            obtain ⟨y199, hy199⟩ : ∃ y_ : List (S40), y_ = (l0.drop ((ji17) : Int).toNat) := ⟨_, rfl⟩
            replace H : (if y196.length + y199.length < 2199023255552 then (some (y196 ++ y199)) else (none)) = some r := by first | (rw [hy199]; with_reducible exact H) | (have H2_ := (Option.bind_some _ _).symm.trans H; rw [hy199]; with_reducible exact H2_) | (have H2_ := (Option.bind_some _ _).symm.trans H; with_reducible exact H2_) | with_reducible exact H | (rw [hy199]; exact H) | exact H
            have Ny199 := Aside0.mk hy199
            clear hy199
            by_cases c20 : y196.length + y199.length < 2199023255552
            ·rw [if_pos c20] at H
             have LMc20 := Aside0.mk c20
             clear c20
             obtain ⟨y204, hy204⟩ : ∃ y_ : List (S40), y_ = (y196 ++ y199) := ⟨_, rfl⟩
             replace H : (some y204) = some r := by first | (rw [hy204]; with_reducible exact H) | (have H2_ := (Option.bind_some _ _).symm.trans H; rw [hy204]; with_reducible exact H2_) | (have H2_ := (Option.bind_some _ _).symm.trans H; with_reducible exact H2_) | with_reducible exact H | (rw [hy204]; exact H) | exact H
             have Ny204 := Aside0.mk hy204
             clear hy204
             obtain rfl := Option.some.inj H
             try go_wp2
             have n0_ := Aside0.mk (Kd.V_drew HO_0.out)
             have n1_ := Aside0.mk (Kd.V_drew HO_183001.out)
             have n2_ := Aside0.mk (Kd.V_drew HO_183002.out)
             have n3_ := Aside0.mk (blk_drew BK182.out)
             have n4_ := Aside0.mk (below_drew1 HB.out)
             clear HO_0
             clear HO_183001
             clear HO_183002
             clear BK182
             clear HB
             have HO_0 := n0_
             have HO_183001 := n1_
             have HO_183002 := n2_
             have BK182 := n3_
             have HB := n4_
             clear n0_ n1_ n2_ n3_ n4_
             have p183 : 0 ≤ (x7_1 : Int) := of_decide_eq_true (by assumption)
             have q183 : x7_1 < (l0.length : Int) := of_decide_eq_true (by assumption)
             obtain ⟨ad183, A183_1, c183_1, A183_2, c183_2, e183, hx183_0, hx183_1, hx183_2, hx183_3, hl183_1, hi183_1, hl183_2, hi183_2⟩ := at_T40 (Kd.V_reads' HO_0.out).2.2 x7_1 p183 q183
             cases e183
             obtain ⟨ce183, hce183, hMe183, hcc183⟩ := Kd.V_get HO_0.out z40 x7_1 p183 (by first | exact q183 | exact of_decide_eq_true (by assumption) | (have e_ := (Kd.V_reads' HO_0.out).1; omega))
             obtain ⟨ua183_1, uc183_1, ua183_2, uc183_2, rfl, ul183_1, ge183_1, ul183_2, ge183_2⟩ := k40_openF hMe183
             have hv183_1 := hcc183 1 _ rfl
             rw [add_field _ _ 1 (by omega)] at hv183_1
             replace hv183_1 := Option.some.inj (hv183_1.symm.trans hx183_1)
             injection hv183_1 with hva_ hvn_ hvc_
             rw [hva_] at ge183_1
             rw [hvc_] at ul183_1
             have HL183_1 := Aside0.mk (show Kd.V Kd.string 9 _ w.heap.size _ _ ((rd_T40 l0 x7_1).f0.f1) from Kd.V_mk ul183_1 ge183_1)
             clear hva_ hvn_ hvc_ ge183_1 ul183_1
             have hv183_2 := hcc183 2 _ rfl
             rw [add_field _ _ 2 (by omega)] at hv183_2
             replace hv183_2 := Option.some.inj (hv183_2.symm.trans hx183_2)
             injection hv183_2 with hva_ hvn_ hvc_
             rw [hva_] at ge183_2
             rw [hvc_] at ul183_2
             have HL183_2 := Aside0.mk (show Kd.V (Kd.int .i64) 2 _ w.heap.size _ _ ((rd_T40 l0 x7_1).f0.f2) from Kd.V_mk ul183_2 ge183_2)
             clear hva_ hvn_ hvc_ ge183_2 ul183_2
             clear hcc183 hce183
             have HR183_1 := Aside0.mk hi183_1
             have HC183_1 := Aside0.mk hl183_1
             clear hi183_1 hl183_1
             have HR183_2 := Aside0.mk hi183_2
             have HC183_2 := Aside0.mk hl183_2
             clear hi183_2 hl183_2
             replace p183 := eq_true p183
             replace q183 := eq_true q183
             refine start_ (n := 14) (S := fun w' => w'.cell? ⟨gb182, 0, none⟩ = some (.int .i64 a1_0) ∧ w'.cell? ⟨gb182, 1, none⟩ = some (.slice A1_1 l1_1.length c1_1) ∧ w'.cell? ⟨gb182, 2, none⟩ = some (.slice A1_2 l1_2.length c1_2) ∧ w'.cell? (ad183.add ((x7_1).toNat * 4)) = some (.int .i64 ((rd_T40 l0 x7_1).f0.f0)) ∧ w'.cell? ⟨(ad183.add ((x7_1).toNat * 4)).block, (ad183.add ((x7_1).toNat * 4)).off + 1, none⟩ = some (.slice A183_1 ((rd_T40 l0 x7_1).f0.f1).length c183_1) ∧ w'.cell? ⟨(ad183.add ((x7_1).toNat * 4)).block, (ad183.add ((x7_1).toNat * 4)).off + 2, none⟩ = some (.slice A183_2 ((rd_T40 l0 x7_1).f0.f2).length c183_2) ∧ w'.cell? ⟨(ad183.add ((x7_1).toNat * 4)).block, (ad183.add ((x7_1).toNat * 4)).off + 3, none⟩ = some (.int .u64 ((rd_T40 l0 x7_1).f1))) (ds := []) #[false, false, false, false, false, false, false, false, false, false, false, false, false, false] (by kernel_rfl) rfl rfl ⟨(blk_cell BK182.out 0).trans rfl, (blk_cell BK182.out 1).trans rfl, (blk_cell BK182.out 2).trans rfl, hx183_0, hx183_1, hx183_2, hx183_3⟩ (fun hHeld => ?_); refine with_tabW gristmillref04_Put.tab2 gristmillref04_Put.bits2 (fun HT_ HW_ => ?_)
             generalize wr.drew = w21 at HO_0 HO_183001 HO_183002 BK182 HB HL183_1 HL183_2 HR183_1 HR183_2 hx183_0 hx183_1 hx183_2 hx183_3 hHeld ⊢
             refine pure_ (i := 0) (N := some 9) (v := ?_) (a' := ?_) #[true, false, false, false, false, false, false, false, false, false, false, false, false, false] rfl rfl (any_of HT_.out (by kernel_rfl)) (fun _ _ _ h => h) (Or.inl ⟨by rfl, ?_⟩) ?_ ?_
             rotate_left
             ·intro w'
              go_simp
              with_reducible rfl
             rotate_left
             ·simp only [Act.put, q1_, q2_, q3_, i64_w, i32_w]
              rfl
             refine pure_ (i := 1) (N := some 10) (v := ?_) (a' := ?_) #[true, true, false, false, false, false, false, false, false, false, false, false, false, false] rfl rfl (any_of HT_.out (by kernel_rfl)) (fun _ _ _ h => h) (Or.inl ⟨by rfl, ?_⟩) ?_ ?_
             rotate_left
             ·intro w'
              go_simp
              with_reducible rfl
             rotate_left
             ·simp only [Act.put, q1_, q2_, q3_, i64_w, i32_w]
              rfl
             refine pure_ (i := 2) (N := some 11) (v := ?_) (a' := ?_) #[true, true, true, false, false, false, false, false, false, false, false, false, false, false] rfl rfl (any_of HT_.out (by kernel_rfl)) (fun _ _ _ h => h) (Or.inl ⟨by rfl, ?_⟩) ?_ ?_
             rotate_left
             ·intro w'
              go_simp
              with_reducible rfl
             rotate_left
             ·simp only [Act.put, q1_, q2_, q3_, i64_w, i32_w]
              rfl
             refine pure_ (i := 3) (N := some 12) (v := ?_) (a' := ?_) #[true, true, true, true, false, false, false, false, false, false, false, false, false, false] rfl rfl (any_of HT_.out (by kernel_rfl)) (fun _ _ _ h => h) (Or.inl ⟨by rfl, ?_⟩) ?_ ?_
             rotate_left
             ·intro w'
              go_simp
              with_reducible rfl
             rotate_left
             ·simp only [Act.put, q1_, q2_, q3_, i64_w, i32_w]
              rfl
             refine pure_ (i := 4) (N := some 13) (v := ?_) (a' := ?_) #[true, true, true, true, true, false, false, false, false, false, false, false, false, false] rfl rfl (any_of HT_.out (by kernel_rfl)) (fun _ _ _ h => h) (Or.inl ⟨by rfl, ?_⟩) ?_ ?_
             rotate_left
             ·intro w'
              go_simp
              with_reducible rfl
             rotate_left
             ·simp only [Act.put, q1_, q2_, q3_, i64_w, i32_w]
              rfl
             refine pure_ (i := 5) (N := some 14) (v := ?_) (a' := ?_) #[true, true, true, true, true, true, false, false, false, false, false, false, false, false] rfl rfl (any_of HT_.out (by kernel_rfl)) (fun _ _ _ h => h) (Or.inl ⟨by rfl, ?_⟩) ?_ ?_
             rotate_left
             ·intro w'
              go_simp
              with_reducible rfl
             rotate_left
             ·simp only [Act.put, q1_, q2_, q3_, i64_w, i32_w]
              rfl
             refine pure_ (i := 6) (N := some 15) (v := ?_) (a' := ?_) #[true, true, true, true, true, true, true, false, false, false, false, false, false, false] rfl rfl (any_of HT_.out (by kernel_rfl)) (fun _ _ _ h => h) (Or.inl ⟨by rfl, ?_⟩) ?_ ?_
             rotate_left
             ·intro w'
              go_simp
              with_reducible rfl
             rotate_left
             ·simp only [Act.put, q1_, q2_, q3_, i64_w, i32_w]
              rfl
             refine pure_ (i := 7) (N := some 16) (v := ?_) (a' := ?_) #[true, true, true, true, true, true, true, true, false, false, false, false, false, false] rfl rfl (any_of HT_.out (by kernel_rfl)) (fun _ _ _ h => h) (Or.inl ⟨by rfl, ?_⟩) ?_ ?_
             rotate_left
             ·intro w'
              go_simp
              with_reducible rfl
             rotate_left
             ·simp only [Act.put, q1_, q2_, q3_, i64_w, i32_w]
              rfl
             refine pure_ (i := 8) (N := some 17) (v := ?_) (a' := ?_) #[true, true, true, true, true, true, true, true, true, false, false, false, false, false] rfl rfl (any_of HT_.out (by kernel_rfl)) (fun _ _ _ h => h) (Or.inl ⟨by rfl, ?_⟩) ?_ ?_
             rotate_left
             ·intro w'
              go_simp
              with_reducible rfl
             rotate_left
             ·simp only [Act.put, q1_, q2_, q3_, i64_w, i32_w]
              rfl
             refine take_ (i := 9) (N := some 18) (v := ?_) (a' := ?_) #[true, true, true, true, true, true, true, true, true, true, false, false, false, false] rfl rfl (take_ofW HT_.out HW_.out (by kernel_rfl)) (fun _ _ _ h => h) (Or.inl ⟨by rfl, ?_⟩) hHeld ?_ ?_
             rotate_left
             ·rintro w' ⟨s0, s1, s2, s3, s4, s5, s6⟩
              go_simp
              with_reducible rfl
             rotate_left
             ·simp only [Act.put, q1_, q2_, q3_, i64_w, i32_w]
              rfl
             refine take_ (i := 10) (N := some 19) (v := ?_) (a' := ?_) #[true, true, true, true, true, true, true, true, true, true, true, false, false, false] rfl rfl (take_ofW HT_.out HW_.out (by kernel_rfl)) (fun _ _ _ h => h) (Or.inl ⟨by rfl, ?_⟩) hHeld ?_ ?_
             rotate_left
             ·rintro w' ⟨s0, s1, s2, s3, s4, s5, s6⟩
              go_simp
              with_reducible rfl
             rotate_left
             ·simp only [Act.put, q1_, q2_, q3_, i64_w, i32_w]
              rfl
             refine one_ (i := 11) (N := some 20) #[true, true, true, true, true, true, true, true, true, true, true, true, false, false] rfl rfl (one_of HT_.out (by kernel_rfl)) (by decide) (fun K hK => ?_)
             refine goes_ Try.func15 (by kernel_rfl) rfl #[.agg #[.int .i64 ((rd_T40 l0 x7_1).f0.f0), .slice A183_1 ((rd_T40 l0 x7_1).f0.f1).length c183_1, .slice A183_2 ((rd_T40 l0 x7_1).f0.f2).length c183_2], .agg #[.int .i64 a1_0, .slice A1_1 l1_1.length c1_1, .slice A1_2 l1_2.length c1_2]] (by rfl) rfl rfl (by (try simp only [List.map_toArray, List.map_cons, List.map_nil]); first | done | rfl | (simp only [List.length_drop, List.length_take]; rfl)) ?_
             with_reducible refine (gristmillref04_Compare.calls k1 ((rd_T40 l0 x7_1).f0.f0) _ _ ((rd_T40 l0 x7_1).f0.f1) _ _ ((rd_T40 l0 x7_1).f0.f2) a1_0 _ _ l1_1 _ _ l1_2 t184 _ ?side1 ?side2 ?side3 ?side4 ?side5 ?side6 ?side7 ?side8 A7.out).mono ?_
             (case side1 => repeat (first | exact (by repeat (first | (with_reducible exact HR183_1.out) | (with_reducible refine Kd.C_alloc ?_ _) | (with_reducible refine Kd.C_drewN ?_ _) | (with_reducible refine Kd.C_drew ?_) | exact HR183_1.out)) | (with_reducible refine Kd.C_alloc ?_ _) | (with_reducible refine Kd.C_drewN ?_ _) | (with_reducible refine Kd.C_drew ?_)))
             (case side2 => exact HC183_1.out)
             (case side3 => repeat (first | exact (by repeat (first | (with_reducible exact HR183_2.out) | (with_reducible refine Kd.C_alloc ?_ _) | (with_reducible refine Kd.C_drewN ?_ _) | (with_reducible refine Kd.C_drew ?_) | exact HR183_2.out)) | (with_reducible refine Kd.C_alloc ?_ _) | (with_reducible refine Kd.C_drewN ?_ _) | (with_reducible refine Kd.C_drew ?_)))
             (case side4 => exact HC183_2.out)
             (case side5 => repeat (first | exact (Kd.V_reads' HO_183001.out).2.2 | (with_reducible refine Kd.C_alloc ?_ _) | (with_reducible refine Kd.C_drewN ?_ _) | (with_reducible refine Kd.C_drew ?_)))
             (case side6 => exact (Kd.V_reads' HO_183001.out).2.1)
             (case side7 => repeat (first | exact (Kd.V_reads' HO_183002.out).2.2 | (with_reducible refine Kd.C_alloc ?_ _) | (with_reducible refine Kd.C_drewN ?_ _) | (with_reducible refine Kd.C_drew ?_)))
             (case side8 => exact (Kd.V_reads' HO_183002.out).2.1)
             rintro e w22 ⟨rfl, hb⟩
             have HS3_ := (hb.cell (World.block_lt_of_cell? _ _ (hHeld.2.2.2.1))).trans (hHeld.2.2.2.1)
             have HS4_ := (hb.cell (World.block_lt_of_cell? _ _ (hHeld.2.2.2.2.1))).trans (hHeld.2.2.2.2.1)
             have HS5_ := (hb.cell (World.block_lt_of_cell? _ _ (hHeld.2.2.2.2.2.1))).trans (hHeld.2.2.2.2.2.1)
             have HS6_ := (hb.cell (World.block_lt_of_cell? _ _ (hHeld.2.2.2.2.2.2))).trans (hHeld.2.2.2.2.2.2)
             refine ⟨_, rfl, ?_⟩
             have n0_ := Aside0.mk (Kd.V_below (by (with_reducible repeat (first | apply Kd.V_alloc | apply Kd.V_drewN | apply Kd.V_drew)); exact HO_0.out) hb)
             have n1_ := Aside0.mk (Kd.V_below (by (with_reducible repeat (first | apply Kd.V_alloc | apply Kd.V_drewN | apply Kd.V_drew)); exact HO_183001.out) hb)
             have n2_ := Aside0.mk (Kd.V_below (by (with_reducible repeat (first | apply Kd.V_alloc | apply Kd.V_drewN | apply Kd.V_drew)); exact HO_183002.out) hb)
             have n3_ := Aside0.mk (Kd.V_below (by (with_reducible repeat (first | apply Kd.V_alloc | apply Kd.V_drewN | apply Kd.V_drew)); exact HL183_1.out) hb)
             have n4_ := Aside0.mk (Kd.V_below (by (with_reducible repeat (first | apply Kd.V_alloc | apply Kd.V_drewN | apply Kd.V_drew)); exact HL183_2.out) hb)
             have n5_ := Aside0.mk (blk_below (bk_ BK182.out) hb)
             have n6_ := Aside0.mk (Kd.C_below (by repeat (first | (with_reducible exact HR183_1.out) | (with_reducible refine Kd.C_alloc ?_ _) | (with_reducible refine Kd.C_drewN ?_ _) | (with_reducible refine Kd.C_drew ?_) | exact HR183_1.out)) hb)
             have n7_ := Aside0.mk (Kd.C_below (by repeat (first | (with_reducible exact HR183_2.out) | (with_reducible refine Kd.C_alloc ?_ _) | (with_reducible refine Kd.C_drewN ?_ _) | (with_reducible refine Kd.C_drew ?_) | exact HR183_2.out)) hb)
             have n8_ := Aside0.mk (below_step (bw_ HB.out) hb)
             clear HO_0
             clear HO_183001
             clear HO_183002
             clear HL183_1
             clear HL183_2
             clear BK182
             clear HR183_1
             clear HR183_2
             clear HB
             have HO_0 := n0_
             have HO_183001 := n1_
             have HO_183002 := n2_
             have HL183_1 := n3_
             have HL183_2 := n4_
             have BK182 := n5_
             have HR183_1 := n6_
             have HR183_2 := n7_
             have HB := n8_
             clear n0_ n1_ n2_ n3_ n4_ n5_ n6_ n7_ n8_
             (try clear hb)
             (try clear hb2)
             (try clear hk)
             (try clear hi)
             refine hK.out _ _ ⟨(blk_cell BK182.out 0).trans rfl, (blk_cell BK182.out 1).trans rfl, (blk_cell BK182.out 2).trans rfl, HS3_, HS4_, HS5_, HS6_⟩ (fun hHeld => ?_)
             clear hK K
             refine norm_ (a' := ?_) ?_ ?_
             rotate_left
             ·show Act.put _ (some 20) _ = _
              simp only [Act.put, q1_, q2_, q3_, i64_w, i32_w]
              rfl
             refine pure_ (i := 12) (N := some 21) (v := ?_) (a' := ?_) #[true, true, true, true, true, true, true, true, true, true, true, true, true, false] rfl rfl (any_of HT_.out (by kernel_rfl)) (fun _ _ _ h => h) (Or.inl ⟨by rfl, ?_⟩) ?_ ?_
             rotate_left
             ·intro w'
              go_simp
              with_reducible rfl
             rotate_left
             ·simp only [Act.put, q1_, q2_, q3_, i64_w, i32_w]
              rfl
             refine pure_ (i := 13) (N := some 22) (v := ?_) (a' := ?_) #[true, true, true, true, true, true, true, true, true, true, true, true, true, true] rfl rfl (any_of HT_.out (by kernel_rfl)) (fun _ _ _ h => h) (Or.inl ⟨by rfl, ?_⟩) ?_ ?_
             rotate_left
             ·intro w'
              go_simp
              with_reducible rfl
             rotate_left
             ·simp only [Act.put, q1_, q2_, q3_, i64_w, i32_w]
              rfl
             refine done_ (done_of HT_.out (by kernel_rfl)) ?_
             have q23 : (x7_1 : Int) ≤ ((l0.length : Int) : Int) := of_decide_eq_true (by assumption)
             obtain ⟨i023, hi023, _, hsz23, _⟩ := info_parts info40
             have hroom23 : l0.length ≤ c0 := (Kd.V_reads' HO_0.out).2.1
             have hC23 : Kd.F k40 _ _ (some ad183) l0.length l0 := (Kd.V_at (base := w.heap.size) HO_0.out).2.2
             have hcut23 := cut_to (P := Try.prog) 36 40 .i64 Try.underlying36 hi023 (some ad183) l0.length c0 x7_1 (of_decide_eq_true (by assumption)) q23 hroom23
             have hr23 := Kd.F_take (m := (x7_1 : Int).toNat) hC23 (by omega)
             have hy23 : y185.length = (x7_1 : Int).toNat := (by rw [Ny185.out, List.length_take]; omega)
             rw [← Ny185.out] at hr23
             rw [← hy23] at hcut23
             have HO189 := Aside0.mk (show Kd.V k40 40 _ w.heap.size _ (.slice (some ad183) y185.length c0) y185 from Kd.V_mk (by omega) hr23)
             have HC189 := Aside0.mk (show y185.length ≤ c0 from by omega)
             clear hr23 hC23 hroom23 hi023 hsz23
             have KY23 := Aside0.mk hy23
             clear hy23
             replace q23 := eq_true q23
             try go_wp2_with (first | ((with_reducible refine gate_builtin (b := .append) (xs := #[.tmp 25, .tmp 28]) rfl ?_); at_builtin; refine Kd.N_append_rows k40 (w0 := w) w.heap.size rfl (.tmp 25) (.tmp 28) 36 40 (.agg #[(.int .i64 0), (.slice none 0 0), (.slice none 0 0), (.int .u64 0)]) 64 rfl Try.underlying36 info40 rfl (by decide) (by omega) (.slice none 0 0) ([] : List (S40)) y185 _ _ _ (fun k_ => ((P0_ k_ ∨ P1_1_ k_ ∨ P1_2_ k_) ∨ w.heap.size ≤ k_) ∧ k_ ≠ gb182) (fun k_ => ((fun k_ => ((P0_ k_ ∨ P1_1_ k_ ∨ P1_2_ k_) ∨ w.heap.size ≤ k_) ∧ k_ ≠ gb182)) k_ ∧ some k_ ≠ (.slice none 0 0 : Value).ownBlock) rfl rfl ?aO ?aR (fun _ hk => hk) ?aF ?aB ?aS ?aL ?_; (case aR => exact (by skip; exact Kd.V_F (Kd.V_mono (ok' := (fun k_ => ((fun k_ => ((P0_ k_ ∨ P1_1_ k_ ∨ P1_2_ k_) ∨ w.heap.size ≤ k_) ∧ k_ ≠ gb182)) k_ ∧ some k_ ≠ (.slice none 0 0 : Value).ownBlock)) (HO189.out) (fun k_ hk => ⟨⟨hk.1, hk.2⟩, (by simp [Value.ownBlock])⟩)))); (case aB => exact (bw_ HB.out)); (case aF => exact (fun k_ hk => ⟨(.inr (Nat.le_trans (below_size (bw_ HB.out)) hk)), Kd.freshB (g := gb182) (o := .cells #[.int .i64 a1_0, .slice A1_1 l1_1.length c1_1, .slice A1_2 l1_2.length c1_2] 27 (0, 0)) (bk_ BK182.out) k_ hk⟩)); (case aO => exact ((Kd.N_nil _ _ _ _ (fun k_ => ((P0_ k_ ∨ P1_1_ k_ ∨ P1_2_ k_) ∨ w.heap.size ≤ k_) ∧ k_ ≠ gb182)))); (case aS => exact (below_size (bw_ HB.out))); (case aL => have := LMc13.out; omega); intro v191 w24 ho hb hg hat; rw [← Ny190.out] at ho; have n0_ := Aside0.mk (Kd.V_afterv (Kd.V_apart_nil (by (with_reducible repeat (first | apply Kd.V_alloc | apply Kd.V_drewN | apply Kd.V_drew)); exact HO_0.out)) hg hat); have n1_ := Aside0.mk (Kd.V_afterv (Kd.V_apart_nil (by (with_reducible repeat (first | apply Kd.V_alloc | apply Kd.V_drewN | apply Kd.V_drew)); exact HO_183001.out)) hg hat); have n2_ := Aside0.mk (Kd.V_afterv (Kd.V_apart_nil (by (with_reducible repeat (first | apply Kd.V_alloc | apply Kd.V_drewN | apply Kd.V_drew)); exact HO_183002.out)) hg hat); have n3_ := Aside0.mk (blk_grown (g := gb182) (o := .cells #[.int .i64 a1_0, .slice A1_1 l1_1.length c1_1, .slice A1_2 l1_2.length c1_2] 27 (0, 0)) (bk_ BK182.out) hg (by simp [Value.ownBlock])); have n4_ := Aside0.mk (Kd.V_afterv (Kd.V_apart_nil (by (with_reducible repeat (first | apply Kd.V_alloc | apply Kd.V_drewN | apply Kd.V_drew)); exact HL183_1.out)) hg hat); have n5_ := Aside0.mk (Kd.V_afterv (Kd.V_apart_nil (by (with_reducible repeat (first | apply Kd.V_alloc | apply Kd.V_drewN | apply Kd.V_drew)); exact HL183_2.out)) hg hat); have n6_ := Aside0.mk (Kd.V_afterv (Kd.V_apart_nil (by (with_reducible repeat (first | apply Kd.V_alloc | apply Kd.V_drewN | apply Kd.V_drew)); exact HO189.out)) hg hat); have n7_ := Aside0.mk (hb); have n8_ := Aside0.mk (ho); clear HO_0 HO_183001 HO_183002 BK182 HL183_1 HL183_2 HO189 HB; have HO_0 := n0_; have HO_183001 := n1_; have HO_183002 := n2_; have BK182 := n3_; have HL183_1 := n4_; have HL183_2 := n5_; have HO189 := n6_; have HB := n7_; have HO192 := n8_; clear n0_ n1_ n2_ n3_ n4_ n5_ n6_ n7_ n8_; clear ho hb hg hat))
             have n0_ := Aside0.mk (Kd.V_drew HO_0.out)
             have n1_ := Aside0.mk (Kd.V_drew HO_183001.out)
             have n2_ := Aside0.mk (Kd.V_drew HO_183002.out)
             have n3_ := Aside0.mk (Kd.V_drew HL183_1.out)
             have n4_ := Aside0.mk (Kd.V_drew HL183_2.out)
             have n5_ := Aside0.mk (Kd.V_drew HO189.out)
             have n6_ := Aside0.mk (Kd.N_drew HO192.out)
             have n7_ := Aside0.mk (blk_drew BK182.out)
             have n8_ := Aside0.mk (below_drew1 HB.out)
             clear HO_0
             clear HO_183001
             clear HO_183002
             clear HL183_1
             clear HL183_2
             clear HO189
             clear HO192
             clear BK182
             clear HB
             have HO_0 := n0_
             have HO_183001 := n1_
             have HO_183002 := n2_
             have HL183_1 := n3_
             have HL183_2 := n4_
             have HO189 := n5_
             have HO192 := n6_
             have BK182 := n7_
             have HB := n8_
             clear n0_ n1_ n2_ n3_ n4_ n5_ n6_ n7_ n8_
             have p193 : 0 ≤ (x7_1 : Int) := of_decide_eq_true (by assumption)
             have q193 : x7_1 < (l0.length : Int) := of_decide_eq_true (by assumption)
             obtain ⟨ad193, A193_1, c193_1, A193_2, c193_2, e193, hx193_0, hx193_1, hx193_2, hx193_3, hl193_1, hi193_1, hl193_2, hi193_2⟩ := at_T40 (Kd.V_reads' HO_0.out).2.2 x7_1 p193 q193
             obtain rfl : ad183 = ad193 := (by injection e193)
             obtain ⟨ce193, hce193, hMe193, hcc193⟩ := Kd.V_get HO_0.out z40 x7_1 p193 (by first | exact q193 | exact of_decide_eq_true (by assumption) | (have e_ := (Kd.V_reads' HO_0.out).1; omega))
             obtain ⟨ua193_1, uc193_1, ua193_2, uc193_2, rfl, ul193_1, ge193_1, ul193_2, ge193_2⟩ := k40_openF hMe193
             have hv193_1 := hcc193 1 _ rfl
             rw [add_field _ _ 1 (by omega)] at hv193_1
             replace hv193_1 := Option.some.inj (hv193_1.symm.trans hx193_1)
             injection hv193_1 with hva_ hvn_ hvc_
             rw [hva_] at ge193_1
             rw [hvc_] at ul193_1
             have HL193_1 := Aside0.mk (show Kd.V Kd.string 9 _ w.heap.size _ _ ((rd_T40 l0 x7_1).f0.f1) from Kd.V_mk ul193_1 ge193_1)
             clear hva_ hvn_ hvc_ ge193_1 ul193_1
             have hv193_2 := hcc193 2 _ rfl
             rw [add_field _ _ 2 (by omega)] at hv193_2
             replace hv193_2 := Option.some.inj (hv193_2.symm.trans hx193_2)
             injection hv193_2 with hva_ hvn_ hvc_
             rw [hva_] at ge193_2
             rw [hvc_] at ul193_2
             have HL193_2 := Aside0.mk (show Kd.V (Kd.int .i64) 2 _ w.heap.size _ _ ((rd_T40 l0 x7_1).f0.f2) from Kd.V_mk ul193_2 ge193_2)
             clear hva_ hvn_ hvc_ ge193_2 ul193_2
             clear hcc193 hce193
             have HR193_1 := Aside0.mk hi193_1
             have HC193_1 := Aside0.mk hl193_1
             clear hi193_1 hl193_1
             have HR193_2 := Aside0.mk hi193_2
             have HC193_2 := Aside0.mk hl193_2
             clear hi193_2 hl193_2
             replace p193 := eq_true p193
             replace q193 := eq_true q193
             refine start_ (n := 14) (S := fun w' => w'.cell? ⟨gb182, 0, none⟩ = some (.int .i64 a1_0) ∧ w'.cell? ⟨gb182, 1, none⟩ = some (.slice A1_1 l1_1.length c1_1) ∧ w'.cell? ⟨gb182, 2, none⟩ = some (.slice A1_2 l1_2.length c1_2) ∧ w'.cell? (ad183.add ((x7_1).toNat * 4)) = some (.int .i64 ((rd_T40 l0 x7_1).f0.f0)) ∧ w'.cell? ⟨(ad183.add ((x7_1).toNat * 4)).block, (ad183.add ((x7_1).toNat * 4)).off + 1, none⟩ = some (.slice A193_1 ((rd_T40 l0 x7_1).f0.f1).length c193_1) ∧ w'.cell? ⟨(ad183.add ((x7_1).toNat * 4)).block, (ad183.add ((x7_1).toNat * 4)).off + 2, none⟩ = some (.slice A193_2 ((rd_T40 l0 x7_1).f0.f2).length c193_2) ∧ w'.cell? ⟨(ad183.add ((x7_1).toNat * 4)).block, (ad183.add ((x7_1).toNat * 4)).off + 3, none⟩ = some (.int .u64 ((rd_T40 l0 x7_1).f1))) (ds := []) #[false, false, false, false, false, false, false, false, false, false, false, false, false, false] (by kernel_rfl) rfl rfl ⟨(blk_cell BK182.out 0).trans rfl, (blk_cell BK182.out 1).trans rfl, (blk_cell BK182.out 2).trans rfl, hx193_0, hx193_1, hx193_2, hx193_3⟩ (fun hHeld => ?_); refine with_tabW gristmillref04_Put.tab6 gristmillref04_Put.bits6 (fun HT_ HW_ => ?_)
             generalize w24.drew = w25 at HO_0 HO_183001 HO_183002 HL183_1 HL183_2 HO189 HO192 BK182 HB HL193_1 HL193_2 HR193_1 HR193_2 hx193_0 hx193_1 hx193_2 hx193_3 hHeld ⊢
             refine pure_ (i := 0) (N := some 30) (v := ?_) (a' := ?_) #[true, false, false, false, false, false, false, false, false, false, false, false, false, false] rfl rfl (any_of HT_.out (by kernel_rfl)) (fun _ _ _ h => h) (Or.inl ⟨by rfl, ?_⟩) ?_ ?_
             rotate_left
             ·intro w'
              go_simp
              with_reducible rfl
             rotate_left
             ·simp only [Act.put, q1_, q2_, q3_, i64_w, i32_w]
              rfl
             refine pure_ (i := 1) (N := some 31) (v := ?_) (a' := ?_) #[true, true, false, false, false, false, false, false, false, false, false, false, false, false] rfl rfl (any_of HT_.out (by kernel_rfl)) (fun _ _ _ h => h) (Or.inl ⟨by rfl, ?_⟩) ?_ ?_
             rotate_left
             ·intro w'
              go_simp
              with_reducible rfl
             rotate_left
             ·simp only [Act.put, q1_, q2_, q3_, i64_w, i32_w]
              rfl
             refine pure_ (i := 2) (N := some 32) (v := ?_) (a' := ?_) #[true, true, true, false, false, false, false, false, false, false, false, false, false, false] rfl rfl (any_of HT_.out (by kernel_rfl)) (fun _ _ _ h => h) (Or.inl ⟨by rfl, ?_⟩) ?_ ?_
             rotate_left
             ·intro w'
              go_simp
              with_reducible rfl
             rotate_left
             ·simp only [Act.put, q1_, q2_, q3_, i64_w, i32_w]
              rfl
             refine pure_ (i := 3) (N := some 33) (v := ?_) (a' := ?_) #[true, true, true, true, false, false, false, false, false, false, false, false, false, false] rfl rfl (any_of HT_.out (by kernel_rfl)) (fun _ _ _ h => h) (Or.inl ⟨by rfl, ?_⟩) ?_ ?_
             rotate_left
             ·intro w'
              go_simp
              with_reducible rfl
             rotate_left
             ·simp only [Act.put, q1_, q2_, q3_, i64_w, i32_w]
              rfl
             refine pure_ (i := 4) (N := some 34) (v := ?_) (a' := ?_) #[true, true, true, true, true, false, false, false, false, false, false, false, false, false] rfl rfl (any_of HT_.out (by kernel_rfl)) (fun _ _ _ h => h) (Or.inl ⟨by rfl, ?_⟩) ?_ ?_
             rotate_left
             ·intro w'
              go_simp
              with_reducible rfl
             rotate_left
             ·simp only [Act.put, q1_, q2_, q3_, i64_w, i32_w]
              rfl
             refine pure_ (i := 5) (N := some 35) (v := ?_) (a' := ?_) #[true, true, true, true, true, true, false, false, false, false, false, false, false, false] rfl rfl (any_of HT_.out (by kernel_rfl)) (fun _ _ _ h => h) (Or.inl ⟨by rfl, ?_⟩) ?_ ?_
             rotate_left
             ·intro w'
              go_simp
              with_reducible rfl
             rotate_left
             ·simp only [Act.put, q1_, q2_, q3_, i64_w, i32_w]
              rfl
             refine pure_ (i := 6) (N := some 36) (v := ?_) (a' := ?_) #[true, true, true, true, true, true, true, false, false, false, false, false, false, false] rfl rfl (any_of HT_.out (by kernel_rfl)) (fun _ _ _ h => h) (Or.inl ⟨by rfl, ?_⟩) ?_ ?_
             rotate_left
             ·intro w'
              go_simp
              with_reducible rfl
             rotate_left
             ·simp only [Act.put, q1_, q2_, q3_, i64_w, i32_w]
              rfl
             refine pure_ (i := 7) (N := some 37) (v := ?_) (a' := ?_) #[true, true, true, true, true, true, true, true, false, false, false, false, false, false] rfl rfl (any_of HT_.out (by kernel_rfl)) (fun _ _ _ h => h) (Or.inl ⟨by rfl, ?_⟩) ?_ ?_
             rotate_left
             ·intro w'
              go_simp
              with_reducible rfl
             rotate_left
             ·simp only [Act.put, q1_, q2_, q3_, i64_w, i32_w]
              rfl
             refine pure_ (i := 8) (N := some 38) (v := ?_) (a' := ?_) #[true, true, true, true, true, true, true, true, true, false, false, false, false, false] rfl rfl (any_of HT_.out (by kernel_rfl)) (fun _ _ _ h => h) (Or.inl ⟨by rfl, ?_⟩) ?_ ?_
             rotate_left
             ·intro w'
              go_simp
              with_reducible rfl
             rotate_left
             ·simp only [Act.put, q1_, q2_, q3_, i64_w, i32_w]
              rfl
             refine take_ (i := 9) (N := some 39) (v := ?_) (a' := ?_) #[true, true, true, true, true, true, true, true, true, true, false, false, false, false] rfl rfl (take_ofW HT_.out HW_.out (by kernel_rfl)) (fun _ _ _ h => h) (Or.inl ⟨by rfl, ?_⟩) hHeld ?_ ?_
             rotate_left
             ·rintro w' ⟨s0, s1, s2, s3, s4, s5, s6⟩
              go_simp
              with_reducible rfl
             rotate_left
             ·simp only [Act.put, q1_, q2_, q3_, i64_w, i32_w]
              rfl
             refine take_ (i := 10) (N := some 40) (v := ?_) (a' := ?_) #[true, true, true, true, true, true, true, true, true, true, true, false, false, false] rfl rfl (take_ofW HT_.out HW_.out (by kernel_rfl)) (fun _ _ _ h => h) (Or.inl ⟨by rfl, ?_⟩) hHeld ?_ ?_
             rotate_left
             ·rintro w' ⟨s0, s1, s2, s3, s4, s5, s6⟩
              go_simp
              with_reducible rfl
             rotate_left
             ·simp only [Act.put, q1_, q2_, q3_, i64_w, i32_w]
              rfl
             refine one_ (i := 11) (N := some 41) #[true, true, true, true, true, true, true, true, true, true, true, true, false, false] rfl rfl (one_of HT_.out (by kernel_rfl)) (by decide) (fun K hK => ?_)
             refine goes_ Try.func15 (by kernel_rfl) rfl #[.agg #[.int .i64 ((rd_T40 l0 x7_1).f0.f0), .slice A193_1 ((rd_T40 l0 x7_1).f0.f1).length c193_1, .slice A193_2 ((rd_T40 l0 x7_1).f0.f2).length c193_2], .agg #[.int .i64 a1_0, .slice A1_1 l1_1.length c1_1, .slice A1_2 l1_2.length c1_2]] (by rfl) rfl rfl (by (try simp only [List.map_toArray, List.map_cons, List.map_nil]); first | done | rfl | (simp only [List.length_drop, List.length_take]; rfl)) ?_
             with_reducible refine (gristmillref04_Compare.calls k1 ((rd_T40 l0 x7_1).f0.f0) _ _ ((rd_T40 l0 x7_1).f0.f1) _ _ ((rd_T40 l0 x7_1).f0.f2) a1_0 _ _ l1_1 _ _ l1_2 t194 _ ?side1 ?side2 ?side3 ?side4 ?side5 ?side6 ?side7 ?side8 A14.out).mono ?_
             (case side1 => repeat (first | exact (by repeat (first | (with_reducible exact HR193_1.out) | (with_reducible refine Kd.C_alloc ?_ _) | (with_reducible refine Kd.C_drewN ?_ _) | (with_reducible refine Kd.C_drew ?_) | exact HR193_1.out)) | (with_reducible refine Kd.C_alloc ?_ _) | (with_reducible refine Kd.C_drewN ?_ _) | (with_reducible refine Kd.C_drew ?_)))
             (case side2 => exact HC193_1.out)
             (case side3 => repeat (first | exact (by repeat (first | (with_reducible exact HR193_2.out) | (with_reducible refine Kd.C_alloc ?_ _) | (with_reducible refine Kd.C_drewN ?_ _) | (with_reducible refine Kd.C_drew ?_) | exact HR193_2.out)) | (with_reducible refine Kd.C_alloc ?_ _) | (with_reducible refine Kd.C_drewN ?_ _) | (with_reducible refine Kd.C_drew ?_)))
             (case side4 => exact HC193_2.out)
             (case side5 => repeat (first | exact (Kd.V_reads' HO_183001.out).2.2 | (with_reducible refine Kd.C_alloc ?_ _) | (with_reducible refine Kd.C_drewN ?_ _) | (with_reducible refine Kd.C_drew ?_)))
             (case side6 => exact (Kd.V_reads' HO_183001.out).2.1)
             (case side7 => repeat (first | exact (Kd.V_reads' HO_183002.out).2.2 | (with_reducible refine Kd.C_alloc ?_ _) | (with_reducible refine Kd.C_drewN ?_ _) | (with_reducible refine Kd.C_drew ?_)))
             (case side8 => exact (Kd.V_reads' HO_183002.out).2.1)
             rintro e w26 ⟨rfl, hb⟩
             have HS3_ := (hb.cell (World.block_lt_of_cell? _ _ (hHeld.2.2.2.1))).trans (hHeld.2.2.2.1)
             have HS4_ := (hb.cell (World.block_lt_of_cell? _ _ (hHeld.2.2.2.2.1))).trans (hHeld.2.2.2.2.1)
             have HS5_ := (hb.cell (World.block_lt_of_cell? _ _ (hHeld.2.2.2.2.2.1))).trans (hHeld.2.2.2.2.2.1)
             have HS6_ := (hb.cell (World.block_lt_of_cell? _ _ (hHeld.2.2.2.2.2.2))).trans (hHeld.2.2.2.2.2.2)
             refine ⟨_, rfl, ?_⟩
             have n0_ := Aside0.mk (Kd.V_below (by (with_reducible repeat (first | apply Kd.V_alloc | apply Kd.V_drewN | apply Kd.V_drew)); exact HO_0.out) hb)
             have n1_ := Aside0.mk (Kd.V_below (by (with_reducible repeat (first | apply Kd.V_alloc | apply Kd.V_drewN | apply Kd.V_drew)); exact HO_183001.out) hb)
             have n2_ := Aside0.mk (Kd.V_below (by (with_reducible repeat (first | apply Kd.V_alloc | apply Kd.V_drewN | apply Kd.V_drew)); exact HO_183002.out) hb)
             have n3_ := Aside0.mk (Kd.V_below (by (with_reducible repeat (first | apply Kd.V_alloc | apply Kd.V_drewN | apply Kd.V_drew)); exact HL183_1.out) hb)
             have n4_ := Aside0.mk (Kd.V_below (by (with_reducible repeat (first | apply Kd.V_alloc | apply Kd.V_drewN | apply Kd.V_drew)); exact HL183_2.out) hb)
             have n5_ := Aside0.mk (Kd.V_below (by (with_reducible repeat (first | apply Kd.V_alloc | apply Kd.V_drewN | apply Kd.V_drew)); exact HO189.out) hb)
             have n6_ := Aside0.mk (Kd.N_below (by (with_reducible repeat (first | apply Kd.N_alloc | apply Kd.N_drewN | apply Kd.N_drew)); exact HO192.out) hb)
             have n7_ := Aside0.mk (Kd.V_below (by (with_reducible repeat (first | apply Kd.V_alloc | apply Kd.V_drewN | apply Kd.V_drew)); exact HL193_1.out) hb)
             have n8_ := Aside0.mk (Kd.V_below (by (with_reducible repeat (first | apply Kd.V_alloc | apply Kd.V_drewN | apply Kd.V_drew)); exact HL193_2.out) hb)
             have n9_ := Aside0.mk (blk_below (bk_ BK182.out) hb)
             have n10_ := Aside0.mk (Kd.C_below (by repeat (first | (with_reducible exact HR193_1.out) | (with_reducible refine Kd.C_alloc ?_ _) | (with_reducible refine Kd.C_drewN ?_ _) | (with_reducible refine Kd.C_drew ?_) | exact HR193_1.out)) hb)
             have n11_ := Aside0.mk (Kd.C_below (by repeat (first | (with_reducible exact HR193_2.out) | (with_reducible refine Kd.C_alloc ?_ _) | (with_reducible refine Kd.C_drewN ?_ _) | (with_reducible refine Kd.C_drew ?_) | exact HR193_2.out)) hb)
             have n12_ := Aside0.mk (below_step (bw_ HB.out) hb)
             clear HO_0
             clear HO_183001
             clear HO_183002
             clear HL183_1
             clear HL183_2
             clear HO189
             clear HO192
             clear HL193_1
             clear HL193_2
             clear BK182
             clear HR193_1
             clear HR193_2
             clear HB
             have HO_0 := n0_
             have HO_183001 := n1_
             have HO_183002 := n2_
             have HL183_1 := n3_
             have HL183_2 := n4_
             have HO189 := n5_
             have HO192 := n6_
             have HL193_1 := n7_
             have HL193_2 := n8_
             have BK182 := n9_
             have HR193_1 := n10_
             have HR193_2 := n11_
             have HB := n12_
             clear n0_ n1_ n2_ n3_ n4_ n5_ n6_ n7_ n8_ n9_ n10_ n11_ n12_
             (try clear hb)
             (try clear hb2)
             (try clear hk)
             (try clear hi)
             refine hK.out _ _ ⟨(blk_cell BK182.out 0).trans rfl, (blk_cell BK182.out 1).trans rfl, (blk_cell BK182.out 2).trans rfl, HS3_, HS4_, HS5_, HS6_⟩ (fun hHeld => ?_)
             clear hK K
             refine norm_ (a' := ?_) ?_ ?_
             rotate_left
             ·show Act.put _ (some 41) _ = _
              simp only [Act.put, q1_, q2_, q3_, i64_w, i32_w]
              rfl
             refine pure_ (i := 12) (N := some 42) (v := ?_) (a' := ?_) #[true, true, true, true, true, true, true, true, true, true, true, true, true, false] rfl rfl (any_of HT_.out (by kernel_rfl)) (fun _ _ _ h => h) (Or.inl ⟨by rfl, ?_⟩) ?_ ?_
             rotate_left
             ·intro w'
              go_simp
              with_reducible rfl
             rotate_left
             ·simp only [Act.put, q1_, q2_, q3_, i64_w, i32_w]
              rfl
             refine pure_ (i := 13) (N := some 43) (v := ?_) (a' := ?_) #[true, true, true, true, true, true, true, true, true, true, true, true, true, true] rfl rfl (any_of HT_.out (by kernel_rfl)) (fun _ _ _ h => h) (Or.inl ⟨by rfl, ?_⟩) ?_ ?_
             rotate_left
             ·intro w'
              go_simp
              with_reducible rfl
             rotate_left
             ·simp only [Act.put, q1_, q2_, q3_, i64_w, i32_w]
              rfl
             refine done_ (done_of HT_.out (by kernel_rfl)) ?_
             try go_wp2
             have n0_ := Aside0.mk (Kd.V_drew HO_0.out)
             have n1_ := Aside0.mk (Kd.V_drew HO_183001.out)
             have n2_ := Aside0.mk (Kd.V_drew HO_183002.out)
             have n3_ := Aside0.mk (Kd.V_drew HL183_1.out)
             have n4_ := Aside0.mk (Kd.V_drew HL183_2.out)
             have n5_ := Aside0.mk (Kd.V_drew HO189.out)
             have n6_ := Aside0.mk (Kd.N_drew HO192.out)
             have n7_ := Aside0.mk (Kd.V_drew HL193_1.out)
             have n8_ := Aside0.mk (Kd.V_drew HL193_2.out)
             have n9_ := Aside0.mk (blk_drew BK182.out)
             have n10_ := Aside0.mk (Kd.C_drew HR193_1.out)
             have n11_ := Aside0.mk (Kd.C_drew HR193_2.out)
             have n12_ := Aside0.mk (below_drew1 HB.out)
             clear HO_0
             clear HO_183001
             clear HO_183002
             clear HL183_1
             clear HL183_2
             clear HO189
             clear HO192
             clear HL193_1
             clear HL193_2
             clear BK182
             clear HR193_1
             clear HR193_2
             clear HB
             have HO_0 := n0_
             have HO_183001 := n1_
             have HO_183002 := n2_
             have HL183_1 := n3_
             have HL183_2 := n4_
             have HO189 := n5_
             have HO192 := n6_
             have HL193_1 := n7_
             have HL193_2 := n8_
             have BK182 := n9_
             have HR193_1 := n10_
             have HR193_2 := n11_
             have HB := n12_
             clear n0_ n1_ n2_ n3_ n4_ n5_ n6_ n7_ n8_ n9_ n10_ n11_ n12_
             have p195 : 0 ≤ (x7_1 : Int) := of_decide_eq_true (by assumption)
             have q195 : x7_1 < (l0.length : Int) := of_decide_eq_true (by assumption)
             obtain ⟨ad195, A195_1, c195_1, A195_2, c195_2, e195, hx195_0, hx195_1, hx195_2, hx195_3, hl195_1, hi195_1, hl195_2, hi195_2⟩ := at_T40 (Kd.V_reads' HO_0.out).2.2 x7_1 p195 q195
             obtain rfl : ad183 = ad195 := (by injection e195)
             obtain ⟨ce195, hce195, hMe195, hcc195⟩ := Kd.V_get HO_0.out z40 x7_1 p195 (by first | exact q195 | exact of_decide_eq_true (by assumption) | (have e_ := (Kd.V_reads' HO_0.out).1; omega))
             obtain ⟨ua195_1, uc195_1, ua195_2, uc195_2, rfl, ul195_1, ge195_1, ul195_2, ge195_2⟩ := k40_openF hMe195
             have hv195_1 := hcc195 1 _ rfl
             rw [add_field _ _ 1 (by omega)] at hv195_1
             replace hv195_1 := Option.some.inj (hv195_1.symm.trans hx195_1)
             injection hv195_1 with hva_ hvn_ hvc_
             rw [hva_] at ge195_1
             rw [hvc_] at ul195_1
             have HL195_1 := Aside0.mk (show Kd.V Kd.string 9 _ w.heap.size _ _ ((rd_T40 l0 x7_1).f0.f1) from Kd.V_mk ul195_1 ge195_1)
             clear hva_ hvn_ hvc_ ge195_1 ul195_1
             have hv195_2 := hcc195 2 _ rfl
             rw [add_field _ _ 2 (by omega)] at hv195_2
             replace hv195_2 := Option.some.inj (hv195_2.symm.trans hx195_2)
             injection hv195_2 with hva_ hvn_ hvc_
             rw [hva_] at ge195_2
             rw [hvc_] at ul195_2
             have HL195_2 := Aside0.mk (show Kd.V (Kd.int .i64) 2 _ w.heap.size _ _ ((rd_T40 l0 x7_1).f0.f2) from Kd.V_mk ul195_2 ge195_2)
             clear hva_ hvn_ hvc_ ge195_2 ul195_2
             clear hcc195 hce195
             have HR195_1 := Aside0.mk hi195_1
             have HC195_1 := Aside0.mk hl195_1
             clear hi195_1 hl195_1
             have HR195_2 := Aside0.mk hi195_2
             have HC195_2 := Aside0.mk hl195_2
             clear hi195_2 hl195_2
             replace p195 := eq_true p195
             replace q195 := eq_true q195
             refine start_ (n := 13) (S := fun w' => w'.cell? ⟨gb182, 0, none⟩ = some (.int .i64 a1_0) ∧ w'.cell? ⟨gb182, 1, none⟩ = some (.slice A1_1 l1_1.length c1_1) ∧ w'.cell? ⟨gb182, 2, none⟩ = some (.slice A1_2 l1_2.length c1_2) ∧ w'.cell? (ad183.add ((x7_1).toNat * 4)) = some (.int .i64 ((rd_T40 l0 x7_1).f0.f0)) ∧ w'.cell? ⟨(ad183.add ((x7_1).toNat * 4)).block, (ad183.add ((x7_1).toNat * 4)).off + 1, none⟩ = some (.slice A195_1 ((rd_T40 l0 x7_1).f0.f1).length c195_1) ∧ w'.cell? ⟨(ad183.add ((x7_1).toNat * 4)).block, (ad183.add ((x7_1).toNat * 4)).off + 2, none⟩ = some (.slice A195_2 ((rd_T40 l0 x7_1).f0.f2).length c195_2) ∧ w'.cell? ⟨(ad183.add ((x7_1).toNat * 4)).block, (ad183.add ((x7_1).toNat * 4)).off + 3, none⟩ = some (.int .u64 ((rd_T40 l0 x7_1).f1))) (ds := [10, 11]) #[false, false, false, false, false, false, false, false, false, false, false, false, false] (by kernel_rfl) rfl rfl ⟨(blk_cell BK182.out 0).trans rfl, (blk_cell BK182.out 1).trans rfl, (blk_cell BK182.out 2).trans rfl, hx195_0, hx195_1, hx195_2, hx195_3⟩ (fun hHeld => ?_); refine with_tabW gristmillref04_Put.tab7 gristmillref04_Put.bits7 (fun HT_ HW_ => ?_)
             generalize w26.drew = w27 at HO_0 HO_183001 HO_183002 HL183_1 HL183_2 HO189 HO192 HL193_1 HL193_2 BK182 HR193_1 HR193_2 HB HL195_1 HL195_2 HR195_1 HR195_2 hx195_0 hx195_1 hx195_2 hx195_3 hHeld ⊢
             refine pure_ (i := 0) (N := some 44) (v := ?_) (a' := ?_) #[true, false, false, false, false, false, false, false, false, false, false, false, false] rfl rfl (any_of HT_.out (by kernel_rfl)) (fun _ _ _ h => h) (Or.inl ⟨by rfl, ?_⟩) ?_ ?_
             rotate_left
             ·intro w'
              go_simp
              with_reducible rfl
             rotate_left
             ·simp only [Act.put, q1_, q2_, q3_, i64_w, i32_w]
              rfl
             refine pure_ (i := 2) (N := some 46) (v := ?_) (a' := ?_) #[true, false, true, false, false, false, false, false, false, false, false, false, false] rfl rfl (any_of HT_.out (by kernel_rfl)) (fun _ _ _ h => h) (Or.inl ⟨by rfl, ?_⟩) ?_ ?_
             rotate_left
             ·intro w'
              go_simp
              with_reducible rfl
             rotate_left
             ·simp only [Act.put, q1_, q2_, q3_, i64_w, i32_w]
              rfl
             refine pure_ (i := 3) (N := some 47) (v := ?_) (a' := ?_) #[true, false, true, true, false, false, false, false, false, false, false, false, false] rfl rfl (any_of HT_.out (by kernel_rfl)) (fun _ _ _ h => h) (Or.inl ⟨by rfl, ?_⟩) ?_ ?_
             rotate_left
             ·intro w'
              go_simp
              with_reducible rfl
             rotate_left
             ·simp only [Act.put, q1_, q2_, q3_, i64_w, i32_w]
              rfl
             refine pure_ (i := 4) (N := some 48) (v := ?_) (a' := ?_) #[true, false, true, true, true, false, false, false, false, false, false, false, false] rfl rfl (any_of HT_.out (by kernel_rfl)) (fun _ _ _ h => h) (Or.inl ⟨by rfl, ?_⟩) ?_ ?_
             rotate_left
             ·intro w'
              go_simp
              with_reducible rfl
             rotate_left
             ·simp only [Act.put, q1_, q2_, q3_, i64_w, i32_w]
              rfl
             refine pure_ (i := 5) (N := some 49) (v := ?_) (a' := ?_) #[true, false, true, true, true, true, false, false, false, false, false, false, false] rfl rfl (any_of HT_.out (by kernel_rfl)) (fun _ _ _ h => h) (Or.inl ⟨by rfl, ?_⟩) ?_ ?_
             rotate_left
             ·intro w'
              go_simp
              with_reducible rfl
             rotate_left
             ·simp only [Act.put, q1_, q2_, q3_, i64_w, i32_w]
              rfl
             refine pure_ (i := 7) (N := some 51) (v := ?_) (a' := ?_) #[true, false, true, true, true, true, false, true, false, false, false, false, false] rfl rfl (any_of HT_.out (by kernel_rfl)) (fun _ _ _ h => h) (Or.inl ⟨by rfl, ?_⟩) ?_ ?_
             rotate_left
             ·intro w'
              go_simp
              with_reducible rfl
             rotate_left
             ·simp only [Act.put, q1_, q2_, q3_, i64_w, i32_w]
              rfl
             refine take_ (i := 1) (N := some 45) (v := ?_) (a' := ?_) #[true, true, true, true, true, true, false, true, false, false, false, false, false] rfl rfl (take_ofW HT_.out HW_.out (by kernel_rfl)) (fun _ _ _ h => h) (Or.inl ⟨by rfl, ?_⟩) hHeld ?_ ?_
             rotate_left
             ·rintro w' ⟨s0, s1, s2, s3, s4, s5, s6⟩
              go_simp
              with_reducible rfl
             rotate_left
             ·simp only [Act.put, q1_, q2_, q3_, i64_w, i32_w]
              rfl
             refine take_ (i := 6) (N := some 50) (v := ?_) (a' := ?_) #[true, true, true, true, true, true, true, true, false, false, false, false, false] rfl rfl (take_ofW HT_.out HW_.out (by kernel_rfl)) (fun _ _ _ h => h) (Or.inl ⟨by rfl, ?_⟩) hHeld ?_ ?_
             rotate_left
             ·rintro w' ⟨s0, s1, s2, s3, s4, s5, s6⟩
              go_simp
              with_reducible rfl
             rotate_left
             ·simp only [Act.put, q1_, q2_, q3_, i64_w, i32_w]
              rfl
             refine pure_ (i := 8) (N := some 52) (v := ?_) (a' := ?_) #[true, true, true, true, true, true, true, true, true, false, false, false, false] rfl rfl (any_of HT_.out (by kernel_rfl)) (fun _ _ _ h => h) (Or.inl ⟨by rfl, ?_⟩) ?_ ?_
             rotate_left
             ·intro w'
              go_simp
              with_reducible rfl
             rotate_left
             ·simp only [Act.put, q1_, q2_, q3_, i64_w, i32_w]
              rfl
             refine pure_ (i := 9) (N := some 53) (v := ?_) (a' := ?_) #[true, true, true, true, true, true, true, true, true, true, false, false, false] rfl rfl (any_of HT_.out (by kernel_rfl)) (fun _ _ _ h => h) (Or.inl ⟨by rfl, ?_⟩) ?_ ?_
             rotate_left
             ·intro w'
              go_simp
              with_reducible rfl
             rotate_left
             ·simp only [Act.put, q1_, q2_, q3_, i64_w, i32_w]
              rfl
             refine last_ (i := 10) (N := some 54) #[true, true, true, true, true, true, true, true, true, true, true, false, false] rfl rfl (one_of HT_.out (by kernel_rfl)) (by decide) (fun K hK => ?_)
             refine value_ (w1 := ?_) (v := ?_) (by rfl) rfl ?_ ?_
             rotate_left 2
             ·go_simp
              constructor
              ·rfl
              ·rfl
             refine hK.out _ _ ?_
             clear hK K
             refine norm_ (a' := ?_) ?_ ?_
             rotate_left
             ·show Act.put _ (some 54) _ = _
              simp only [Act.put, q1_, q2_, q3_, i64_w, i32_w]
              rfl
             refine last_ (i := 11) (N := some 55) #[true, true, true, true, true, true, true, true, true, true, true, true, false] rfl rfl (one_of HT_.out (by kernel_rfl)) (by decide) (fun K hK => ?_)
             refine Kd.N_append_step k40 (w0 := w) w.heap.size (by rfl) (.tmp 44) (.tmp 54) 36 40 (.agg #[(.int .i64 0), (.slice none 0 0), (.slice none 0 0), (.int .u64 0)]) 64 rfl Try.underlying36 info40 rfl (by decide) (by omega) v191 y190 (⟨(⟨a1_0, l1_1, l1_2⟩ : S27), IntKind.u64.wrap (((rd_T40 l0 x7_1).f1) + a2)⟩ : S40) [.int .i64 a1_0, .slice A1_1 l1_1.length c1_1, .slice A1_2 l1_2.length c1_2, .int .u64 (IntKind.u64.wrap (((rd_T40 l0 x7_1).f1) + a2))] (fun k_ => ((P0_ k_ ∨ P1_1_ k_ ∨ P1_2_ k_) ∨ w.heap.size ≤ k_) ∧ k_ ≠ gb182) (fun k_ => ((fun k_ => ((P0_ k_ ∨ P1_1_ k_ ∨ P1_2_ k_) ∨ w.heap.size ≤ k_) ∧ k_ ≠ gb182)) k_ ∧ some k_ ≠ (v191 : Value).ownBlock) rfl rfl ?aP (fun _ hk => hk) ?aF ?aO ?aB ?aS ?aL ?_
             (case aP => exact (k40_mkF _ _ (⟨(⟨a1_0, l1_1, l1_2⟩ : S27), IntKind.u64.wrap (((rd_T40 l0 x7_1).f1) + a2)⟩ : S40) (Kd.V_reads' (Kd.V_mono (ok' := (fun k_ => ((fun k_ => ((P0_ k_ ∨ P1_1_ k_ ∨ P1_2_ k_) ∨ w.heap.size ≤ k_) ∧ k_ ≠ gb182)) k_ ∧ some k_ ≠ (v191 : Value).ownBlock)) (HO_183001.out) (fun k_ hk => ⟨⟨hk.1.1, hk.1.2⟩, hk.2⟩))).2.1 (Kd.V_F (Kd.V_mono (ok' := (fun k_ => ((fun k_ => ((P0_ k_ ∨ P1_1_ k_ ∨ P1_2_ k_) ∨ w.heap.size ≤ k_) ∧ k_ ≠ gb182)) k_ ∧ some k_ ≠ (v191 : Value).ownBlock)) (HO_183001.out) (fun k_ hk => ⟨⟨hk.1.1, hk.1.2⟩, hk.2⟩))) (Kd.V_reads' (Kd.V_mono (ok' := (fun k_ => ((fun k_ => ((P0_ k_ ∨ P1_1_ k_ ∨ P1_2_ k_) ∨ w.heap.size ≤ k_) ∧ k_ ≠ gb182)) k_ ∧ some k_ ≠ (v191 : Value).ownBlock)) (HO_183002.out) (fun k_ hk => ⟨⟨hk.1.1, hk.1.2⟩, hk.2⟩))).2.1 (Kd.V_F (Kd.V_mono (ok' := (fun k_ => ((fun k_ => ((P0_ k_ ∨ P1_1_ k_ ∨ P1_2_ k_) ∨ w.heap.size ≤ k_) ∧ k_ ≠ gb182)) k_ ∧ some k_ ≠ (v191 : Value).ownBlock)) (HO_183002.out) (fun k_ hk => ⟨⟨hk.1.1, hk.1.2⟩, hk.2⟩)))))
             (case aB => exact (bw_ HB.out))
             (case aF => exact (fun k_ hk => ⟨(.inr (Nat.le_trans (below_size (bw_ HB.out)) hk)), Kd.freshB (g := gb182) (o := .cells #[.int .i64 a1_0, .slice A1_1 l1_1.length c1_1, .slice A1_2 l1_2.length c1_2] 27 (0, 0)) (bk_ BK182.out) k_ hk⟩))
             (case aO => exact (by (with_reducible repeat (first | apply Kd.N_alloc | apply Kd.N_drewN | apply Kd.N_drew)); exact HO192.out))
             (case aS => exact (below_size (bw_ HB.out)))
             (case aL => have := LMc16.out; omega)
             intro v197 w28 ho hb hg hat
             rw [← Ny196.out] at ho
             have n0_ := Aside0.mk (Kd.V_afterv (ok := (fun k_ => ((P0_ k_ ∨ P1_1_ k_ ∨ P1_2_ k_) ∨ w.heap.size ≤ k_) ∧ k_ ≠ gb182)) (by (with_reducible repeat (first | apply Kd.V_alloc | apply Kd.V_drewN | apply Kd.V_drew)); exact HO_0.out) hg hat)
             have n1_ := Aside0.mk (Kd.V_afterv (ok := (fun k_ => ((P0_ k_ ∨ P1_1_ k_ ∨ P1_2_ k_) ∨ w.heap.size ≤ k_) ∧ k_ ≠ gb182)) (by (with_reducible repeat (first | apply Kd.V_alloc | apply Kd.V_drewN | apply Kd.V_drew)); exact HO_183001.out) hg hat)
             have n2_ := Aside0.mk (Kd.V_afterv (ok := (fun k_ => ((P0_ k_ ∨ P1_1_ k_ ∨ P1_2_ k_) ∨ w.heap.size ≤ k_) ∧ k_ ≠ gb182)) (by (with_reducible repeat (first | apply Kd.V_alloc | apply Kd.V_drewN | apply Kd.V_drew)); exact HO_183002.out) hg hat)
             have n3_ := Aside0.mk (blk_grown (g := gb182) (o := .cells #[.int .i64 a1_0, .slice A1_1 l1_1.length c1_1, .slice A1_2 l1_2.length c1_2] 27 (0, 0)) (bk_ BK182.out) hg (Kd.N_ne HO192.out BK182.out (by decide)))
             have n4_ := Aside0.mk (Kd.V_afterv (ok := (fun k_ => ((P0_ k_ ∨ P1_1_ k_ ∨ P1_2_ k_) ∨ w.heap.size ≤ k_) ∧ k_ ≠ gb182)) (by (with_reducible repeat (first | apply Kd.V_alloc | apply Kd.V_drewN | apply Kd.V_drew)); exact HL183_1.out) hg hat)
             have n5_ := Aside0.mk (Kd.V_afterv (ok := (fun k_ => ((P0_ k_ ∨ P1_1_ k_ ∨ P1_2_ k_) ∨ w.heap.size ≤ k_) ∧ k_ ≠ gb182)) (by (with_reducible repeat (first | apply Kd.V_alloc | apply Kd.V_drewN | apply Kd.V_drew)); exact HL183_2.out) hg hat)
             have n6_ := Aside0.mk (Kd.V_afterv (ok := (fun k_ => ((P0_ k_ ∨ P1_1_ k_ ∨ P1_2_ k_) ∨ w.heap.size ≤ k_) ∧ k_ ≠ gb182)) (by (with_reducible repeat (first | apply Kd.V_alloc | apply Kd.V_drewN | apply Kd.V_drew)); exact HO189.out) hg hat)
             have n7_ := Aside0.mk (Kd.V_afterv (ok := (fun k_ => ((P0_ k_ ∨ P1_1_ k_ ∨ P1_2_ k_) ∨ w.heap.size ≤ k_) ∧ k_ ≠ gb182)) (by (with_reducible repeat (first | apply Kd.V_alloc | apply Kd.V_drewN | apply Kd.V_drew)); exact HL193_1.out) hg hat)
             have n8_ := Aside0.mk (Kd.V_afterv (ok := (fun k_ => ((P0_ k_ ∨ P1_1_ k_ ∨ P1_2_ k_) ∨ w.heap.size ≤ k_) ∧ k_ ≠ gb182)) (by (with_reducible repeat (first | apply Kd.V_alloc | apply Kd.V_drewN | apply Kd.V_drew)); exact HL193_2.out) hg hat)
             have n9_ := Aside0.mk (Kd.V_afterv (ok := (fun k_ => ((P0_ k_ ∨ P1_1_ k_ ∨ P1_2_ k_) ∨ w.heap.size ≤ k_) ∧ k_ ≠ gb182)) (by (with_reducible repeat (first | apply Kd.V_alloc | apply Kd.V_drewN | apply Kd.V_drew)); exact HL195_1.out) hg hat)
             have n10_ := Aside0.mk (Kd.V_afterv (ok := (fun k_ => ((P0_ k_ ∨ P1_1_ k_ ∨ P1_2_ k_) ∨ w.heap.size ≤ k_) ∧ k_ ≠ gb182)) (by (with_reducible repeat (first | apply Kd.V_alloc | apply Kd.V_drewN | apply Kd.V_drew)); exact HL195_2.out) hg hat)
             have n11_ := Aside0.mk (hb)
             have n12_ := Aside0.mk (ho)
             clear HO_0
             clear HO_183001
             clear HO_183002
             clear BK182
             clear HL183_1
             clear HL183_2
             clear HO189
             clear HL193_1
             clear HL193_2
             clear HL195_1
             clear HL195_2
             clear HB
             clear HO192
             have HO_0 := n0_
             have HO_183001 := n1_
             have HO_183002 := n2_
             have BK182 := n3_
             have HL183_1 := n4_
             have HL183_2 := n5_
             have HO189 := n6_
             have HL193_1 := n7_
             have HL193_2 := n8_
             have HL195_1 := n9_
             have HL195_2 := n10_
             have HB := n11_
             have HO198 := n12_
             clear n0_ n1_ n2_ n3_ n4_ n5_ n6_ n7_ n8_ n9_ n10_ n11_ n12_
             clear ho hb hg hat
             refine hK.out _ _ ?_
             clear hK K
             refine norm_ (a' := ?_) ?_ ?_
             rotate_left
             ·show Act.put _ (some 55) _ = _
              simp only [Act.put, q1_, q2_, q3_, i64_w, i32_w]
              rfl
             refine pure_ (i := 12) (N := some 8) (v := ?_) (a' := ?_) #[true, true, true, true, true, true, true, true, true, true, true, true, true] rfl rfl (any_of HT_.out (by kernel_rfl)) (fun _ _ _ h => h) (Or.inl ⟨by rfl, ?_⟩) ?_ ?_
             rotate_left
             ·intro w'
              go_simp
              with_reducible rfl
             rotate_left
             ·simp only [Act.put, q1_, q2_, q3_, i64_w, i32_w]
              rfl
             refine done_ (done_of HT_.out (by kernel_rfl)) ?_
             have q29 : ((ji17) : Int) ≤ ((l0.length : Int) : Int) := of_decide_eq_true (by assumption)
             obtain ⟨i029, hi029, _, hsz29, _⟩ := info_parts info40
             have hroom29 : l0.length ≤ c0 := (Kd.V_reads' HO_0.out).2.1
             have hC29 : Kd.F k40 _ _ (some ad183) l0.length l0 := (Kd.V_at (base := w.heap.size) HO_0.out).2.2
             have q029 : (0 : Int) ≤ ((ji17) : Int) := of_decide_eq_true (by assumption)
             have hcut29 := cut_from (P := Try.prog) 36 40 .i64 Try.underlying36 hi029 4 hsz29 (some ad183) l0.length c0 (ji17) q029 q29
             have hr29 := Kd.F_cut (m := ((ji17) : Int).toNat) (c := c0) hC29 (by omega) hroom29
             obtain ⟨A29, hA29⟩ : ∃ A1, A1 = (if c0 = ((ji17) : Int).toNat then (some ad183) else ((some ad183) : Option Addr).map (·.add (((ji17) : Int).toNat * 4))) := ⟨_, rfl⟩
             obtain ⟨c29, hc29⟩ : ∃ c1, c1 = c0 - ((ji17) : Int).toNat := ⟨_, rfl⟩
             have hy29 : y199.length = l0.length - ((ji17) : Int).toNat := (by rw [Ny199.out, List.length_drop] <;> omega)
             rw [show (l0).drop ((ji17) : Int).toNat = y199 from Ny199.out.symm] at hr29
             replace hr29 : Kd.F k40 _ _ A29 y199.length y199 := (by rw [hA29]; exact hr29)
             rw [← hy29, ← hA29, ← hc29] at hcut29
             have HO203 := Aside0.mk (show Kd.V k40 40 _ w.heap.size _ (.slice A29 y199.length c29) y199 from Kd.V_mk (by rw [hy29, hc29]; exact Nat.sub_le_sub_right hroom29 _) hr29)
             have HC203 := Aside0.mk (show y199.length ≤ c29 from by rw [hy29, hc29]; exact Nat.sub_le_sub_right hroom29 _)
             clear hr29 hC29 hroom29 hi029 hsz29 hc29
             have KY29 := Aside0.mk hy29
             have KA29 := Aside0.mk hA29
             clear hy29 hA29
             replace q29 := eq_true q29
             try go_wp2_with (first | ((with_reducible refine gate_builtin (b := .append) (xs := #[.tmp 56, .tmp 60]) rfl ?_); at_builtin; refine Kd.N_append_rows k40 (w0 := w) w.heap.size rfl (.tmp 56) (.tmp 60) 36 40 (.agg #[(.int .i64 0), (.slice none 0 0), (.slice none 0 0), (.int .u64 0)]) 64 rfl Try.underlying36 info40 rfl (by decide) (by omega) v197 y196 y199 _ _ _ (fun k_ => ((P0_ k_ ∨ P1_1_ k_ ∨ P1_2_ k_) ∨ w.heap.size ≤ k_) ∧ k_ ≠ gb182) (fun k_ => ((fun k_ => ((P0_ k_ ∨ P1_1_ k_ ∨ P1_2_ k_) ∨ w.heap.size ≤ k_) ∧ k_ ≠ gb182)) k_ ∧ some k_ ≠ (v197 : Value).ownBlock) rfl rfl ?aO ?aR (fun _ hk => hk) ?aF ?aB ?aS ?aL ?_; (case aR => exact (by skip; exact Kd.V_F (Kd.V_mono (ok' := (fun k_ => ((fun k_ => ((P0_ k_ ∨ P1_1_ k_ ∨ P1_2_ k_) ∨ w.heap.size ≤ k_) ∧ k_ ≠ gb182)) k_ ∧ some k_ ≠ (v197 : Value).ownBlock)) (HO203.out) (fun k_ hk => ⟨⟨hk.1.1, hk.1.2⟩, hk.2⟩)))); (case aB => exact (bw_ HB.out)); (case aF => exact (fun k_ hk => ⟨(.inr (Nat.le_trans (below_size (bw_ HB.out)) hk)), Kd.freshB (g := gb182) (o := .cells #[.int .i64 a1_0, .slice A1_1 l1_1.length c1_1, .slice A1_2 l1_2.length c1_2] 27 (0, 0)) (bk_ BK182.out) k_ hk⟩)); (case aO => exact (by (with_reducible repeat (first | apply Kd.N_alloc | apply Kd.N_drewN | apply Kd.N_drew)); exact HO198.out)); (case aS => exact (below_size (bw_ HB.out))); (case aL => have := LMc20.out; omega); intro v205 w30 ho hb hg hat; rw [← Ny204.out] at ho; have n0_ := Aside0.mk (Kd.V_afterv (ok := (fun k_ => ((P0_ k_ ∨ P1_1_ k_ ∨ P1_2_ k_) ∨ w.heap.size ≤ k_) ∧ k_ ≠ gb182)) (by (with_reducible repeat (first | apply Kd.V_alloc | apply Kd.V_drewN | apply Kd.V_drew)); exact HO_0.out) hg hat); have n1_ := Aside0.mk (Kd.V_afterv (ok := (fun k_ => ((P0_ k_ ∨ P1_1_ k_ ∨ P1_2_ k_) ∨ w.heap.size ≤ k_) ∧ k_ ≠ gb182)) (by (with_reducible repeat (first | apply Kd.V_alloc | apply Kd.V_drewN | apply Kd.V_drew)); exact HO_183001.out) hg hat); have n2_ := Aside0.mk (Kd.V_afterv (ok := (fun k_ => ((P0_ k_ ∨ P1_1_ k_ ∨ P1_2_ k_) ∨ w.heap.size ≤ k_) ∧ k_ ≠ gb182)) (by (with_reducible repeat (first | apply Kd.V_alloc | apply Kd.V_drewN | apply Kd.V_drew)); exact HO_183002.out) hg hat); have n3_ := Aside0.mk (blk_grown (g := gb182) (o := .cells #[.int .i64 a1_0, .slice A1_1 l1_1.length c1_1, .slice A1_2 l1_2.length c1_2] 27 (0, 0)) (bk_ BK182.out) hg (Kd.N_ne HO198.out BK182.out (by decide))); have n4_ := Aside0.mk (Kd.V_afterv (ok := (fun k_ => ((P0_ k_ ∨ P1_1_ k_ ∨ P1_2_ k_) ∨ w.heap.size ≤ k_) ∧ k_ ≠ gb182)) (by (with_reducible repeat (first | apply Kd.V_alloc | apply Kd.V_drewN | apply Kd.V_drew)); exact HL183_1.out) hg hat); have n5_ := Aside0.mk (Kd.V_afterv (ok := (fun k_ => ((P0_ k_ ∨ P1_1_ k_ ∨ P1_2_ k_) ∨ w.heap.size ≤ k_) ∧ k_ ≠ gb182)) (by (with_reducible repeat (first | apply Kd.V_alloc | apply Kd.V_drewN | apply Kd.V_drew)); exact HL183_2.out) hg hat); have n6_ := Aside0.mk (Kd.V_afterv (ok := (fun k_ => ((P0_ k_ ∨ P1_1_ k_ ∨ P1_2_ k_) ∨ w.heap.size ≤ k_) ∧ k_ ≠ gb182)) (by (with_reducible repeat (first | apply Kd.V_alloc | apply Kd.V_drewN | apply Kd.V_drew)); exact HO189.out) hg hat); have n7_ := Aside0.mk (Kd.V_afterv (ok := (fun k_ => ((P0_ k_ ∨ P1_1_ k_ ∨ P1_2_ k_) ∨ w.heap.size ≤ k_) ∧ k_ ≠ gb182)) (by (with_reducible repeat (first | apply Kd.V_alloc | apply Kd.V_drewN | apply Kd.V_drew)); exact HL193_1.out) hg hat); have n8_ := Aside0.mk (Kd.V_afterv (ok := (fun k_ => ((P0_ k_ ∨ P1_1_ k_ ∨ P1_2_ k_) ∨ w.heap.size ≤ k_) ∧ k_ ≠ gb182)) (by (with_reducible repeat (first | apply Kd.V_alloc | apply Kd.V_drewN | apply Kd.V_drew)); exact HL193_2.out) hg hat); have n9_ := Aside0.mk (Kd.V_afterv (ok := (fun k_ => ((P0_ k_ ∨ P1_1_ k_ ∨ P1_2_ k_) ∨ w.heap.size ≤ k_) ∧ k_ ≠ gb182)) (by (with_reducible repeat (first | apply Kd.V_alloc | apply Kd.V_drewN | apply Kd.V_drew)); exact HL195_1.out) hg hat); have n10_ := Aside0.mk (Kd.V_afterv (ok := (fun k_ => ((P0_ k_ ∨ P1_1_ k_ ∨ P1_2_ k_) ∨ w.heap.size ≤ k_) ∧ k_ ≠ gb182)) (by (with_reducible repeat (first | apply Kd.V_alloc | apply Kd.V_drewN | apply Kd.V_drew)); exact HL195_2.out) hg hat); have n11_ := Aside0.mk (Kd.V_afterv (ok := (fun k_ => ((P0_ k_ ∨ P1_1_ k_ ∨ P1_2_ k_) ∨ w.heap.size ≤ k_) ∧ k_ ≠ gb182)) (by (with_reducible repeat (first | apply Kd.V_alloc | apply Kd.V_drewN | apply Kd.V_drew)); exact HO203.out) hg hat); have n12_ := Aside0.mk (hb); have n13_ := Aside0.mk (ho); clear HO_0 HO_183001 HO_183002 BK182 HL183_1 HL183_2 HO189 HL193_1 HL193_2 HL195_1 HL195_2 HO203 HB HO198; have HO_0 := n0_; have HO_183001 := n1_; have HO_183002 := n2_; have BK182 := n3_; have HL183_1 := n4_; have HL183_2 := n5_; have HO189 := n6_; have HL193_1 := n7_; have HL193_2 := n8_; have HL195_1 := n9_; have HL195_2 := n10_; have HO203 := n11_; have HB := n12_; have HO206 := n13_; clear n0_ n1_ n2_ n3_ n4_ n5_ n6_ n7_ n8_ n9_ n10_ n11_ n12_ n13_; clear ho hb hg hat))
             go_ret
             exact ⟨_, by first | rfl | (simp [errW_none, errW_some] <;> rfl) | (simp only [← hji17]; first | rfl | (simp [errW_none, errW_some] <;> rfl)) | (simp [*, errW_none, errW_some] <;> rfl), by (with_reducible repeat (first | apply Kd.N_alloc | apply Kd.N_drewN | apply Kd.N_drew)); exact Kd.N_mono HO206.out (fun _ hk => hk.1), by repeat (first | (with_reducible first | exact HB.out | apply below_alloc | apply pw_below_drewN | apply below_drew1 | refine below_set ?_ GE182.out) | exact HB.out)⟩
            ·rw [if_neg c20] at H
             exact absurd H (by simp)
           ·rw [if_neg c19] at H
            exact absurd H (by simp)
          ·rw [if_neg c18] at H
           exact absurd H (by simp)
         ·rw [if_neg c16] at H
          exact absurd H (by simp)
        ·rw [if_neg c15] at H
         have c15b0 : (t194 == 0) = false := beq_eq_false_iff_ne.mpr c15
         have c15b1 : (t194 != 0) = true := bne_iff_ne.mpr c15
         by_cases c31 : y190.length < 2199023255552
         ·rw [if_pos c31] at H
          have LMc31 := Aside0.mk c31
          clear c31
          obtain ⟨y207, hy207⟩ : ∃ y_ : List (S40), y_ = (y190 ++ [(⟨(⟨a1_0, l1_1, l1_2⟩ : S27), a2⟩ : S40)]) := ⟨_, rfl⟩
          replace H : ((some (l0.drop (x7_1 : Int).toNat : List (S40))).bind fun y210 => (if y207.length + y210.length < 2199023255552 then (some (y207 ++ y210)) else (none))) = some r := by first | (rw [hy207]; with_reducible exact H) | (have H2_ := (Option.bind_some _ _).symm.trans H; rw [hy207]; with_reducible exact H2_) | (have H2_ := (Option.bind_some _ _).symm.trans H; with_reducible exact H2_) | with_reducible exact H | (rw [hy207]; exact H) | exact H
          have Ny207 := Aside0.mk hy207
          clear hy207
          have c32b0 := eq_true (of_decide_eq_true (by assumption) : 0 ≤ x7_1)
          have c33b0 := eq_true (of_decide_eq_true (by assumption) : x7_1 ≤ (l0.length : Int))
          obtain ⟨y210, hy210⟩ : ∃ y_ : List (S40), y_ = (l0.drop (x7_1 : Int).toNat) := ⟨_, rfl⟩
          replace H : (if y207.length + y210.length < 2199023255552 then (some (y207 ++ y210)) else (none)) = some r := by first | (rw [hy210]; with_reducible exact H) | (have H2_ := (Option.bind_some _ _).symm.trans H; rw [hy210]; with_reducible exact H2_) | (have H2_ := (Option.bind_some _ _).symm.trans H; with_reducible exact H2_) | with_reducible exact H | (rw [hy210]; exact H) | exact H
          have Ny210 := Aside0.mk hy210
          clear hy210
          by_cases c34 : y207.length + y210.length < 2199023255552
          ·rw [if_pos c34] at H
           have LMc34 := Aside0.mk c34
           clear c34
           obtain ⟨y215, hy215⟩ : ∃ y_ : List (S40), y_ = (y207 ++ y210) := ⟨_, rfl⟩
           replace H : (some y215) = some r := by first | (rw [hy215]; with_reducible exact H) | (have H2_ := (Option.bind_some _ _).symm.trans H; rw [hy215]; with_reducible exact H2_) | (have H2_ := (Option.bind_some _ _).symm.trans H; with_reducible exact H2_) | with_reducible exact H | (rw [hy215]; exact H) | exact H
           have Ny215 := Aside0.mk hy215
           clear hy215
           obtain rfl := Option.some.inj H
           try go_wp2
           have n0_ := Aside0.mk (Kd.V_drew HO_0.out)
           have n1_ := Aside0.mk (Kd.V_drew HO_183001.out)
           have n2_ := Aside0.mk (Kd.V_drew HO_183002.out)
           have n3_ := Aside0.mk (blk_drew BK182.out)
           have n4_ := Aside0.mk (below_drew1 HB.out)
           clear HO_0
           clear HO_183001
           clear HO_183002
           clear BK182
           clear HB
           have HO_0 := n0_
           have HO_183001 := n1_
           have HO_183002 := n2_
           have BK182 := n3_
           have HB := n4_
           clear n0_ n1_ n2_ n3_ n4_
           have p183 : 0 ≤ (x7_1 : Int) := of_decide_eq_true (by assumption)
           have q183 : x7_1 < (l0.length : Int) := of_decide_eq_true (by assumption)
           obtain ⟨ad183, A183_1, c183_1, A183_2, c183_2, e183, hx183_0, hx183_1, hx183_2, hx183_3, hl183_1, hi183_1, hl183_2, hi183_2⟩ := at_T40 (Kd.V_reads' HO_0.out).2.2 x7_1 p183 q183
           cases e183
           obtain ⟨ce183, hce183, hMe183, hcc183⟩ := Kd.V_get HO_0.out z40 x7_1 p183 (by first | exact q183 | exact of_decide_eq_true (by assumption) | (have e_ := (Kd.V_reads' HO_0.out).1; omega))
           obtain ⟨ua183_1, uc183_1, ua183_2, uc183_2, rfl, ul183_1, ge183_1, ul183_2, ge183_2⟩ := k40_openF hMe183
           have hv183_1 := hcc183 1 _ rfl
           rw [add_field _ _ 1 (by omega)] at hv183_1
           replace hv183_1 := Option.some.inj (hv183_1.symm.trans hx183_1)
           injection hv183_1 with hva_ hvn_ hvc_
           rw [hva_] at ge183_1
           rw [hvc_] at ul183_1
           have HL183_1 := Aside0.mk (show Kd.V Kd.string 9 _ w.heap.size _ _ ((rd_T40 l0 x7_1).f0.f1) from Kd.V_mk ul183_1 ge183_1)
           clear hva_ hvn_ hvc_ ge183_1 ul183_1
           have hv183_2 := hcc183 2 _ rfl
           rw [add_field _ _ 2 (by omega)] at hv183_2
           replace hv183_2 := Option.some.inj (hv183_2.symm.trans hx183_2)
           injection hv183_2 with hva_ hvn_ hvc_
           rw [hva_] at ge183_2
           rw [hvc_] at ul183_2
           have HL183_2 := Aside0.mk (show Kd.V (Kd.int .i64) 2 _ w.heap.size _ _ ((rd_T40 l0 x7_1).f0.f2) from Kd.V_mk ul183_2 ge183_2)
           clear hva_ hvn_ hvc_ ge183_2 ul183_2
           clear hcc183 hce183
           have HR183_1 := Aside0.mk hi183_1
           have HC183_1 := Aside0.mk hl183_1
           clear hi183_1 hl183_1
           have HR183_2 := Aside0.mk hi183_2
           have HC183_2 := Aside0.mk hl183_2
           clear hi183_2 hl183_2
           replace p183 := eq_true p183
           replace q183 := eq_true q183
           refine start_ (n := 14) (S := fun w' => w'.cell? ⟨gb182, 0, none⟩ = some (.int .i64 a1_0) ∧ w'.cell? ⟨gb182, 1, none⟩ = some (.slice A1_1 l1_1.length c1_1) ∧ w'.cell? ⟨gb182, 2, none⟩ = some (.slice A1_2 l1_2.length c1_2) ∧ w'.cell? (ad183.add ((x7_1).toNat * 4)) = some (.int .i64 ((rd_T40 l0 x7_1).f0.f0)) ∧ w'.cell? ⟨(ad183.add ((x7_1).toNat * 4)).block, (ad183.add ((x7_1).toNat * 4)).off + 1, none⟩ = some (.slice A183_1 ((rd_T40 l0 x7_1).f0.f1).length c183_1) ∧ w'.cell? ⟨(ad183.add ((x7_1).toNat * 4)).block, (ad183.add ((x7_1).toNat * 4)).off + 2, none⟩ = some (.slice A183_2 ((rd_T40 l0 x7_1).f0.f2).length c183_2) ∧ w'.cell? ⟨(ad183.add ((x7_1).toNat * 4)).block, (ad183.add ((x7_1).toNat * 4)).off + 3, none⟩ = some (.int .u64 ((rd_T40 l0 x7_1).f1))) (ds := []) #[false, false, false, false, false, false, false, false, false, false, false, false, false, false] (by kernel_rfl) rfl rfl ⟨(blk_cell BK182.out 0).trans rfl, (blk_cell BK182.out 1).trans rfl, (blk_cell BK182.out 2).trans rfl, hx183_0, hx183_1, hx183_2, hx183_3⟩ (fun hHeld => ?_); refine with_tabW gristmillref04_Put.tab2 gristmillref04_Put.bits2 (fun HT_ HW_ => ?_)
           generalize wr.drew = w35 at HO_0 HO_183001 HO_183002 BK182 HB HL183_1 HL183_2 HR183_1 HR183_2 hx183_0 hx183_1 hx183_2 hx183_3 hHeld ⊢
           refine pure_ (i := 0) (N := some 9) (v := ?_) (a' := ?_) #[true, false, false, false, false, false, false, false, false, false, false, false, false, false] rfl rfl (any_of HT_.out (by kernel_rfl)) (fun _ _ _ h => h) (Or.inl ⟨by rfl, ?_⟩) ?_ ?_
           rotate_left
           ·intro w'
            go_simp
            with_reducible rfl
           rotate_left
           ·simp only [Act.put, q1_, q2_, q3_, i64_w, i32_w]
            rfl
           refine pure_ (i := 1) (N := some 10) (v := ?_) (a' := ?_) #[true, true, false, false, false, false, false, false, false, false, false, false, false, false] rfl rfl (any_of HT_.out (by kernel_rfl)) (fun _ _ _ h => h) (Or.inl ⟨by rfl, ?_⟩) ?_ ?_
           rotate_left
           ·intro w'
            go_simp
            with_reducible rfl
           rotate_left
           ·simp only [Act.put, q1_, q2_, q3_, i64_w, i32_w]
            rfl
           refine pure_ (i := 2) (N := some 11) (v := ?_) (a' := ?_) #[true, true, true, false, false, false, false, false, false, false, false, false, false, false] rfl rfl (any_of HT_.out (by kernel_rfl)) (fun _ _ _ h => h) (Or.inl ⟨by rfl, ?_⟩) ?_ ?_
           rotate_left
           ·intro w'
            go_simp
            with_reducible rfl
           rotate_left
           ·simp only [Act.put, q1_, q2_, q3_, i64_w, i32_w]
            rfl
           refine pure_ (i := 3) (N := some 12) (v := ?_) (a' := ?_) #[true, true, true, true, false, false, false, false, false, false, false, false, false, false] rfl rfl (any_of HT_.out (by kernel_rfl)) (fun _ _ _ h => h) (Or.inl ⟨by rfl, ?_⟩) ?_ ?_
           rotate_left
           ·intro w'
            go_simp
            with_reducible rfl
           rotate_left
           ·simp only [Act.put, q1_, q2_, q3_, i64_w, i32_w]
            rfl
           refine pure_ (i := 4) (N := some 13) (v := ?_) (a' := ?_) #[true, true, true, true, true, false, false, false, false, false, false, false, false, false] rfl rfl (any_of HT_.out (by kernel_rfl)) (fun _ _ _ h => h) (Or.inl ⟨by rfl, ?_⟩) ?_ ?_
           rotate_left
           ·intro w'
            go_simp
            with_reducible rfl
           rotate_left
           ·simp only [Act.put, q1_, q2_, q3_, i64_w, i32_w]
            rfl
           refine pure_ (i := 5) (N := some 14) (v := ?_) (a' := ?_) #[true, true, true, true, true, true, false, false, false, false, false, false, false, false] rfl rfl (any_of HT_.out (by kernel_rfl)) (fun _ _ _ h => h) (Or.inl ⟨by rfl, ?_⟩) ?_ ?_
           rotate_left
           ·intro w'
            go_simp
            with_reducible rfl
           rotate_left
           ·simp only [Act.put, q1_, q2_, q3_, i64_w, i32_w]
            rfl
           refine pure_ (i := 6) (N := some 15) (v := ?_) (a' := ?_) #[true, true, true, true, true, true, true, false, false, false, false, false, false, false] rfl rfl (any_of HT_.out (by kernel_rfl)) (fun _ _ _ h => h) (Or.inl ⟨by rfl, ?_⟩) ?_ ?_
           rotate_left
           ·intro w'
            go_simp
            with_reducible rfl
           rotate_left
           ·simp only [Act.put, q1_, q2_, q3_, i64_w, i32_w]
            rfl
           refine pure_ (i := 7) (N := some 16) (v := ?_) (a' := ?_) #[true, true, true, true, true, true, true, true, false, false, false, false, false, false] rfl rfl (any_of HT_.out (by kernel_rfl)) (fun _ _ _ h => h) (Or.inl ⟨by rfl, ?_⟩) ?_ ?_
           rotate_left
           ·intro w'
            go_simp
            with_reducible rfl
           rotate_left
           ·simp only [Act.put, q1_, q2_, q3_, i64_w, i32_w]
            rfl
           refine pure_ (i := 8) (N := some 17) (v := ?_) (a' := ?_) #[true, true, true, true, true, true, true, true, true, false, false, false, false, false] rfl rfl (any_of HT_.out (by kernel_rfl)) (fun _ _ _ h => h) (Or.inl ⟨by rfl, ?_⟩) ?_ ?_
           rotate_left
           ·intro w'
            go_simp
            with_reducible rfl
           rotate_left
           ·simp only [Act.put, q1_, q2_, q3_, i64_w, i32_w]
            rfl
           refine take_ (i := 9) (N := some 18) (v := ?_) (a' := ?_) #[true, true, true, true, true, true, true, true, true, true, false, false, false, false] rfl rfl (take_ofW HT_.out HW_.out (by kernel_rfl)) (fun _ _ _ h => h) (Or.inl ⟨by rfl, ?_⟩) hHeld ?_ ?_
           rotate_left
           ·rintro w' ⟨s0, s1, s2, s3, s4, s5, s6⟩
            go_simp
            with_reducible rfl
           rotate_left
           ·simp only [Act.put, q1_, q2_, q3_, i64_w, i32_w]
            rfl
           refine take_ (i := 10) (N := some 19) (v := ?_) (a' := ?_) #[true, true, true, true, true, true, true, true, true, true, true, false, false, false] rfl rfl (take_ofW HT_.out HW_.out (by kernel_rfl)) (fun _ _ _ h => h) (Or.inl ⟨by rfl, ?_⟩) hHeld ?_ ?_
           rotate_left
           ·rintro w' ⟨s0, s1, s2, s3, s4, s5, s6⟩
            go_simp
            with_reducible rfl
           rotate_left
           ·simp only [Act.put, q1_, q2_, q3_, i64_w, i32_w]
            rfl
           refine one_ (i := 11) (N := some 20) #[true, true, true, true, true, true, true, true, true, true, true, true, false, false] rfl rfl (one_of HT_.out (by kernel_rfl)) (by decide) (fun K hK => ?_)
           refine goes_ Try.func15 (by kernel_rfl) rfl #[.agg #[.int .i64 ((rd_T40 l0 x7_1).f0.f0), .slice A183_1 ((rd_T40 l0 x7_1).f0.f1).length c183_1, .slice A183_2 ((rd_T40 l0 x7_1).f0.f2).length c183_2], .agg #[.int .i64 a1_0, .slice A1_1 l1_1.length c1_1, .slice A1_2 l1_2.length c1_2]] (by rfl) rfl rfl (by (try simp only [List.map_toArray, List.map_cons, List.map_nil]); first | done | rfl | (simp only [List.length_drop, List.length_take]; rfl)) ?_
           with_reducible refine (gristmillref04_Compare.calls k1 ((rd_T40 l0 x7_1).f0.f0) _ _ ((rd_T40 l0 x7_1).f0.f1) _ _ ((rd_T40 l0 x7_1).f0.f2) a1_0 _ _ l1_1 _ _ l1_2 t184 _ ?side1 ?side2 ?side3 ?side4 ?side5 ?side6 ?side7 ?side8 A7.out).mono ?_
           (case side1 => repeat (first | exact (by repeat (first | (with_reducible exact HR183_1.out) | (with_reducible refine Kd.C_alloc ?_ _) | (with_reducible refine Kd.C_drewN ?_ _) | (with_reducible refine Kd.C_drew ?_) | exact HR183_1.out)) | (with_reducible refine Kd.C_alloc ?_ _) | (with_reducible refine Kd.C_drewN ?_ _) | (with_reducible refine Kd.C_drew ?_)))
           (case side2 => exact HC183_1.out)
           (case side3 => repeat (first | exact (by repeat (first | (with_reducible exact HR183_2.out) | (with_reducible refine Kd.C_alloc ?_ _) | (with_reducible refine Kd.C_drewN ?_ _) | (with_reducible refine Kd.C_drew ?_) | exact HR183_2.out)) | (with_reducible refine Kd.C_alloc ?_ _) | (with_reducible refine Kd.C_drewN ?_ _) | (with_reducible refine Kd.C_drew ?_)))
           (case side4 => exact HC183_2.out)
           (case side5 => repeat (first | exact (Kd.V_reads' HO_183001.out).2.2 | (with_reducible refine Kd.C_alloc ?_ _) | (with_reducible refine Kd.C_drewN ?_ _) | (with_reducible refine Kd.C_drew ?_)))
           (case side6 => exact (Kd.V_reads' HO_183001.out).2.1)
           (case side7 => repeat (first | exact (Kd.V_reads' HO_183002.out).2.2 | (with_reducible refine Kd.C_alloc ?_ _) | (with_reducible refine Kd.C_drewN ?_ _) | (with_reducible refine Kd.C_drew ?_)))
           (case side8 => exact (Kd.V_reads' HO_183002.out).2.1)
           rintro e w36 ⟨rfl, hb⟩
           have HS3_ := (hb.cell (World.block_lt_of_cell? _ _ (hHeld.2.2.2.1))).trans (hHeld.2.2.2.1)
           have HS4_ := (hb.cell (World.block_lt_of_cell? _ _ (hHeld.2.2.2.2.1))).trans (hHeld.2.2.2.2.1)
           have HS5_ := (hb.cell (World.block_lt_of_cell? _ _ (hHeld.2.2.2.2.2.1))).trans (hHeld.2.2.2.2.2.1)
           have HS6_ := (hb.cell (World.block_lt_of_cell? _ _ (hHeld.2.2.2.2.2.2))).trans (hHeld.2.2.2.2.2.2)
           refine ⟨_, rfl, ?_⟩
           have n0_ := Aside0.mk (Kd.V_below (by (with_reducible repeat (first | apply Kd.V_alloc | apply Kd.V_drewN | apply Kd.V_drew)); exact HO_0.out) hb)
           have n1_ := Aside0.mk (Kd.V_below (by (with_reducible repeat (first | apply Kd.V_alloc | apply Kd.V_drewN | apply Kd.V_drew)); exact HO_183001.out) hb)
           have n2_ := Aside0.mk (Kd.V_below (by (with_reducible repeat (first | apply Kd.V_alloc | apply Kd.V_drewN | apply Kd.V_drew)); exact HO_183002.out) hb)
           have n3_ := Aside0.mk (Kd.V_below (by (with_reducible repeat (first | apply Kd.V_alloc | apply Kd.V_drewN | apply Kd.V_drew)); exact HL183_1.out) hb)
           have n4_ := Aside0.mk (Kd.V_below (by (with_reducible repeat (first | apply Kd.V_alloc | apply Kd.V_drewN | apply Kd.V_drew)); exact HL183_2.out) hb)
           have n5_ := Aside0.mk (blk_below (bk_ BK182.out) hb)
           have n6_ := Aside0.mk (Kd.C_below (by repeat (first | (with_reducible exact HR183_1.out) | (with_reducible refine Kd.C_alloc ?_ _) | (with_reducible refine Kd.C_drewN ?_ _) | (with_reducible refine Kd.C_drew ?_) | exact HR183_1.out)) hb)
           have n7_ := Aside0.mk (Kd.C_below (by repeat (first | (with_reducible exact HR183_2.out) | (with_reducible refine Kd.C_alloc ?_ _) | (with_reducible refine Kd.C_drewN ?_ _) | (with_reducible refine Kd.C_drew ?_) | exact HR183_2.out)) hb)
           have n8_ := Aside0.mk (below_step (bw_ HB.out) hb)
           clear HO_0
           clear HO_183001
           clear HO_183002
           clear HL183_1
           clear HL183_2
           clear BK182
           clear HR183_1
           clear HR183_2
           clear HB
           have HO_0 := n0_
           have HO_183001 := n1_
           have HO_183002 := n2_
           have HL183_1 := n3_
           have HL183_2 := n4_
           have BK182 := n5_
           have HR183_1 := n6_
           have HR183_2 := n7_
           have HB := n8_
           clear n0_ n1_ n2_ n3_ n4_ n5_ n6_ n7_ n8_
           (try clear hb)
           (try clear hb2)
           (try clear hk)
           (try clear hi)
           refine hK.out _ _ ⟨(blk_cell BK182.out 0).trans rfl, (blk_cell BK182.out 1).trans rfl, (blk_cell BK182.out 2).trans rfl, HS3_, HS4_, HS5_, HS6_⟩ (fun hHeld => ?_)
           clear hK K
           refine norm_ (a' := ?_) ?_ ?_
           rotate_left
           ·show Act.put _ (some 20) _ = _
            simp only [Act.put, q1_, q2_, q3_, i64_w, i32_w]
            rfl
           refine pure_ (i := 12) (N := some 21) (v := ?_) (a' := ?_) #[true, true, true, true, true, true, true, true, true, true, true, true, true, false] rfl rfl (any_of HT_.out (by kernel_rfl)) (fun _ _ _ h => h) (Or.inl ⟨by rfl, ?_⟩) ?_ ?_
           rotate_left
           ·intro w'
            go_simp
            with_reducible rfl
           rotate_left
           ·simp only [Act.put, q1_, q2_, q3_, i64_w, i32_w]
            rfl
           refine pure_ (i := 13) (N := some 22) (v := ?_) (a' := ?_) #[true, true, true, true, true, true, true, true, true, true, true, true, true, true] rfl rfl (any_of HT_.out (by kernel_rfl)) (fun _ _ _ h => h) (Or.inl ⟨by rfl, ?_⟩) ?_ ?_
           rotate_left
           ·intro w'
            go_simp
            with_reducible rfl
           rotate_left
           ·simp only [Act.put, q1_, q2_, q3_, i64_w, i32_w]
            rfl
           refine done_ (done_of HT_.out (by kernel_rfl)) ?_
           have q37 : (x7_1 : Int) ≤ ((l0.length : Int) : Int) := of_decide_eq_true (by assumption)
           obtain ⟨i037, hi037, _, hsz37, _⟩ := info_parts info40
           have hroom37 : l0.length ≤ c0 := (Kd.V_reads' HO_0.out).2.1
           have hC37 : Kd.F k40 _ _ (some ad183) l0.length l0 := (Kd.V_at (base := w.heap.size) HO_0.out).2.2
           have hcut37 := cut_to (P := Try.prog) 36 40 .i64 Try.underlying36 hi037 (some ad183) l0.length c0 x7_1 (of_decide_eq_true (by assumption)) q37 hroom37
           have hr37 := Kd.F_take (m := (x7_1 : Int).toNat) hC37 (by omega)
           have hy37 : y185.length = (x7_1 : Int).toNat := (by rw [Ny185.out, List.length_take]; omega)
           rw [← Ny185.out] at hr37
           rw [← hy37] at hcut37
           have HO189 := Aside0.mk (show Kd.V k40 40 _ w.heap.size _ (.slice (some ad183) y185.length c0) y185 from Kd.V_mk (by omega) hr37)
           have HC189 := Aside0.mk (show y185.length ≤ c0 from by omega)
           clear hr37 hC37 hroom37 hi037 hsz37
           have KY37 := Aside0.mk hy37
           clear hy37
           replace q37 := eq_true q37
           try go_wp2_with (first | ((with_reducible refine gate_builtin (b := .append) (xs := #[.tmp 25, .tmp 28]) rfl ?_); at_builtin; refine Kd.N_append_rows k40 (w0 := w) w.heap.size rfl (.tmp 25) (.tmp 28) 36 40 (.agg #[(.int .i64 0), (.slice none 0 0), (.slice none 0 0), (.int .u64 0)]) 64 rfl Try.underlying36 info40 rfl (by decide) (by omega) (.slice none 0 0) ([] : List (S40)) y185 _ _ _ (fun k_ => ((P0_ k_ ∨ P1_1_ k_ ∨ P1_2_ k_) ∨ w.heap.size ≤ k_) ∧ k_ ≠ gb182) (fun k_ => ((fun k_ => ((P0_ k_ ∨ P1_1_ k_ ∨ P1_2_ k_) ∨ w.heap.size ≤ k_) ∧ k_ ≠ gb182)) k_ ∧ some k_ ≠ (.slice none 0 0 : Value).ownBlock) rfl rfl ?aO ?aR (fun _ hk => hk) ?aF ?aB ?aS ?aL ?_; (case aR => exact (by skip; exact Kd.V_F (Kd.V_mono (ok' := (fun k_ => ((fun k_ => ((P0_ k_ ∨ P1_1_ k_ ∨ P1_2_ k_) ∨ w.heap.size ≤ k_) ∧ k_ ≠ gb182)) k_ ∧ some k_ ≠ (.slice none 0 0 : Value).ownBlock)) (HO189.out) (fun k_ hk => ⟨⟨hk.1, hk.2⟩, (by simp [Value.ownBlock])⟩)))); (case aB => exact (bw_ HB.out)); (case aF => exact (fun k_ hk => ⟨(.inr (Nat.le_trans (below_size (bw_ HB.out)) hk)), Kd.freshB (g := gb182) (o := .cells #[.int .i64 a1_0, .slice A1_1 l1_1.length c1_1, .slice A1_2 l1_2.length c1_2] 27 (0, 0)) (bk_ BK182.out) k_ hk⟩)); (case aO => exact ((Kd.N_nil _ _ _ _ (fun k_ => ((P0_ k_ ∨ P1_1_ k_ ∨ P1_2_ k_) ∨ w.heap.size ≤ k_) ∧ k_ ≠ gb182)))); (case aS => exact (below_size (bw_ HB.out))); (case aL => have := LMc13.out; omega); intro v191 w38 ho hb hg hat; rw [← Ny190.out] at ho; have n0_ := Aside0.mk (Kd.V_afterv (Kd.V_apart_nil (by (with_reducible repeat (first | apply Kd.V_alloc | apply Kd.V_drewN | apply Kd.V_drew)); exact HO_0.out)) hg hat); have n1_ := Aside0.mk (Kd.V_afterv (Kd.V_apart_nil (by (with_reducible repeat (first | apply Kd.V_alloc | apply Kd.V_drewN | apply Kd.V_drew)); exact HO_183001.out)) hg hat); have n2_ := Aside0.mk (Kd.V_afterv (Kd.V_apart_nil (by (with_reducible repeat (first | apply Kd.V_alloc | apply Kd.V_drewN | apply Kd.V_drew)); exact HO_183002.out)) hg hat); have n3_ := Aside0.mk (blk_grown (g := gb182) (o := .cells #[.int .i64 a1_0, .slice A1_1 l1_1.length c1_1, .slice A1_2 l1_2.length c1_2] 27 (0, 0)) (bk_ BK182.out) hg (by simp [Value.ownBlock])); have n4_ := Aside0.mk (Kd.V_afterv (Kd.V_apart_nil (by (with_reducible repeat (first | apply Kd.V_alloc | apply Kd.V_drewN | apply Kd.V_drew)); exact HL183_1.out)) hg hat); have n5_ := Aside0.mk (Kd.V_afterv (Kd.V_apart_nil (by (with_reducible repeat (first | apply Kd.V_alloc | apply Kd.V_drewN | apply Kd.V_drew)); exact HL183_2.out)) hg hat); have n6_ := Aside0.mk (Kd.V_afterv (Kd.V_apart_nil (by (with_reducible repeat (first | apply Kd.V_alloc | apply Kd.V_drewN | apply Kd.V_drew)); exact HO189.out)) hg hat); have n7_ := Aside0.mk (hb); have n8_ := Aside0.mk (ho); clear HO_0 HO_183001 HO_183002 BK182 HL183_1 HL183_2 HO189 HB; have HO_0 := n0_; have HO_183001 := n1_; have HO_183002 := n2_; have BK182 := n3_; have HL183_1 := n4_; have HL183_2 := n5_; have HO189 := n6_; have HB := n7_; have HO192 := n8_; clear n0_ n1_ n2_ n3_ n4_ n5_ n6_ n7_ n8_; clear ho hb hg hat))
           have n0_ := Aside0.mk (Kd.V_drew HO_0.out)
           have n1_ := Aside0.mk (Kd.V_drew HO_183001.out)
           have n2_ := Aside0.mk (Kd.V_drew HO_183002.out)
           have n3_ := Aside0.mk (Kd.V_drew HL183_1.out)
           have n4_ := Aside0.mk (Kd.V_drew HL183_2.out)
           have n5_ := Aside0.mk (Kd.V_drew HO189.out)
           have n6_ := Aside0.mk (Kd.N_drew HO192.out)
           have n7_ := Aside0.mk (blk_drew BK182.out)
           have n8_ := Aside0.mk (below_drew1 HB.out)
           clear HO_0
           clear HO_183001
           clear HO_183002
           clear HL183_1
           clear HL183_2
           clear HO189
           clear HO192
           clear BK182
           clear HB
           have HO_0 := n0_
           have HO_183001 := n1_
           have HO_183002 := n2_
           have HL183_1 := n3_
           have HL183_2 := n4_
           have HO189 := n5_
           have HO192 := n6_
           have BK182 := n7_
           have HB := n8_
           clear n0_ n1_ n2_ n3_ n4_ n5_ n6_ n7_ n8_
           have p193 : 0 ≤ (x7_1 : Int) := of_decide_eq_true (by assumption)
           have q193 : x7_1 < (l0.length : Int) := of_decide_eq_true (by assumption)
           obtain ⟨ad193, A193_1, c193_1, A193_2, c193_2, e193, hx193_0, hx193_1, hx193_2, hx193_3, hl193_1, hi193_1, hl193_2, hi193_2⟩ := at_T40 (Kd.V_reads' HO_0.out).2.2 x7_1 p193 q193
           obtain rfl : ad183 = ad193 := (by injection e193)
           obtain ⟨ce193, hce193, hMe193, hcc193⟩ := Kd.V_get HO_0.out z40 x7_1 p193 (by first | exact q193 | exact of_decide_eq_true (by assumption) | (have e_ := (Kd.V_reads' HO_0.out).1; omega))
           obtain ⟨ua193_1, uc193_1, ua193_2, uc193_2, rfl, ul193_1, ge193_1, ul193_2, ge193_2⟩ := k40_openF hMe193
           have hv193_1 := hcc193 1 _ rfl
           rw [add_field _ _ 1 (by omega)] at hv193_1
           replace hv193_1 := Option.some.inj (hv193_1.symm.trans hx193_1)
           injection hv193_1 with hva_ hvn_ hvc_
           rw [hva_] at ge193_1
           rw [hvc_] at ul193_1
           have HL193_1 := Aside0.mk (show Kd.V Kd.string 9 _ w.heap.size _ _ ((rd_T40 l0 x7_1).f0.f1) from Kd.V_mk ul193_1 ge193_1)
           clear hva_ hvn_ hvc_ ge193_1 ul193_1
           have hv193_2 := hcc193 2 _ rfl
           rw [add_field _ _ 2 (by omega)] at hv193_2
           replace hv193_2 := Option.some.inj (hv193_2.symm.trans hx193_2)
           injection hv193_2 with hva_ hvn_ hvc_
           rw [hva_] at ge193_2
           rw [hvc_] at ul193_2
           have HL193_2 := Aside0.mk (show Kd.V (Kd.int .i64) 2 _ w.heap.size _ _ ((rd_T40 l0 x7_1).f0.f2) from Kd.V_mk ul193_2 ge193_2)
           clear hva_ hvn_ hvc_ ge193_2 ul193_2
           clear hcc193 hce193
           have HR193_1 := Aside0.mk hi193_1
           have HC193_1 := Aside0.mk hl193_1
           clear hi193_1 hl193_1
           have HR193_2 := Aside0.mk hi193_2
           have HC193_2 := Aside0.mk hl193_2
           clear hi193_2 hl193_2
           replace p193 := eq_true p193
           replace q193 := eq_true q193
           refine start_ (n := 14) (S := fun w' => w'.cell? ⟨gb182, 0, none⟩ = some (.int .i64 a1_0) ∧ w'.cell? ⟨gb182, 1, none⟩ = some (.slice A1_1 l1_1.length c1_1) ∧ w'.cell? ⟨gb182, 2, none⟩ = some (.slice A1_2 l1_2.length c1_2) ∧ w'.cell? (ad183.add ((x7_1).toNat * 4)) = some (.int .i64 ((rd_T40 l0 x7_1).f0.f0)) ∧ w'.cell? ⟨(ad183.add ((x7_1).toNat * 4)).block, (ad183.add ((x7_1).toNat * 4)).off + 1, none⟩ = some (.slice A193_1 ((rd_T40 l0 x7_1).f0.f1).length c193_1) ∧ w'.cell? ⟨(ad183.add ((x7_1).toNat * 4)).block, (ad183.add ((x7_1).toNat * 4)).off + 2, none⟩ = some (.slice A193_2 ((rd_T40 l0 x7_1).f0.f2).length c193_2) ∧ w'.cell? ⟨(ad183.add ((x7_1).toNat * 4)).block, (ad183.add ((x7_1).toNat * 4)).off + 3, none⟩ = some (.int .u64 ((rd_T40 l0 x7_1).f1))) (ds := []) #[false, false, false, false, false, false, false, false, false, false, false, false, false, false] (by kernel_rfl) rfl rfl ⟨(blk_cell BK182.out 0).trans rfl, (blk_cell BK182.out 1).trans rfl, (blk_cell BK182.out 2).trans rfl, hx193_0, hx193_1, hx193_2, hx193_3⟩ (fun hHeld => ?_); refine with_tabW gristmillref04_Put.tab6 gristmillref04_Put.bits6 (fun HT_ HW_ => ?_)
           generalize w38.drew = w39 at HO_0 HO_183001 HO_183002 HL183_1 HL183_2 HO189 HO192 BK182 HB HL193_1 HL193_2 HR193_1 HR193_2 hx193_0 hx193_1 hx193_2 hx193_3 hHeld ⊢
           refine pure_ (i := 0) (N := some 30) (v := ?_) (a' := ?_) #[true, false, false, false, false, false, false, false, false, false, false, false, false, false] rfl rfl (any_of HT_.out (by kernel_rfl)) (fun _ _ _ h => h) (Or.inl ⟨by rfl, ?_⟩) ?_ ?_
           rotate_left
           ·intro w'
            go_simp
            with_reducible rfl
           rotate_left
           ·simp only [Act.put, q1_, q2_, q3_, i64_w, i32_w]
            rfl
           refine pure_ (i := 1) (N := some 31) (v := ?_) (a' := ?_) #[true, true, false, false, false, false, false, false, false, false, false, false, false, false] rfl rfl (any_of HT_.out (by kernel_rfl)) (fun _ _ _ h => h) (Or.inl ⟨by rfl, ?_⟩) ?_ ?_
           rotate_left
           ·intro w'
            go_simp
            with_reducible rfl
           rotate_left
           ·simp only [Act.put, q1_, q2_, q3_, i64_w, i32_w]
            rfl
           refine pure_ (i := 2) (N := some 32) (v := ?_) (a' := ?_) #[true, true, true, false, false, false, false, false, false, false, false, false, false, false] rfl rfl (any_of HT_.out (by kernel_rfl)) (fun _ _ _ h => h) (Or.inl ⟨by rfl, ?_⟩) ?_ ?_
           rotate_left
           ·intro w'
            go_simp
            with_reducible rfl
           rotate_left
           ·simp only [Act.put, q1_, q2_, q3_, i64_w, i32_w]
            rfl
           refine pure_ (i := 3) (N := some 33) (v := ?_) (a' := ?_) #[true, true, true, true, false, false, false, false, false, false, false, false, false, false] rfl rfl (any_of HT_.out (by kernel_rfl)) (fun _ _ _ h => h) (Or.inl ⟨by rfl, ?_⟩) ?_ ?_
           rotate_left
           ·intro w'
            go_simp
            with_reducible rfl
           rotate_left
           ·simp only [Act.put, q1_, q2_, q3_, i64_w, i32_w]
            rfl
           refine pure_ (i := 4) (N := some 34) (v := ?_) (a' := ?_) #[true, true, true, true, true, false, false, false, false, false, false, false, false, false] rfl rfl (any_of HT_.out (by kernel_rfl)) (fun _ _ _ h => h) (Or.inl ⟨by rfl, ?_⟩) ?_ ?_
           rotate_left
           ·intro w'
            go_simp
            with_reducible rfl
           rotate_left
           ·simp only [Act.put, q1_, q2_, q3_, i64_w, i32_w]
            rfl
           refine pure_ (i := 5) (N := some 35) (v := ?_) (a' := ?_) #[true, true, true, true, true, true, false, false, false, false, false, false, false, false] rfl rfl (any_of HT_.out (by kernel_rfl)) (fun _ _ _ h => h) (Or.inl ⟨by rfl, ?_⟩) ?_ ?_
           rotate_left
           ·intro w'
            go_simp
            with_reducible rfl
           rotate_left
           ·simp only [Act.put, q1_, q2_, q3_, i64_w, i32_w]
            rfl
           refine pure_ (i := 6) (N := some 36) (v := ?_) (a' := ?_) #[true, true, true, true, true, true, true, false, false, false, false, false, false, false] rfl rfl (any_of HT_.out (by kernel_rfl)) (fun _ _ _ h => h) (Or.inl ⟨by rfl, ?_⟩) ?_ ?_
           rotate_left
           ·intro w'
            go_simp
            with_reducible rfl
           rotate_left
           ·simp only [Act.put, q1_, q2_, q3_, i64_w, i32_w]
            rfl
           refine pure_ (i := 7) (N := some 37) (v := ?_) (a' := ?_) #[true, true, true, true, true, true, true, true, false, false, false, false, false, false] rfl rfl (any_of HT_.out (by kernel_rfl)) (fun _ _ _ h => h) (Or.inl ⟨by rfl, ?_⟩) ?_ ?_
           rotate_left
           ·intro w'
            go_simp
            with_reducible rfl
           rotate_left
           ·simp only [Act.put, q1_, q2_, q3_, i64_w, i32_w]
            rfl
           refine pure_ (i := 8) (N := some 38) (v := ?_) (a' := ?_) #[true, true, true, true, true, true, true, true, true, false, false, false, false, false] rfl rfl (any_of HT_.out (by kernel_rfl)) (fun _ _ _ h => h) (Or.inl ⟨by rfl, ?_⟩) ?_ ?_
           rotate_left
           ·intro w'
            go_simp
            with_reducible rfl
           rotate_left
           ·simp only [Act.put, q1_, q2_, q3_, i64_w, i32_w]
            rfl
           refine take_ (i := 9) (N := some 39) (v := ?_) (a' := ?_) #[true, true, true, true, true, true, true, true, true, true, false, false, false, false] rfl rfl (take_ofW HT_.out HW_.out (by kernel_rfl)) (fun _ _ _ h => h) (Or.inl ⟨by rfl, ?_⟩) hHeld ?_ ?_
           rotate_left
           ·rintro w' ⟨s0, s1, s2, s3, s4, s5, s6⟩
            go_simp
            with_reducible rfl
           rotate_left
           ·simp only [Act.put, q1_, q2_, q3_, i64_w, i32_w]
            rfl
           refine take_ (i := 10) (N := some 40) (v := ?_) (a' := ?_) #[true, true, true, true, true, true, true, true, true, true, true, false, false, false] rfl rfl (take_ofW HT_.out HW_.out (by kernel_rfl)) (fun _ _ _ h => h) (Or.inl ⟨by rfl, ?_⟩) hHeld ?_ ?_
           rotate_left
           ·rintro w' ⟨s0, s1, s2, s3, s4, s5, s6⟩
            go_simp
            with_reducible rfl
           rotate_left
           ·simp only [Act.put, q1_, q2_, q3_, i64_w, i32_w]
            rfl
           refine one_ (i := 11) (N := some 41) #[true, true, true, true, true, true, true, true, true, true, true, true, false, false] rfl rfl (one_of HT_.out (by kernel_rfl)) (by decide) (fun K hK => ?_)
           refine goes_ Try.func15 (by kernel_rfl) rfl #[.agg #[.int .i64 ((rd_T40 l0 x7_1).f0.f0), .slice A193_1 ((rd_T40 l0 x7_1).f0.f1).length c193_1, .slice A193_2 ((rd_T40 l0 x7_1).f0.f2).length c193_2], .agg #[.int .i64 a1_0, .slice A1_1 l1_1.length c1_1, .slice A1_2 l1_2.length c1_2]] (by rfl) rfl rfl (by (try simp only [List.map_toArray, List.map_cons, List.map_nil]); first | done | rfl | (simp only [List.length_drop, List.length_take]; rfl)) ?_
           with_reducible refine (gristmillref04_Compare.calls k1 ((rd_T40 l0 x7_1).f0.f0) _ _ ((rd_T40 l0 x7_1).f0.f1) _ _ ((rd_T40 l0 x7_1).f0.f2) a1_0 _ _ l1_1 _ _ l1_2 t194 _ ?side1 ?side2 ?side3 ?side4 ?side5 ?side6 ?side7 ?side8 A14.out).mono ?_
           (case side1 => repeat (first | exact (by repeat (first | (with_reducible exact HR193_1.out) | (with_reducible refine Kd.C_alloc ?_ _) | (with_reducible refine Kd.C_drewN ?_ _) | (with_reducible refine Kd.C_drew ?_) | exact HR193_1.out)) | (with_reducible refine Kd.C_alloc ?_ _) | (with_reducible refine Kd.C_drewN ?_ _) | (with_reducible refine Kd.C_drew ?_)))
           (case side2 => exact HC193_1.out)
           (case side3 => repeat (first | exact (by repeat (first | (with_reducible exact HR193_2.out) | (with_reducible refine Kd.C_alloc ?_ _) | (with_reducible refine Kd.C_drewN ?_ _) | (with_reducible refine Kd.C_drew ?_) | exact HR193_2.out)) | (with_reducible refine Kd.C_alloc ?_ _) | (with_reducible refine Kd.C_drewN ?_ _) | (with_reducible refine Kd.C_drew ?_)))
           (case side4 => exact HC193_2.out)
           (case side5 => repeat (first | exact (Kd.V_reads' HO_183001.out).2.2 | (with_reducible refine Kd.C_alloc ?_ _) | (with_reducible refine Kd.C_drewN ?_ _) | (with_reducible refine Kd.C_drew ?_)))
           (case side6 => exact (Kd.V_reads' HO_183001.out).2.1)
           (case side7 => repeat (first | exact (Kd.V_reads' HO_183002.out).2.2 | (with_reducible refine Kd.C_alloc ?_ _) | (with_reducible refine Kd.C_drewN ?_ _) | (with_reducible refine Kd.C_drew ?_)))
           (case side8 => exact (Kd.V_reads' HO_183002.out).2.1)
           rintro e w40 ⟨rfl, hb⟩
           have HS3_ := (hb.cell (World.block_lt_of_cell? _ _ (hHeld.2.2.2.1))).trans (hHeld.2.2.2.1)
           have HS4_ := (hb.cell (World.block_lt_of_cell? _ _ (hHeld.2.2.2.2.1))).trans (hHeld.2.2.2.2.1)
           have HS5_ := (hb.cell (World.block_lt_of_cell? _ _ (hHeld.2.2.2.2.2.1))).trans (hHeld.2.2.2.2.2.1)
           have HS6_ := (hb.cell (World.block_lt_of_cell? _ _ (hHeld.2.2.2.2.2.2))).trans (hHeld.2.2.2.2.2.2)
           refine ⟨_, rfl, ?_⟩
           have n0_ := Aside0.mk (Kd.V_below (by (with_reducible repeat (first | apply Kd.V_alloc | apply Kd.V_drewN | apply Kd.V_drew)); exact HO_0.out) hb)
           have n1_ := Aside0.mk (Kd.V_below (by (with_reducible repeat (first | apply Kd.V_alloc | apply Kd.V_drewN | apply Kd.V_drew)); exact HO_183001.out) hb)
           have n2_ := Aside0.mk (Kd.V_below (by (with_reducible repeat (first | apply Kd.V_alloc | apply Kd.V_drewN | apply Kd.V_drew)); exact HO_183002.out) hb)
           have n3_ := Aside0.mk (Kd.V_below (by (with_reducible repeat (first | apply Kd.V_alloc | apply Kd.V_drewN | apply Kd.V_drew)); exact HL183_1.out) hb)
           have n4_ := Aside0.mk (Kd.V_below (by (with_reducible repeat (first | apply Kd.V_alloc | apply Kd.V_drewN | apply Kd.V_drew)); exact HL183_2.out) hb)
           have n5_ := Aside0.mk (Kd.V_below (by (with_reducible repeat (first | apply Kd.V_alloc | apply Kd.V_drewN | apply Kd.V_drew)); exact HO189.out) hb)
           have n6_ := Aside0.mk (Kd.N_below (by (with_reducible repeat (first | apply Kd.N_alloc | apply Kd.N_drewN | apply Kd.N_drew)); exact HO192.out) hb)
           have n7_ := Aside0.mk (Kd.V_below (by (with_reducible repeat (first | apply Kd.V_alloc | apply Kd.V_drewN | apply Kd.V_drew)); exact HL193_1.out) hb)
           have n8_ := Aside0.mk (Kd.V_below (by (with_reducible repeat (first | apply Kd.V_alloc | apply Kd.V_drewN | apply Kd.V_drew)); exact HL193_2.out) hb)
           have n9_ := Aside0.mk (blk_below (bk_ BK182.out) hb)
           have n10_ := Aside0.mk (Kd.C_below (by repeat (first | (with_reducible exact HR193_1.out) | (with_reducible refine Kd.C_alloc ?_ _) | (with_reducible refine Kd.C_drewN ?_ _) | (with_reducible refine Kd.C_drew ?_) | exact HR193_1.out)) hb)
           have n11_ := Aside0.mk (Kd.C_below (by repeat (first | (with_reducible exact HR193_2.out) | (with_reducible refine Kd.C_alloc ?_ _) | (with_reducible refine Kd.C_drewN ?_ _) | (with_reducible refine Kd.C_drew ?_) | exact HR193_2.out)) hb)
           have n12_ := Aside0.mk (below_step (bw_ HB.out) hb)
           clear HO_0
           clear HO_183001
           clear HO_183002
           clear HL183_1
           clear HL183_2
           clear HO189
           clear HO192
           clear HL193_1
           clear HL193_2
           clear BK182
           clear HR193_1
           clear HR193_2
           clear HB
           have HO_0 := n0_
           have HO_183001 := n1_
           have HO_183002 := n2_
           have HL183_1 := n3_
           have HL183_2 := n4_
           have HO189 := n5_
           have HO192 := n6_
           have HL193_1 := n7_
           have HL193_2 := n8_
           have BK182 := n9_
           have HR193_1 := n10_
           have HR193_2 := n11_
           have HB := n12_
           clear n0_ n1_ n2_ n3_ n4_ n5_ n6_ n7_ n8_ n9_ n10_ n11_ n12_
           (try clear hb)
           (try clear hb2)
           (try clear hk)
           (try clear hi)
           refine hK.out _ _ ⟨(blk_cell BK182.out 0).trans rfl, (blk_cell BK182.out 1).trans rfl, (blk_cell BK182.out 2).trans rfl, HS3_, HS4_, HS5_, HS6_⟩ (fun hHeld => ?_)
           clear hK K
           refine norm_ (a' := ?_) ?_ ?_
           rotate_left
           ·show Act.put _ (some 41) _ = _
            simp only [Act.put, q1_, q2_, q3_, i64_w, i32_w]
            rfl
           refine pure_ (i := 12) (N := some 42) (v := ?_) (a' := ?_) #[true, true, true, true, true, true, true, true, true, true, true, true, true, false] rfl rfl (any_of HT_.out (by kernel_rfl)) (fun _ _ _ h => h) (Or.inl ⟨by rfl, ?_⟩) ?_ ?_
           rotate_left
           ·intro w'
            go_simp
            with_reducible rfl
           rotate_left
           ·simp only [Act.put, q1_, q2_, q3_, i64_w, i32_w]
            rfl
           refine pure_ (i := 13) (N := some 43) (v := ?_) (a' := ?_) #[true, true, true, true, true, true, true, true, true, true, true, true, true, true] rfl rfl (any_of HT_.out (by kernel_rfl)) (fun _ _ _ h => h) (Or.inl ⟨by rfl, ?_⟩) ?_ ?_
           rotate_left
           ·intro w'
            go_simp
            with_reducible rfl
           rotate_left
           ·simp only [Act.put, q1_, q2_, q3_, i64_w, i32_w]
            rfl
           refine done_ (done_of HT_.out (by kernel_rfl)) ?_
           have hcz41_0 : w40.cell? ⟨gb182, 0, none⟩ = some (.int .i64 a1_0) := (blk_cell BK182.out 0).trans rfl
           have hcz41_1 : w40.cell? ⟨gb182, 1, none⟩ = some (.slice A1_1 l1_1.length c1_1) := (blk_cell BK182.out 1).trans rfl
           have hcz41_2 : w40.cell? ⟨gb182, 2, none⟩ = some (.slice A1_2 l1_2.length c1_2) := (blk_cell BK182.out 2).trans rfl
           have hfz41_0 := blk_frozen BK182.out 0
           have hfz41_1 := blk_frozen BK182.out 1
           have hfz41_2 := blk_frozen BK182.out 2
           try go_wp2_with (first | ((with_reducible refine gate_builtin (b := .append) (xs := #[.tmp 62, .tmp 66]) rfl ?_); at_builtin; refine Kd.N_append k40 (w0 := w) w.heap.size rfl (.tmp 62) (.tmp 66) 36 40 (.agg #[(.int .i64 0), (.slice none 0 0), (.slice none 0 0), (.int .u64 0)]) 64 rfl Try.underlying36 info40 rfl (by decide) (by omega) v191 y190 (⟨(⟨a1_0, l1_1, l1_2⟩ : S27), a2⟩ : S40) [.int .i64 a1_0, .slice A1_1 l1_1.length c1_1, .slice A1_2 l1_2.length c1_2, .int .u64 a2] (fun k_ => ((P0_ k_ ∨ P1_1_ k_ ∨ P1_2_ k_) ∨ w.heap.size ≤ k_) ∧ k_ ≠ gb182) (fun k_ => ((fun k_ => ((P0_ k_ ∨ P1_1_ k_ ∨ P1_2_ k_) ∨ w.heap.size ≤ k_) ∧ k_ ≠ gb182)) k_ ∧ some k_ ≠ (v191 : Value).ownBlock) rfl rfl ?aP (fun _ hk => hk) ?aF ?aO ?aB ?aS ?aL ?_; (case aP => exact (k40_mkF _ _ (⟨(⟨a1_0, l1_1, l1_2⟩ : S27), a2⟩ : S40) (Kd.V_reads' (Kd.V_mono (ok' := (fun k_ => ((fun k_ => ((P0_ k_ ∨ P1_1_ k_ ∨ P1_2_ k_) ∨ w.heap.size ≤ k_) ∧ k_ ≠ gb182)) k_ ∧ some k_ ≠ (v191 : Value).ownBlock)) (HO_183001.out) (fun k_ hk => ⟨⟨hk.1.1, hk.1.2⟩, hk.2⟩))).2.1 (Kd.V_F (Kd.V_mono (ok' := (fun k_ => ((fun k_ => ((P0_ k_ ∨ P1_1_ k_ ∨ P1_2_ k_) ∨ w.heap.size ≤ k_) ∧ k_ ≠ gb182)) k_ ∧ some k_ ≠ (v191 : Value).ownBlock)) (HO_183001.out) (fun k_ hk => ⟨⟨hk.1.1, hk.1.2⟩, hk.2⟩))) (Kd.V_reads' (Kd.V_mono (ok' := (fun k_ => ((fun k_ => ((P0_ k_ ∨ P1_1_ k_ ∨ P1_2_ k_) ∨ w.heap.size ≤ k_) ∧ k_ ≠ gb182)) k_ ∧ some k_ ≠ (v191 : Value).ownBlock)) (HO_183002.out) (fun k_ hk => ⟨⟨hk.1.1, hk.1.2⟩, hk.2⟩))).2.1 (Kd.V_F (Kd.V_mono (ok' := (fun k_ => ((fun k_ => ((P0_ k_ ∨ P1_1_ k_ ∨ P1_2_ k_) ∨ w.heap.size ≤ k_) ∧ k_ ≠ gb182)) k_ ∧ some k_ ≠ (v191 : Value).ownBlock)) (HO_183002.out) (fun k_ hk => ⟨⟨hk.1.1, hk.1.2⟩, hk.2⟩))))); (case aB => exact (bw_ HB.out)); (case aF => exact (fun k_ hk => ⟨(.inr (Nat.le_trans (below_size (bw_ HB.out)) hk)), Kd.freshB (g := gb182) (o := .cells #[.int .i64 a1_0, .slice A1_1 l1_1.length c1_1, .slice A1_2 l1_2.length c1_2] 27 (0, 0)) (bk_ BK182.out) k_ hk⟩)); (case aO => exact (by (with_reducible repeat (first | apply Kd.N_alloc | apply Kd.N_drewN | apply Kd.N_drew)); exact HO192.out)); (case aS => exact (below_size (bw_ HB.out))); (case aL => have := LMc31.out; omega); intro v208 w42 ho hb hg hat; rw [← Ny207.out] at ho; have n0_ := Aside0.mk (Kd.V_afterv (ok := (fun k_ => ((P0_ k_ ∨ P1_1_ k_ ∨ P1_2_ k_) ∨ w.heap.size ≤ k_) ∧ k_ ≠ gb182)) (by (with_reducible repeat (first | apply Kd.V_alloc | apply Kd.V_drewN | apply Kd.V_drew)); exact HO_0.out) hg hat); have n1_ := Aside0.mk (Kd.V_afterv (ok := (fun k_ => ((P0_ k_ ∨ P1_1_ k_ ∨ P1_2_ k_) ∨ w.heap.size ≤ k_) ∧ k_ ≠ gb182)) (by (with_reducible repeat (first | apply Kd.V_alloc | apply Kd.V_drewN | apply Kd.V_drew)); exact HO_183001.out) hg hat); have n2_ := Aside0.mk (Kd.V_afterv (ok := (fun k_ => ((P0_ k_ ∨ P1_1_ k_ ∨ P1_2_ k_) ∨ w.heap.size ≤ k_) ∧ k_ ≠ gb182)) (by (with_reducible repeat (first | apply Kd.V_alloc | apply Kd.V_drewN | apply Kd.V_drew)); exact HO_183002.out) hg hat); have n3_ := Aside0.mk (blk_grown (g := gb182) (o := .cells #[.int .i64 a1_0, .slice A1_1 l1_1.length c1_1, .slice A1_2 l1_2.length c1_2] 27 (0, 0)) (bk_ BK182.out) hg (Kd.N_ne HO192.out BK182.out (by decide))); have n4_ := Aside0.mk (Kd.V_afterv (ok := (fun k_ => ((P0_ k_ ∨ P1_1_ k_ ∨ P1_2_ k_) ∨ w.heap.size ≤ k_) ∧ k_ ≠ gb182)) (by (with_reducible repeat (first | apply Kd.V_alloc | apply Kd.V_drewN | apply Kd.V_drew)); exact HL183_1.out) hg hat); have n5_ := Aside0.mk (Kd.V_afterv (ok := (fun k_ => ((P0_ k_ ∨ P1_1_ k_ ∨ P1_2_ k_) ∨ w.heap.size ≤ k_) ∧ k_ ≠ gb182)) (by (with_reducible repeat (first | apply Kd.V_alloc | apply Kd.V_drewN | apply Kd.V_drew)); exact HL183_2.out) hg hat); have n6_ := Aside0.mk (Kd.V_afterv (ok := (fun k_ => ((P0_ k_ ∨ P1_1_ k_ ∨ P1_2_ k_) ∨ w.heap.size ≤ k_) ∧ k_ ≠ gb182)) (by (with_reducible repeat (first | apply Kd.V_alloc | apply Kd.V_drewN | apply Kd.V_drew)); exact HO189.out) hg hat); have n7_ := Aside0.mk (Kd.V_afterv (ok := (fun k_ => ((P0_ k_ ∨ P1_1_ k_ ∨ P1_2_ k_) ∨ w.heap.size ≤ k_) ∧ k_ ≠ gb182)) (by (with_reducible repeat (first | apply Kd.V_alloc | apply Kd.V_drewN | apply Kd.V_drew)); exact HL193_1.out) hg hat); have n8_ := Aside0.mk (Kd.V_afterv (ok := (fun k_ => ((P0_ k_ ∨ P1_1_ k_ ∨ P1_2_ k_) ∨ w.heap.size ≤ k_) ∧ k_ ≠ gb182)) (by (with_reducible repeat (first | apply Kd.V_alloc | apply Kd.V_drewN | apply Kd.V_drew)); exact HL193_2.out) hg hat); have n9_ := Aside0.mk (hb); have n10_ := Aside0.mk (ho); clear HO_0 HO_183001 HO_183002 BK182 HL183_1 HL183_2 HO189 HL193_1 HL193_2 HB HO192; have HO_0 := n0_; have HO_183001 := n1_; have HO_183002 := n2_; have BK182 := n3_; have HL183_1 := n4_; have HL183_2 := n5_; have HO189 := n6_; have HL193_1 := n7_; have HL193_2 := n8_; have HB := n9_; have HO209 := n10_; clear n0_ n1_ n2_ n3_ n4_ n5_ n6_ n7_ n8_ n9_ n10_; clear ho hb hg hat; have q43 : (x7_1 : Int) ≤ ((l0.length : Int) : Int) := of_decide_eq_true (by assumption); obtain ⟨i043, hi043, _, hsz43, _⟩ := info_parts info40; have hroom43 : l0.length ≤ c0 := (Kd.V_reads' HO_0.out).2.1; have hC43 : Kd.F k40 _ _ (some ad183) l0.length l0 := (Kd.V_at (base := w.heap.size) HO_0.out).2.2; have q043 : (0 : Int) ≤ (x7_1 : Int) := of_decide_eq_true (by assumption); have hcut43 := cut_from (P := Try.prog) 36 40 .i64 Try.underlying36 hi043 4 hsz43 (some ad183) l0.length c0 x7_1 q043 q43; have hr43 := Kd.F_cut (m := (x7_1 : Int).toNat) (c := c0) hC43 (by omega) hroom43; obtain ⟨A43, hA43⟩ : ∃ A1, A1 = (if c0 = (x7_1 : Int).toNat then (some ad183) else ((some ad183) : Option Addr).map (·.add ((x7_1 : Int).toNat * 4))) := ⟨_, rfl⟩; obtain ⟨c43, hc43⟩ : ∃ c1, c1 = c0 - (x7_1 : Int).toNat := ⟨_, rfl⟩; have hy43 : y210.length = l0.length - (x7_1 : Int).toNat := (by rw [Ny210.out, List.length_drop] <;> omega); rw [show (l0).drop (x7_1 : Int).toNat = y210 from Ny210.out.symm] at hr43; replace hr43 : Kd.F k40 _ _ A43 y210.length y210 := (by rw [hA43]; exact hr43); rw [← hy43, ← hA43, ← hc43] at hcut43; have HO214 := Aside0.mk (show Kd.V k40 40 _ w.heap.size _ (.slice A43 y210.length c43) y210 from Kd.V_mk (by rw [hy43, hc43]; exact Nat.sub_le_sub_right hroom43 _) hr43); have HC214 := Aside0.mk (show y210.length ≤ c43 from by rw [hy43, hc43]; exact Nat.sub_le_sub_right hroom43 _); clear hr43 hC43 hroom43 hi043 hsz43 hc43; have KY43 := Aside0.mk hy43; have KA43 := Aside0.mk hA43; clear hy43 hA43; replace q43 := eq_true q43) | ((with_reducible refine gate_builtin (b := .append) (xs := #[.tmp 68, .tmp 71]) rfl ?_); at_builtin; refine Kd.N_append_rows k40 (w0 := w) w.heap.size rfl (.tmp 68) (.tmp 71) 36 40 (.agg #[(.int .i64 0), (.slice none 0 0), (.slice none 0 0), (.int .u64 0)]) 64 rfl Try.underlying36 info40 rfl (by decide) (by omega) v208 y207 y210 _ _ _ (fun k_ => ((P0_ k_ ∨ P1_1_ k_ ∨ P1_2_ k_) ∨ w.heap.size ≤ k_) ∧ k_ ≠ gb182) (fun k_ => ((fun k_ => ((P0_ k_ ∨ P1_1_ k_ ∨ P1_2_ k_) ∨ w.heap.size ≤ k_) ∧ k_ ≠ gb182)) k_ ∧ some k_ ≠ (v208 : Value).ownBlock) rfl rfl ?aO ?aR (fun _ hk => hk) ?aF ?aB ?aS ?aL ?_; (case aR => exact (by skip; exact Kd.V_F (Kd.V_mono (ok' := (fun k_ => ((fun k_ => ((P0_ k_ ∨ P1_1_ k_ ∨ P1_2_ k_) ∨ w.heap.size ≤ k_) ∧ k_ ≠ gb182)) k_ ∧ some k_ ≠ (v208 : Value).ownBlock)) (HO214.out) (fun k_ hk => ⟨⟨hk.1.1, hk.1.2⟩, hk.2⟩)))); (case aB => exact (bw_ HB.out)); (case aF => exact (fun k_ hk => ⟨(.inr (Nat.le_trans (below_size (bw_ HB.out)) hk)), Kd.freshB (g := gb182) (o := .cells #[.int .i64 a1_0, .slice A1_1 l1_1.length c1_1, .slice A1_2 l1_2.length c1_2] 27 (0, 0)) (bk_ BK182.out) k_ hk⟩)); (case aO => exact (by (with_reducible repeat (first | apply Kd.N_alloc | apply Kd.N_drewN | apply Kd.N_drew)); exact HO209.out)); (case aS => exact (below_size (bw_ HB.out))); (case aL => have := LMc34.out; omega); intro v216 w44 ho hb hg hat; rw [← Ny215.out] at ho; have n0_ := Aside0.mk (Kd.V_afterv (ok := (fun k_ => ((P0_ k_ ∨ P1_1_ k_ ∨ P1_2_ k_) ∨ w.heap.size ≤ k_) ∧ k_ ≠ gb182)) (by (with_reducible repeat (first | apply Kd.V_alloc | apply Kd.V_drewN | apply Kd.V_drew)); exact HO_0.out) hg hat); have n1_ := Aside0.mk (Kd.V_afterv (ok := (fun k_ => ((P0_ k_ ∨ P1_1_ k_ ∨ P1_2_ k_) ∨ w.heap.size ≤ k_) ∧ k_ ≠ gb182)) (by (with_reducible repeat (first | apply Kd.V_alloc | apply Kd.V_drewN | apply Kd.V_drew)); exact HO_183001.out) hg hat); have n2_ := Aside0.mk (Kd.V_afterv (ok := (fun k_ => ((P0_ k_ ∨ P1_1_ k_ ∨ P1_2_ k_) ∨ w.heap.size ≤ k_) ∧ k_ ≠ gb182)) (by (with_reducible repeat (first | apply Kd.V_alloc | apply Kd.V_drewN | apply Kd.V_drew)); exact HO_183002.out) hg hat); have n3_ := Aside0.mk (blk_grown (g := gb182) (o := .cells #[.int .i64 a1_0, .slice A1_1 l1_1.length c1_1, .slice A1_2 l1_2.length c1_2] 27 (0, 0)) (bk_ BK182.out) hg (Kd.N_ne HO209.out BK182.out (by decide))); have n4_ := Aside0.mk (Kd.V_afterv (ok := (fun k_ => ((P0_ k_ ∨ P1_1_ k_ ∨ P1_2_ k_) ∨ w.heap.size ≤ k_) ∧ k_ ≠ gb182)) (by (with_reducible repeat (first | apply Kd.V_alloc | apply Kd.V_drewN | apply Kd.V_drew)); exact HL183_1.out) hg hat); have n5_ := Aside0.mk (Kd.V_afterv (ok := (fun k_ => ((P0_ k_ ∨ P1_1_ k_ ∨ P1_2_ k_) ∨ w.heap.size ≤ k_) ∧ k_ ≠ gb182)) (by (with_reducible repeat (first | apply Kd.V_alloc | apply Kd.V_drewN | apply Kd.V_drew)); exact HL183_2.out) hg hat); have n6_ := Aside0.mk (Kd.V_afterv (ok := (fun k_ => ((P0_ k_ ∨ P1_1_ k_ ∨ P1_2_ k_) ∨ w.heap.size ≤ k_) ∧ k_ ≠ gb182)) (by (with_reducible repeat (first | apply Kd.V_alloc | apply Kd.V_drewN | apply Kd.V_drew)); exact HO189.out) hg hat); have n7_ := Aside0.mk (Kd.V_afterv (ok := (fun k_ => ((P0_ k_ ∨ P1_1_ k_ ∨ P1_2_ k_) ∨ w.heap.size ≤ k_) ∧ k_ ≠ gb182)) (by (with_reducible repeat (first | apply Kd.V_alloc | apply Kd.V_drewN | apply Kd.V_drew)); exact HL193_1.out) hg hat); have n8_ := Aside0.mk (Kd.V_afterv (ok := (fun k_ => ((P0_ k_ ∨ P1_1_ k_ ∨ P1_2_ k_) ∨ w.heap.size ≤ k_) ∧ k_ ≠ gb182)) (by (with_reducible repeat (first | apply Kd.V_alloc | apply Kd.V_drewN | apply Kd.V_drew)); exact HL193_2.out) hg hat); have n9_ := Aside0.mk (Kd.V_afterv (ok := (fun k_ => ((P0_ k_ ∨ P1_1_ k_ ∨ P1_2_ k_) ∨ w.heap.size ≤ k_) ∧ k_ ≠ gb182)) (by (with_reducible repeat (first | apply Kd.V_alloc | apply Kd.V_drewN | apply Kd.V_drew)); exact HO214.out) hg hat); have n10_ := Aside0.mk (hb); have n11_ := Aside0.mk (ho); clear HO_0 HO_183001 HO_183002 BK182 HL183_1 HL183_2 HO189 HL193_1 HL193_2 HO214 HB HO209; have HO_0 := n0_; have HO_183001 := n1_; have HO_183002 := n2_; have BK182 := n3_; have HL183_1 := n4_; have HL183_2 := n5_; have HO189 := n6_; have HL193_1 := n7_; have HL193_2 := n8_; have HO214 := n9_; have HB := n10_; have HO217 := n11_; clear n0_ n1_ n2_ n3_ n4_ n5_ n6_ n7_ n8_ n9_ n10_ n11_; clear ho hb hg hat))
           go_ret
           exact ⟨_, by first | rfl | (simp [errW_none, errW_some] <;> rfl) | (simp [*, errW_none, errW_some] <;> rfl), by (with_reducible repeat (first | apply Kd.N_alloc | apply Kd.N_drewN | apply Kd.N_drew)); exact Kd.N_mono HO217.out (fun _ hk => hk.1), by repeat (first | (with_reducible first | exact HB.out | apply below_alloc | apply pw_below_drewN | apply below_drew1 | refine below_set ?_ GE182.out) | exact HB.out)⟩
          ·rw [if_neg c34] at H
           exact absurd H (by simp)
         ·rw [if_neg c31] at H
          exact absurd H (by simp)
       ·rw [if_neg c13] at H
        exact absurd H (by simp)
      ·rw [if_neg c12] at H
       exact absurd H (by simp)
    ·rw [if_neg c6] at H
     exact absurd H (by simp)
   ·rw [if_neg c5] at H
    have c5b0 : decide (x7_1 < (l0.length : Int)) = false := decide_eq_false c5
    clear c5
    by_cases c45 : 0 ≤ x7_1
    ·rw [if_pos c45] at H
     have c45b0 := eq_true c45
     have c45b1 : decide (0 ≤ x7_1) = true := decide_eq_true c45
     clear c45
     by_cases c46 : x7_1 ≤ (l0.length : Int)
     ·rw [if_pos c46] at H
      have c46b0 := eq_true c46
      have c46b1 : decide (x7_1 ≤ (l0.length : Int)) = true := decide_eq_true c46
      clear c46
      obtain ⟨y218, hy218⟩ : ∃ y_ : List (S40), y_ = (l0.take (x7_1 : Int).toNat) := ⟨_, rfl⟩
      replace H : (if ([] : List (S40)).length + y218.length < 2199023255552 then ((some (([] : List (S40)) ++ y218 : List (S40))).bind fun y223 => (if y223.length < 2199023255552 then ((some (y223 ++ [(⟨(⟨a1_0, l1_1, l1_2⟩ : S27), a2⟩ : S40)] : List (S40))).bind fun y226 => ((some (l0.drop (x7_1 : Int).toNat : List (S40))).bind fun y229 => (if y226.length + y229.length < 2199023255552 then (some (y226 ++ y229)) else (none)))) else (none))) else (none)) = some r := by first | (rw [hy218]; with_reducible exact H) | (have H2_ := (Option.bind_some _ _).symm.trans H; rw [hy218]; with_reducible exact H2_) | (have H2_ := (Option.bind_some _ _).symm.trans H; with_reducible exact H2_) | with_reducible exact H | (rw [hy218]; exact H) | exact H
      have Ny218 := Aside0.mk hy218
      clear hy218
      by_cases c47 : ([] : List (S40)).length + y218.length < 2199023255552
      ·rw [if_pos c47] at H
       have LMc47 := Aside0.mk c47
       clear c47
       obtain ⟨y223, hy223⟩ : ∃ y_ : List (S40), y_ = (([] : List (S40)) ++ y218) := ⟨_, rfl⟩
       replace H : (if y223.length < 2199023255552 then ((some (y223 ++ [(⟨(⟨a1_0, l1_1, l1_2⟩ : S27), a2⟩ : S40)] : List (S40))).bind fun y226 => ((some (l0.drop (x7_1 : Int).toNat : List (S40))).bind fun y229 => (if y226.length + y229.length < 2199023255552 then (some (y226 ++ y229)) else (none)))) else (none)) = some r := by first | (rw [hy223]; with_reducible exact H) | (have H2_ := (Option.bind_some _ _).symm.trans H; rw [hy223]; with_reducible exact H2_) | (have H2_ := (Option.bind_some _ _).symm.trans H; with_reducible exact H2_) | with_reducible exact H | (rw [hy223]; exact H) | exact H
       have Ny223 := Aside0.mk hy223
       clear hy223
       by_cases c48 : y223.length < 2199023255552
       ·rw [if_pos c48] at H
        have LMc48 := Aside0.mk c48
        clear c48
        obtain ⟨y226, hy226⟩ : ∃ y_ : List (S40), y_ = (y223 ++ [(⟨(⟨a1_0, l1_1, l1_2⟩ : S27), a2⟩ : S40)]) := ⟨_, rfl⟩
        replace H : ((some (l0.drop (x7_1 : Int).toNat : List (S40))).bind fun y229 => (if y226.length + y229.length < 2199023255552 then (some (y226 ++ y229)) else (none))) = some r := by first | (rw [hy226]; with_reducible exact H) | (have H2_ := (Option.bind_some _ _).symm.trans H; rw [hy226]; with_reducible exact H2_) | (have H2_ := (Option.bind_some _ _).symm.trans H; with_reducible exact H2_) | with_reducible exact H | (rw [hy226]; exact H) | exact H
        have Ny226 := Aside0.mk hy226
        clear hy226
        have c49b0 := eq_true (of_decide_eq_true (by assumption) : 0 ≤ x7_1)
        have c50b0 := eq_true (of_decide_eq_true (by assumption) : x7_1 ≤ (l0.length : Int))
        obtain ⟨y229, hy229⟩ : ∃ y_ : List (S40), y_ = (l0.drop (x7_1 : Int).toNat) := ⟨_, rfl⟩
        replace H : (if y226.length + y229.length < 2199023255552 then (some (y226 ++ y229)) else (none)) = some r := by first | (rw [hy229]; with_reducible exact H) | (have H2_ := (Option.bind_some _ _).symm.trans H; rw [hy229]; with_reducible exact H2_) | (have H2_ := (Option.bind_some _ _).symm.trans H; with_reducible exact H2_) | with_reducible exact H | (rw [hy229]; exact H) | exact H
        have Ny229 := Aside0.mk hy229
        clear hy229
        by_cases c51 : y226.length + y229.length < 2199023255552
        ·rw [if_pos c51] at H
         have LMc51 := Aside0.mk c51
         clear c51
         obtain ⟨y234, hy234⟩ : ∃ y_ : List (S40), y_ = (y226 ++ y229) := ⟨_, rfl⟩
         replace H : (some y234) = some r := by first | (rw [hy234]; with_reducible exact H) | (have H2_ := (Option.bind_some _ _).symm.trans H; rw [hy234]; with_reducible exact H2_) | (have H2_ := (Option.bind_some _ _).symm.trans H; with_reducible exact H2_) | with_reducible exact H | (rw [hy234]; exact H) | exact H
         have Ny234 := Aside0.mk hy234
         clear hy234
         obtain rfl := Option.some.inj H
         try go_wp2
         have n0_ := Aside0.mk (Kd.V_drew HO_0.out)
         have n1_ := Aside0.mk (Kd.V_drew HO_183001.out)
         have n2_ := Aside0.mk (Kd.V_drew HO_183002.out)
         have n3_ := Aside0.mk (blk_drew BK182.out)
         have n4_ := Aside0.mk (below_drew1 HB.out)
         clear HO_0
         clear HO_183001
         clear HO_183002
         clear BK182
         clear HB
         have HO_0 := n0_
         have HO_183001 := n1_
         have HO_183002 := n2_
         have BK182 := n3_
         have HB := n4_
         clear n0_ n1_ n2_ n3_ n4_
         refine start_ (n := 14) (S := fun w' => True) (ds := []) #[false, false, false, false, false, false, false, false, false, false, false, false, false, false] (by kernel_rfl) rfl rfl trivial (fun hHeld => ?_); refine with_tabW gristmillref04_Put.tab2 gristmillref04_Put.bits2 (fun HT_ HW_ => ?_)
         generalize wr.drew = w52 at HO_0 HO_183001 HO_183002 BK182 HB hHeld ⊢
         refine pure_ (i := 0) (N := some 9) (v := ?_) (a' := ?_) #[true, false, false, false, false, false, false, false, false, false, false, false, false, false] rfl rfl (any_of HT_.out (by kernel_rfl)) (fun _ _ _ h => h) (Or.inl ⟨by rfl, ?_⟩) ?_ ?_
         rotate_left
         ·intro w'
          go_simp
          with_reducible rfl
         rotate_left
         ·simp only [Act.put, q1_, q2_, q3_, i64_w, i32_w]
          rfl
         refine pure_ (i := 1) (N := some 10) (v := ?_) (a' := ?_) #[true, true, false, false, false, false, false, false, false, false, false, false, false, false] rfl rfl (any_of HT_.out (by kernel_rfl)) (fun _ _ _ h => h) (Or.inl ⟨by rfl, ?_⟩) ?_ ?_
         rotate_left
         ·intro w'
          go_simp
          with_reducible rfl
         rotate_left
         ·simp only [Act.put, q1_, q2_, q3_, i64_w, i32_w]
          rfl
         refine pure_ (i := 2) (N := some 11) (v := ?_) (a' := ?_) #[true, true, true, false, false, false, false, false, false, false, false, false, false, false] rfl rfl (any_of HT_.out (by kernel_rfl)) (fun _ _ _ h => h) (Or.inl ⟨by rfl, ?_⟩) ?_ ?_
         rotate_left
         ·intro w'
          go_simp
          with_reducible rfl
         rotate_left
         ·simp only [Act.put, q1_, q2_, q3_, i64_w, i32_w]
          rfl
         refine pure_ (i := 3) (N := some 12) (v := ?_) (a' := ?_) #[true, true, true, true, false, false, false, false, false, false, false, false, false, false] rfl rfl (any_of HT_.out (by kernel_rfl)) (fun _ _ _ h => h) (Or.inl ⟨by rfl, ?_⟩) ?_ ?_
         rotate_left
         ·intro w'
          go_simp
          with_reducible rfl
         rotate_left
         ·simp only [Act.put, q1_, q2_, q3_, i64_w, i32_w]
          rfl
         refine pure_ (i := 4) (N := some 13) (v := ?_) (a' := ?_) #[true, true, true, true, true, false, false, false, false, false, false, false, false, false] rfl rfl (any_of HT_.out (by kernel_rfl)) (fun _ _ _ h => h) (Or.inl ⟨by rfl, ?_⟩) ?_ ?_
         rotate_left
         ·intro w'
          go_simp
          with_reducible rfl
         rotate_left
         ·simp only [Act.put, q1_, q2_, q3_, i64_w, i32_w]
          rfl
         refine pure_ (i := 5) (N := some 14) (v := undef) (a' := ?_) #[true, true, true, true, true, true, false, false, false, false, false, false, false, false] rfl rfl (any_of HT_.out (by kernel_rfl)) (fun _ _ _ h => h) (Or.inr ⟨by rfl, rfl⟩) ?_ ?_
         rotate_left
         ·simp only [Act.put, q1_, q2_, q3_, i64_w, i32_w]
          rfl
         refine pure_ (i := 6) (N := some 15) (v := undef) (a' := ?_) #[true, true, true, true, true, true, true, false, false, false, false, false, false, false] rfl rfl (any_of HT_.out (by kernel_rfl)) (fun _ _ _ h => h) (Or.inr ⟨by rfl, rfl⟩) ?_ ?_
         rotate_left
         ·simp only [Act.put, q1_, q2_, q3_, i64_w, i32_w]
          rfl
         refine pure_ (i := 7) (N := some 16) (v := undef) (a' := ?_) #[true, true, true, true, true, true, true, true, false, false, false, false, false, false] rfl rfl (any_of HT_.out (by kernel_rfl)) (fun _ _ _ h => h) (Or.inr ⟨by rfl, rfl⟩) ?_ ?_
         rotate_left
         ·simp only [Act.put, q1_, q2_, q3_, i64_w, i32_w]
          rfl
         refine pure_ (i := 8) (N := some 17) (v := undef) (a' := ?_) #[true, true, true, true, true, true, true, true, true, false, false, false, false, false] rfl rfl (any_of HT_.out (by kernel_rfl)) (fun _ _ _ h => h) (Or.inr ⟨by rfl, rfl⟩) ?_ ?_
         rotate_left
         ·simp only [Act.put, q1_, q2_, q3_, i64_w, i32_w]
          rfl
         refine pure_ (i := 9) (N := some 18) (v := undef) (a' := ?_) #[true, true, true, true, true, true, true, true, true, true, false, false, false, false] rfl rfl (any_of HT_.out (by kernel_rfl)) (fun _ _ _ h => h) (Or.inr ⟨by rfl, rfl⟩) ?_ ?_
         rotate_left
         ·simp only [Act.put, q1_, q2_, q3_, i64_w, i32_w]
          rfl
         refine pure_ (i := 10) (N := some 19) (v := undef) (a' := ?_) #[true, true, true, true, true, true, true, true, true, true, true, false, false, false] rfl rfl (any_of HT_.out (by kernel_rfl)) (fun _ _ _ h => h) (Or.inr ⟨by rfl, rfl⟩) ?_ ?_
         rotate_left
         ·simp only [Act.put, q1_, q2_, q3_, i64_w, i32_w]
          rfl
         refine pure_ (i := 11) (N := some 20) (v := undef) (a' := ?_) #[true, true, true, true, true, true, true, true, true, true, true, true, false, false] rfl rfl (any_of HT_.out (by kernel_rfl)) (fun _ _ _ h => h) (Or.inr ⟨by rfl, rfl⟩) ?_ ?_
         rotate_left
         ·simp only [Act.put, q1_, q2_, q3_, i64_w, i32_w]
          rfl
         refine pure_ (i := 12) (N := some 21) (v := undef) (a' := ?_) #[true, true, true, true, true, true, true, true, true, true, true, true, true, false] rfl rfl (any_of HT_.out (by kernel_rfl)) (fun _ _ _ h => h) (Or.inr ⟨by rfl, rfl⟩) ?_ ?_
         rotate_left
         ·simp only [Act.put, q1_, q2_, q3_, i64_w, i32_w]
          rfl
         refine pure_ (i := 13) (N := some 22) (v := ?_) (a' := ?_) #[true, true, true, true, true, true, true, true, true, true, true, true, true, true] rfl rfl (any_of HT_.out (by kernel_rfl)) (fun _ _ _ h => h) (Or.inl ⟨by rfl, ?_⟩) ?_ ?_
         rotate_left
         ·intro w'
          go_simp
          with_reducible rfl
         rotate_left
         ·simp only [Act.put, q1_, q2_, q3_, i64_w, i32_w]
          rfl
         refine done_ (done_of HT_.out (by kernel_rfl)) ?_
         have q53 : (x7_1 : Int) ≤ ((l0.length : Int) : Int) := of_decide_eq_true (by assumption)
         obtain ⟨i053, hi053, _, hsz53, _⟩ := info_parts info40
         have hroom53 : l0.length ≤ c0 := (Kd.V_reads' HO_0.out).2.1
         have hC53 : Kd.F k40 _ _ A0 l0.length l0 := (Kd.V_at (base := w.heap.size) HO_0.out).2.2
         have hcut53 := cut_to (P := Try.prog) 36 40 .i64 Try.underlying36 hi053 A0 l0.length c0 x7_1 (of_decide_eq_true (by assumption)) q53 hroom53
         have hr53 := Kd.F_take (m := (x7_1 : Int).toNat) hC53 (by omega)
         have hy53 : y218.length = (x7_1 : Int).toNat := (by rw [Ny218.out, List.length_take]; omega)
         rw [← Ny218.out] at hr53
         rw [← hy53] at hcut53
         have HO222 := Aside0.mk (show Kd.V k40 40 _ w.heap.size _ (.slice A0 y218.length c0) y218 from Kd.V_mk (by omega) hr53)
         have HC222 := Aside0.mk (show y218.length ≤ c0 from by omega)
         clear hr53 hC53 hroom53 hi053 hsz53
         have KY53 := Aside0.mk hy53
         clear hy53
         replace q53 := eq_true q53
         try go_wp2_with (first | ((with_reducible refine gate_builtin (b := .append) (xs := #[.tmp 25, .tmp 28]) rfl ?_); at_builtin; refine Kd.N_append_rows k40 (w0 := w) w.heap.size rfl (.tmp 25) (.tmp 28) 36 40 (.agg #[(.int .i64 0), (.slice none 0 0), (.slice none 0 0), (.int .u64 0)]) 64 rfl Try.underlying36 info40 rfl (by decide) (by omega) (.slice none 0 0) ([] : List (S40)) y218 _ _ _ (fun k_ => ((P0_ k_ ∨ P1_1_ k_ ∨ P1_2_ k_) ∨ w.heap.size ≤ k_) ∧ k_ ≠ gb182) (fun k_ => ((fun k_ => ((P0_ k_ ∨ P1_1_ k_ ∨ P1_2_ k_) ∨ w.heap.size ≤ k_) ∧ k_ ≠ gb182)) k_ ∧ some k_ ≠ (.slice none 0 0 : Value).ownBlock) rfl rfl ?aO ?aR (fun _ hk => hk) ?aF ?aB ?aS ?aL ?_; (case aR => exact (by skip; exact Kd.V_F (Kd.V_mono (ok' := (fun k_ => ((fun k_ => ((P0_ k_ ∨ P1_1_ k_ ∨ P1_2_ k_) ∨ w.heap.size ≤ k_) ∧ k_ ≠ gb182)) k_ ∧ some k_ ≠ (.slice none 0 0 : Value).ownBlock)) (HO222.out) (fun k_ hk => ⟨⟨hk.1, hk.2⟩, (by simp [Value.ownBlock])⟩)))); (case aB => exact (bw_ HB.out)); (case aF => exact (fun k_ hk => ⟨(.inr (Nat.le_trans (below_size (bw_ HB.out)) hk)), Kd.freshB (g := gb182) (o := .cells #[.int .i64 a1_0, .slice A1_1 l1_1.length c1_1, .slice A1_2 l1_2.length c1_2] 27 (0, 0)) (bk_ BK182.out) k_ hk⟩)); (case aO => exact ((Kd.N_nil _ _ _ _ (fun k_ => ((P0_ k_ ∨ P1_1_ k_ ∨ P1_2_ k_) ∨ w.heap.size ≤ k_) ∧ k_ ≠ gb182)))); (case aS => exact (below_size (bw_ HB.out))); (case aL => have := LMc47.out; omega); intro v224 w54 ho hb hg hat; rw [← Ny223.out] at ho; have n0_ := Aside0.mk (Kd.V_afterv (Kd.V_apart_nil (by (with_reducible repeat (first | apply Kd.V_alloc | apply Kd.V_drewN | apply Kd.V_drew)); exact HO_0.out)) hg hat); have n1_ := Aside0.mk (Kd.V_afterv (Kd.V_apart_nil (by (with_reducible repeat (first | apply Kd.V_alloc | apply Kd.V_drewN | apply Kd.V_drew)); exact HO_183001.out)) hg hat); have n2_ := Aside0.mk (Kd.V_afterv (Kd.V_apart_nil (by (with_reducible repeat (first | apply Kd.V_alloc | apply Kd.V_drewN | apply Kd.V_drew)); exact HO_183002.out)) hg hat); have n3_ := Aside0.mk (blk_grown (g := gb182) (o := .cells #[.int .i64 a1_0, .slice A1_1 l1_1.length c1_1, .slice A1_2 l1_2.length c1_2] 27 (0, 0)) (bk_ BK182.out) hg (by simp [Value.ownBlock])); have n4_ := Aside0.mk (Kd.V_afterv (Kd.V_apart_nil (by (with_reducible repeat (first | apply Kd.V_alloc | apply Kd.V_drewN | apply Kd.V_drew)); exact HO222.out)) hg hat); have n5_ := Aside0.mk (hb); have n6_ := Aside0.mk (ho); clear HO_0 HO_183001 HO_183002 BK182 HO222 HB; have HO_0 := n0_; have HO_183001 := n1_; have HO_183002 := n2_; have BK182 := n3_; have HO222 := n4_; have HB := n5_; have HO225 := n6_; clear n0_ n1_ n2_ n3_ n4_ n5_ n6_; clear ho hb hg hat))
         have n0_ := Aside0.mk (Kd.V_drew HO_0.out)
         have n1_ := Aside0.mk (Kd.V_drew HO_183001.out)
         have n2_ := Aside0.mk (Kd.V_drew HO_183002.out)
         have n3_ := Aside0.mk (Kd.V_drew HO222.out)
         have n4_ := Aside0.mk (Kd.N_drew HO225.out)
         have n5_ := Aside0.mk (blk_drew BK182.out)
         have n6_ := Aside0.mk (below_drew1 HB.out)
         clear HO_0
         clear HO_183001
         clear HO_183002
         clear HO222
         clear HO225
         clear BK182
         clear HB
         have HO_0 := n0_
         have HO_183001 := n1_
         have HO_183002 := n2_
         have HO222 := n3_
         have HO225 := n4_
         have BK182 := n5_
         have HB := n6_
         clear n0_ n1_ n2_ n3_ n4_ n5_ n6_
         refine start_ (n := 14) (S := fun w' => True) (ds := []) #[false, false, false, false, false, false, false, false, false, false, false, false, false, false] (by kernel_rfl) rfl rfl trivial (fun hHeld => ?_); refine with_tabW gristmillref04_Put.tab6 gristmillref04_Put.bits6 (fun HT_ HW_ => ?_)
         generalize w54.drew = w55 at HO_0 HO_183001 HO_183002 HO222 HO225 BK182 HB hHeld ⊢
         refine pure_ (i := 0) (N := some 30) (v := ?_) (a' := ?_) #[true, false, false, false, false, false, false, false, false, false, false, false, false, false] rfl rfl (any_of HT_.out (by kernel_rfl)) (fun _ _ _ h => h) (Or.inl ⟨by rfl, ?_⟩) ?_ ?_
         rotate_left
         ·intro w'
          go_simp
          with_reducible rfl
         rotate_left
         ·simp only [Act.put, q1_, q2_, q3_, i64_w, i32_w]
          rfl
         refine pure_ (i := 1) (N := some 31) (v := ?_) (a' := ?_) #[true, true, false, false, false, false, false, false, false, false, false, false, false, false] rfl rfl (any_of HT_.out (by kernel_rfl)) (fun _ _ _ h => h) (Or.inl ⟨by rfl, ?_⟩) ?_ ?_
         rotate_left
         ·intro w'
          go_simp
          with_reducible rfl
         rotate_left
         ·simp only [Act.put, q1_, q2_, q3_, i64_w, i32_w]
          rfl
         refine pure_ (i := 2) (N := some 32) (v := ?_) (a' := ?_) #[true, true, true, false, false, false, false, false, false, false, false, false, false, false] rfl rfl (any_of HT_.out (by kernel_rfl)) (fun _ _ _ h => h) (Or.inl ⟨by rfl, ?_⟩) ?_ ?_
         rotate_left
         ·intro w'
          go_simp
          with_reducible rfl
         rotate_left
         ·simp only [Act.put, q1_, q2_, q3_, i64_w, i32_w]
          rfl
         refine pure_ (i := 3) (N := some 33) (v := ?_) (a' := ?_) #[true, true, true, true, false, false, false, false, false, false, false, false, false, false] rfl rfl (any_of HT_.out (by kernel_rfl)) (fun _ _ _ h => h) (Or.inl ⟨by rfl, ?_⟩) ?_ ?_
         rotate_left
         ·intro w'
          go_simp
          with_reducible rfl
         rotate_left
         ·simp only [Act.put, q1_, q2_, q3_, i64_w, i32_w]
          rfl
         refine pure_ (i := 4) (N := some 34) (v := ?_) (a' := ?_) #[true, true, true, true, true, false, false, false, false, false, false, false, false, false] rfl rfl (any_of HT_.out (by kernel_rfl)) (fun _ _ _ h => h) (Or.inl ⟨by rfl, ?_⟩) ?_ ?_
         rotate_left
         ·intro w'
          go_simp
          with_reducible rfl
         rotate_left
         ·simp only [Act.put, q1_, q2_, q3_, i64_w, i32_w]
          rfl
         refine pure_ (i := 5) (N := some 35) (v := undef) (a' := ?_) #[true, true, true, true, true, true, false, false, false, false, false, false, false, false] rfl rfl (any_of HT_.out (by kernel_rfl)) (fun _ _ _ h => h) (Or.inr ⟨by rfl, rfl⟩) ?_ ?_
         rotate_left
         ·simp only [Act.put, q1_, q2_, q3_, i64_w, i32_w]
          rfl
         refine pure_ (i := 6) (N := some 36) (v := undef) (a' := ?_) #[true, true, true, true, true, true, true, false, false, false, false, false, false, false] rfl rfl (any_of HT_.out (by kernel_rfl)) (fun _ _ _ h => h) (Or.inr ⟨by rfl, rfl⟩) ?_ ?_
         rotate_left
         ·simp only [Act.put, q1_, q2_, q3_, i64_w, i32_w]
          rfl
         refine pure_ (i := 7) (N := some 37) (v := undef) (a' := ?_) #[true, true, true, true, true, true, true, true, false, false, false, false, false, false] rfl rfl (any_of HT_.out (by kernel_rfl)) (fun _ _ _ h => h) (Or.inr ⟨by rfl, rfl⟩) ?_ ?_
         rotate_left
         ·simp only [Act.put, q1_, q2_, q3_, i64_w, i32_w]
          rfl
         refine pure_ (i := 8) (N := some 38) (v := undef) (a' := ?_) #[true, true, true, true, true, true, true, true, true, false, false, false, false, false] rfl rfl (any_of HT_.out (by kernel_rfl)) (fun _ _ _ h => h) (Or.inr ⟨by rfl, rfl⟩) ?_ ?_
         rotate_left
         ·simp only [Act.put, q1_, q2_, q3_, i64_w, i32_w]
          rfl
         refine pure_ (i := 9) (N := some 39) (v := undef) (a' := ?_) #[true, true, true, true, true, true, true, true, true, true, false, false, false, false] rfl rfl (any_of HT_.out (by kernel_rfl)) (fun _ _ _ h => h) (Or.inr ⟨by rfl, rfl⟩) ?_ ?_
         rotate_left
         ·simp only [Act.put, q1_, q2_, q3_, i64_w, i32_w]
          rfl
         refine pure_ (i := 10) (N := some 40) (v := undef) (a' := ?_) #[true, true, true, true, true, true, true, true, true, true, true, false, false, false] rfl rfl (any_of HT_.out (by kernel_rfl)) (fun _ _ _ h => h) (Or.inr ⟨by rfl, rfl⟩) ?_ ?_
         rotate_left
         ·simp only [Act.put, q1_, q2_, q3_, i64_w, i32_w]
          rfl
         refine pure_ (i := 11) (N := some 41) (v := undef) (a' := ?_) #[true, true, true, true, true, true, true, true, true, true, true, true, false, false] rfl rfl (any_of HT_.out (by kernel_rfl)) (fun _ _ _ h => h) (Or.inr ⟨by rfl, rfl⟩) ?_ ?_
         rotate_left
         ·simp only [Act.put, q1_, q2_, q3_, i64_w, i32_w]
          rfl
         refine pure_ (i := 12) (N := some 42) (v := undef) (a' := ?_) #[true, true, true, true, true, true, true, true, true, true, true, true, true, false] rfl rfl (any_of HT_.out (by kernel_rfl)) (fun _ _ _ h => h) (Or.inr ⟨by rfl, rfl⟩) ?_ ?_
         rotate_left
         ·simp only [Act.put, q1_, q2_, q3_, i64_w, i32_w]
          rfl
         refine pure_ (i := 13) (N := some 43) (v := ?_) (a' := ?_) #[true, true, true, true, true, true, true, true, true, true, true, true, true, true] rfl rfl (any_of HT_.out (by kernel_rfl)) (fun _ _ _ h => h) (Or.inl ⟨by rfl, ?_⟩) ?_ ?_
         rotate_left
         ·intro w'
          go_simp
          with_reducible rfl
         rotate_left
         ·simp only [Act.put, q1_, q2_, q3_, i64_w, i32_w]
          rfl
         refine done_ (done_of HT_.out (by kernel_rfl)) ?_
         have hcz56_0 : w55.cell? ⟨gb182, 0, none⟩ = some (.int .i64 a1_0) := (blk_cell BK182.out 0).trans rfl
         have hcz56_1 : w55.cell? ⟨gb182, 1, none⟩ = some (.slice A1_1 l1_1.length c1_1) := (blk_cell BK182.out 1).trans rfl
         have hcz56_2 : w55.cell? ⟨gb182, 2, none⟩ = some (.slice A1_2 l1_2.length c1_2) := (blk_cell BK182.out 2).trans rfl
         have hfz56_0 := blk_frozen BK182.out 0
         have hfz56_1 := blk_frozen BK182.out 1
         have hfz56_2 := blk_frozen BK182.out 2
         try go_wp2_with (first | ((with_reducible refine gate_builtin (b := .append) (xs := #[.tmp 62, .tmp 66]) rfl ?_); at_builtin; refine Kd.N_append k40 (w0 := w) w.heap.size rfl (.tmp 62) (.tmp 66) 36 40 (.agg #[(.int .i64 0), (.slice none 0 0), (.slice none 0 0), (.int .u64 0)]) 64 rfl Try.underlying36 info40 rfl (by decide) (by omega) v224 y223 (⟨(⟨a1_0, l1_1, l1_2⟩ : S27), a2⟩ : S40) [.int .i64 a1_0, .slice A1_1 l1_1.length c1_1, .slice A1_2 l1_2.length c1_2, .int .u64 a2] (fun k_ => ((P0_ k_ ∨ P1_1_ k_ ∨ P1_2_ k_) ∨ w.heap.size ≤ k_) ∧ k_ ≠ gb182) (fun k_ => ((fun k_ => ((P0_ k_ ∨ P1_1_ k_ ∨ P1_2_ k_) ∨ w.heap.size ≤ k_) ∧ k_ ≠ gb182)) k_ ∧ some k_ ≠ (v224 : Value).ownBlock) rfl rfl ?aP (fun _ hk => hk) ?aF ?aO ?aB ?aS ?aL ?_; (case aP => exact (k40_mkF _ _ (⟨(⟨a1_0, l1_1, l1_2⟩ : S27), a2⟩ : S40) (Kd.V_reads' (Kd.V_mono (ok' := (fun k_ => ((fun k_ => ((P0_ k_ ∨ P1_1_ k_ ∨ P1_2_ k_) ∨ w.heap.size ≤ k_) ∧ k_ ≠ gb182)) k_ ∧ some k_ ≠ (v224 : Value).ownBlock)) (HO_183001.out) (fun k_ hk => ⟨⟨hk.1.1, hk.1.2⟩, hk.2⟩))).2.1 (Kd.V_F (Kd.V_mono (ok' := (fun k_ => ((fun k_ => ((P0_ k_ ∨ P1_1_ k_ ∨ P1_2_ k_) ∨ w.heap.size ≤ k_) ∧ k_ ≠ gb182)) k_ ∧ some k_ ≠ (v224 : Value).ownBlock)) (HO_183001.out) (fun k_ hk => ⟨⟨hk.1.1, hk.1.2⟩, hk.2⟩))) (Kd.V_reads' (Kd.V_mono (ok' := (fun k_ => ((fun k_ => ((P0_ k_ ∨ P1_1_ k_ ∨ P1_2_ k_) ∨ w.heap.size ≤ k_) ∧ k_ ≠ gb182)) k_ ∧ some k_ ≠ (v224 : Value).ownBlock)) (HO_183002.out) (fun k_ hk => ⟨⟨hk.1.1, hk.1.2⟩, hk.2⟩))).2.1 (Kd.V_F (Kd.V_mono (ok' := (fun k_ => ((fun k_ => ((P0_ k_ ∨ P1_1_ k_ ∨ P1_2_ k_) ∨ w.heap.size ≤ k_) ∧ k_ ≠ gb182)) k_ ∧ some k_ ≠ (v224 : Value).ownBlock)) (HO_183002.out) (fun k_ hk => ⟨⟨hk.1.1, hk.1.2⟩, hk.2⟩))))); (case aB => exact (bw_ HB.out)); (case aF => exact (fun k_ hk => ⟨(.inr (Nat.le_trans (below_size (bw_ HB.out)) hk)), Kd.freshB (g := gb182) (o := .cells #[.int .i64 a1_0, .slice A1_1 l1_1.length c1_1, .slice A1_2 l1_2.length c1_2] 27 (0, 0)) (bk_ BK182.out) k_ hk⟩)); (case aO => exact (by (with_reducible repeat (first | apply Kd.N_alloc | apply Kd.N_drewN | apply Kd.N_drew)); exact HO225.out)); (case aS => exact (below_size (bw_ HB.out))); (case aL => have := LMc48.out; omega); intro v227 w57 ho hb hg hat; rw [← Ny226.out] at ho; have n0_ := Aside0.mk (Kd.V_afterv (ok := (fun k_ => ((P0_ k_ ∨ P1_1_ k_ ∨ P1_2_ k_) ∨ w.heap.size ≤ k_) ∧ k_ ≠ gb182)) (by (with_reducible repeat (first | apply Kd.V_alloc | apply Kd.V_drewN | apply Kd.V_drew)); exact HO_0.out) hg hat); have n1_ := Aside0.mk (Kd.V_afterv (ok := (fun k_ => ((P0_ k_ ∨ P1_1_ k_ ∨ P1_2_ k_) ∨ w.heap.size ≤ k_) ∧ k_ ≠ gb182)) (by (with_reducible repeat (first | apply Kd.V_alloc | apply Kd.V_drewN | apply Kd.V_drew)); exact HO_183001.out) hg hat); have n2_ := Aside0.mk (Kd.V_afterv (ok := (fun k_ => ((P0_ k_ ∨ P1_1_ k_ ∨ P1_2_ k_) ∨ w.heap.size ≤ k_) ∧ k_ ≠ gb182)) (by (with_reducible repeat (first | apply Kd.V_alloc | apply Kd.V_drewN | apply Kd.V_drew)); exact HO_183002.out) hg hat); have n3_ := Aside0.mk (blk_grown (g := gb182) (o := .cells #[.int .i64 a1_0, .slice A1_1 l1_1.length c1_1, .slice A1_2 l1_2.length c1_2] 27 (0, 0)) (bk_ BK182.out) hg (Kd.N_ne HO225.out BK182.out (by decide))); have n4_ := Aside0.mk (Kd.V_afterv (ok := (fun k_ => ((P0_ k_ ∨ P1_1_ k_ ∨ P1_2_ k_) ∨ w.heap.size ≤ k_) ∧ k_ ≠ gb182)) (by (with_reducible repeat (first | apply Kd.V_alloc | apply Kd.V_drewN | apply Kd.V_drew)); exact HO222.out) hg hat); have n5_ := Aside0.mk (hb); have n6_ := Aside0.mk (ho); clear HO_0 HO_183001 HO_183002 BK182 HO222 HB HO225; have HO_0 := n0_; have HO_183001 := n1_; have HO_183002 := n2_; have BK182 := n3_; have HO222 := n4_; have HB := n5_; have HO228 := n6_; clear n0_ n1_ n2_ n3_ n4_ n5_ n6_; clear ho hb hg hat; have q58 : (x7_1 : Int) ≤ ((l0.length : Int) : Int) := of_decide_eq_true (by assumption); obtain ⟨i058, hi058, _, hsz58, _⟩ := info_parts info40; have hroom58 : l0.length ≤ c0 := (Kd.V_reads' HO_0.out).2.1; have hC58 : Kd.F k40 _ _ A0 l0.length l0 := (Kd.V_at (base := w.heap.size) HO_0.out).2.2; have q058 : (0 : Int) ≤ (x7_1 : Int) := of_decide_eq_true (by assumption); have hcut58 := cut_from (P := Try.prog) 36 40 .i64 Try.underlying36 hi058 4 hsz58 A0 l0.length c0 x7_1 q058 q58; have hr58 := Kd.F_cut (m := (x7_1 : Int).toNat) (c := c0) hC58 (by omega) hroom58; obtain ⟨A58, hA58⟩ : ∃ A1, A1 = (if c0 = (x7_1 : Int).toNat then A0 else (A0 : Option Addr).map (·.add ((x7_1 : Int).toNat * 4))) := ⟨_, rfl⟩; obtain ⟨c58, hc58⟩ : ∃ c1, c1 = c0 - (x7_1 : Int).toNat := ⟨_, rfl⟩; have hy58 : y229.length = l0.length - (x7_1 : Int).toNat := (by rw [Ny229.out, List.length_drop] <;> omega); rw [show (l0).drop (x7_1 : Int).toNat = y229 from Ny229.out.symm] at hr58; replace hr58 : Kd.F k40 _ _ A58 y229.length y229 := (by rw [hA58]; exact hr58); rw [← hy58, ← hA58, ← hc58] at hcut58; have HO233 := Aside0.mk (show Kd.V k40 40 _ w.heap.size _ (.slice A58 y229.length c58) y229 from Kd.V_mk (by rw [hy58, hc58]; exact Nat.sub_le_sub_right hroom58 _) hr58); have HC233 := Aside0.mk (show y229.length ≤ c58 from by rw [hy58, hc58]; exact Nat.sub_le_sub_right hroom58 _); clear hr58 hC58 hroom58 hi058 hsz58 hc58; have KY58 := Aside0.mk hy58; have KA58 := Aside0.mk hA58; clear hy58 hA58; replace q58 := eq_true q58) | ((with_reducible refine gate_builtin (b := .append) (xs := #[.tmp 68, .tmp 71]) rfl ?_); at_builtin; refine Kd.N_append_rows k40 (w0 := w) w.heap.size rfl (.tmp 68) (.tmp 71) 36 40 (.agg #[(.int .i64 0), (.slice none 0 0), (.slice none 0 0), (.int .u64 0)]) 64 rfl Try.underlying36 info40 rfl (by decide) (by omega) v227 y226 y229 _ _ _ (fun k_ => ((P0_ k_ ∨ P1_1_ k_ ∨ P1_2_ k_) ∨ w.heap.size ≤ k_) ∧ k_ ≠ gb182) (fun k_ => ((fun k_ => ((P0_ k_ ∨ P1_1_ k_ ∨ P1_2_ k_) ∨ w.heap.size ≤ k_) ∧ k_ ≠ gb182)) k_ ∧ some k_ ≠ (v227 : Value).ownBlock) rfl rfl ?aO ?aR (fun _ hk => hk) ?aF ?aB ?aS ?aL ?_; (case aR => exact (by skip; exact Kd.V_F (Kd.V_mono (ok' := (fun k_ => ((fun k_ => ((P0_ k_ ∨ P1_1_ k_ ∨ P1_2_ k_) ∨ w.heap.size ≤ k_) ∧ k_ ≠ gb182)) k_ ∧ some k_ ≠ (v227 : Value).ownBlock)) (HO233.out) (fun k_ hk => ⟨⟨hk.1.1, hk.1.2⟩, hk.2⟩)))); (case aB => exact (bw_ HB.out)); (case aF => exact (fun k_ hk => ⟨(.inr (Nat.le_trans (below_size (bw_ HB.out)) hk)), Kd.freshB (g := gb182) (o := .cells #[.int .i64 a1_0, .slice A1_1 l1_1.length c1_1, .slice A1_2 l1_2.length c1_2] 27 (0, 0)) (bk_ BK182.out) k_ hk⟩)); (case aO => exact (by (with_reducible repeat (first | apply Kd.N_alloc | apply Kd.N_drewN | apply Kd.N_drew)); exact HO228.out)); (case aS => exact (below_size (bw_ HB.out))); (case aL => have := LMc51.out; omega); intro v235 w59 ho hb hg hat; rw [← Ny234.out] at ho; have n0_ := Aside0.mk (Kd.V_afterv (ok := (fun k_ => ((P0_ k_ ∨ P1_1_ k_ ∨ P1_2_ k_) ∨ w.heap.size ≤ k_) ∧ k_ ≠ gb182)) (by (with_reducible repeat (first | apply Kd.V_alloc | apply Kd.V_drewN | apply Kd.V_drew)); exact HO_0.out) hg hat); have n1_ := Aside0.mk (Kd.V_afterv (ok := (fun k_ => ((P0_ k_ ∨ P1_1_ k_ ∨ P1_2_ k_) ∨ w.heap.size ≤ k_) ∧ k_ ≠ gb182)) (by (with_reducible repeat (first | apply Kd.V_alloc | apply Kd.V_drewN | apply Kd.V_drew)); exact HO_183001.out) hg hat); have n2_ := Aside0.mk (Kd.V_afterv (ok := (fun k_ => ((P0_ k_ ∨ P1_1_ k_ ∨ P1_2_ k_) ∨ w.heap.size ≤ k_) ∧ k_ ≠ gb182)) (by (with_reducible repeat (first | apply Kd.V_alloc | apply Kd.V_drewN | apply Kd.V_drew)); exact HO_183002.out) hg hat); have n3_ := Aside0.mk (blk_grown (g := gb182) (o := .cells #[.int .i64 a1_0, .slice A1_1 l1_1.length c1_1, .slice A1_2 l1_2.length c1_2] 27 (0, 0)) (bk_ BK182.out) hg (Kd.N_ne HO228.out BK182.out (by decide))); have n4_ := Aside0.mk (Kd.V_afterv (ok := (fun k_ => ((P0_ k_ ∨ P1_1_ k_ ∨ P1_2_ k_) ∨ w.heap.size ≤ k_) ∧ k_ ≠ gb182)) (by (with_reducible repeat (first | apply Kd.V_alloc | apply Kd.V_drewN | apply Kd.V_drew)); exact HO222.out) hg hat); have n5_ := Aside0.mk (Kd.V_afterv (ok := (fun k_ => ((P0_ k_ ∨ P1_1_ k_ ∨ P1_2_ k_) ∨ w.heap.size ≤ k_) ∧ k_ ≠ gb182)) (by (with_reducible repeat (first | apply Kd.V_alloc | apply Kd.V_drewN | apply Kd.V_drew)); exact HO233.out) hg hat); have n6_ := Aside0.mk (hb); have n7_ := Aside0.mk (ho); clear HO_0 HO_183001 HO_183002 BK182 HO222 HO233 HB HO228; have HO_0 := n0_; have HO_183001 := n1_; have HO_183002 := n2_; have BK182 := n3_; have HO222 := n4_; have HO233 := n5_; have HB := n6_; have HO236 := n7_; clear n0_ n1_ n2_ n3_ n4_ n5_ n6_ n7_; clear ho hb hg hat))
         go_ret
         exact ⟨_, by first | rfl | (simp [errW_none, errW_some] <;> rfl) | (simp [*, errW_none, errW_some] <;> rfl), by (with_reducible repeat (first | apply Kd.N_alloc | apply Kd.N_drewN | apply Kd.N_drew)); exact Kd.N_mono HO236.out (fun _ hk => hk.1), by repeat (first | (with_reducible first | exact HB.out | apply below_alloc | apply pw_below_drewN | apply below_drew1 | refine below_set ?_ GE182.out) | exact HB.out)⟩
        ·rw [if_neg c51] at H
         exact absurd H (by simp)
       ·rw [if_neg c48] at H
        exact absurd H (by simp)
      ·rw [if_neg c47] at H
       exact absurd H (by simp)
     ·rw [if_neg c46] at H
      exact absurd H (by simp)
    ·rw [if_neg c45] at H
     exact absurd H (by simp)
end Go.Proofs.Ytfeeahjaeapkoaa.P
end
