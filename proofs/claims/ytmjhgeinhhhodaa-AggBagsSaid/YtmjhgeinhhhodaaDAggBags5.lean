/- Texts of this repo, joined, without what this claim does not use: P19, ExtCheck, Rises, ExtAwake, P20, Sp. -/
import Derived.Test.YtmjhgeinhhhodaaDAggBags1
import Derived.Test.YtmjhgeinhhhodaaDAggBags2
import Derived.Test.YtmjhgeinhhhodaaDAggBags3
import Derived.Test.YtmjhgeinhhhodaaDAggBags4
section
namespace Go.Proofs.Ytmjhgeinhhhodaa.P
open Go.RowKit Go.Proofs.YtmjhgeinhhhodaaW.PrintWords Go.Proofs.YtmjhgeinhhhodaaW.PrintLast Go.Proofs.YtmjhgeinhhhodaaW.PrintMore
attribute [local go_sem] max2_int min2_int max_two min_two max_three min_three max_four min_four   -- for this text's walks alone
set_option linter.unusedVariables false
set_option linter.unusedSimpArgs false
open Go.Proofs.Ytmjhgeinhhhodaa.Ext (q1_ q2_ q3_ bk_ bw_ sz_ ne_ bx_)
attribute [local go_sem high] Go.Proofs.Ytmjhgeinhhhodaa.Ext.gtr_str Go.Proofs.Ytmjhgeinhhhodaa.Ext.leq_str Go.Proofs.Ytmjhgeinhhhodaa.Ext.geq_str
mutual
def gristmillref04_Own.l0 : Nat → List (S44) → List (S44) → Int → Option ((List (S44)))
 | 0, _, _, _ => none
 | k + 1, x0, x3, x4 => if x4 < (x0.length : Int) then (if 0 ≤ x4 then ((gristmillref04_Put.f k x3 ((rd_T44 x0 x4).f0.f0) ((rd_T44 x0 x4).f0.f1) ((rd_T44 x0 x4).f0.f2) ((rd_T44 x0 x4).f1)).bind fun t513 => (gristmillref04_Own.l0 k x0 t513 (wrap64 (x4 + 1)))) else (none)) else (gristmillref04_Own.l1 k x3 ([] : List (S44)) 0)
def gristmillref04_Own.l1 : Nat → List (S44) → List (S44) → Int → Option ((List (S44)))
 | 0, _, _, _ => none
 | k + 1, x3, x5, x6 => if x6 < (x3.length : Int) then (if 0 ≤ x6 then (if ((rd_T44 x3 x6).f1) = 0 then (gristmillref04_Own.l1 k x3 x5 (wrap64 (x6 + 1))) else (if x5.length < 2199023255552 then (gristmillref04_Own.l1 k x3 (x5 ++ [(⟨(⟨(rd_T44 x3 x6).f0.f0, (rd_T44 x3 x6).f0.f1, (rd_T44 x3 x6).f0.f2⟩ : S42), (rd_T44 x3 x6).f1⟩ : S44)]) (wrap64 (x6 + 1))) else (none))) else (none)) else (some x5)
end
def gristmillref04_Own.f (k : Nat) (l0 : List (S44)) : Option ((List (S44))) := gristmillref04_Own.l0 k l0 ([] : List (S44)) 0
def gristmillref04_Own.T5 : Bool × List (List Nat × List Nat) := (true, [([], []), ([], []), ([], []), ([1, 2], [1, 2]), ([3], [3]), ([4], [4]), ([], []), ([], []), ([6, 7], [6, 7]), ([8], [8]), ([9], [9]), ([0, 5, 10], [0, 5, 10]), ([11, 11, 0, 1, 2, 3, 4, 5, 6, 7, 8, 9, 10, 11], [0, 11])])
def gristmillref04_Own.B5 : List Nat := [0, 0, 0, 6, 14, 30, 0, 0, 192, 448, 960, 2047, 4095]
theorem gristmillref04_Own.tab5 : rtab .any (opsOf Try.f20 5) = gristmillref04_Own.T5 := by kernel_rfl
theorem gristmillref04_Own.bits5 : waitsOk gristmillref04_Own.T5.2 gristmillref04_Own.B5 = true := by kernel_rfl
set_option maxHeartbeats 8000000 in
set_option maxRecDepth 100000 in
theorem gristmillref04_Own.calls (k : Nat) (P0_ : Nat → Prop) (A0 : Option Addr) (c0 : Nat) (l0 : List (S44)) (r : List (S44)) (w : World) (hs0 : Kd.V k44 44 w w.heap.size (fun k_ => P0_ k_) (.slice A0 l0.length c0) l0) (h : gristmillref04_Own.f k l0 = some r) :
  Calls Try.prog 20 #[.slice A0 l0.length c0] w fun e w' => ∃ v0_ : Value, e = .returned (v0_) ∧ Kd.N k44 44 w' w.heap.size (fun k_ => (P0_ k_ ∨ w.heap.size ≤ k_)) v0_ r ∧ Below w.heap.size w w' := by
 have hu42 := Try.underlying42
 have hu44 := Try.underlying44
 have HO0 := Aside0.mk (show Kd.V k44 44 w w.heap.size (fun k_ => (P0_ k_ ∨ w.heap.size ≤ k_)) (.slice A0 l0.length c0) l0 from Kd.V_mono hs0 (fun k_ hk => .inl hk))
 have HB := Aside0.mk (Below.refl w.heap.size w)
 have H : (gristmillref04_Own.l0 k l0 ([] : List (S44)) 0) = some r := h
 clear h
 have H' := Aside0.mk H
 clear H
 go_enter Try.func20, Try.ntmps20
 go_wp2
 go_loopg [3, 4] k (fun kq v3 v4 w' => ∃ (x3_1 : List (S44)) (x4_1 : Int), v4 = .int .i64 x4_1 ∧ Aside0 (gristmillref04_Own.l0 kq l0 x3_1 x4_1 = some r) ∧ Aside0 (kq ≤ k) ∧ Aside0 (Kd.V k44 44 w' w.heap.size (fun k_ => (P0_ k_ ∨ w.heap.size ≤ k_) ∧ some k_ ≠ (v3 : Value).ownBlock) (.slice A0 l0.length c0) l0) ∧ Aside0 (Kd.N k44 44 w' w.heap.size (fun k_ => (P0_ k_ ∨ w.heap.size ≤ k_)) v3 x3_1) ∧ Aside0 (Below w.heap.size w w'))
 case atStart => exact ⟨(([] : List (S44))), (0), (by first | rfl | (simp; done) | (simp [*]; done)), H', ⟨Nat.le_refl _⟩, ⟨by (with_reducible repeat (first | apply Kd.V_alloc | apply Kd.V_drewN | apply Kd.V_drew)); exact Kd.V_mono HO0.out (fun _ hk => ⟨hk, (by simp [Value.ownBlock])⟩)⟩, ⟨by first | exact Kd.S_nil _ _ _ _ _ | exact Kd.N_nil _ _ _ _ _ | exact Kd.V_nil _ _ _ _ _ | exact Kd.Q_nil _ _ _ _ _ | exact Kd.R_nil _ _ _ _ _⟩, ⟨by repeat (first | (with_reducible first | exact HB.out | apply below_alloc | apply pw_below_drewN | apply below_drew1) | exact HB.out)⟩⟩
 case round =>
  clear H'
  obtain ⟨x3_1, x4_1, rfl, HA, HK1, HO_0, HO_3, HB⟩ := hrel
  cases gk with
  | zero => exact absurd HA.out (by simp [gristmillref04_Own.l0])
  | succ k1 =>
   have H := HA.out
   clear HA
   simp only [gristmillref04_Own.l0] at H
   by_cases c2 : x4_1 < (l0.length : Int)
   ·rw [if_pos c2] at H
    have c2b0 : decide (x4_1 < (l0.length : Int)) = true := decide_eq_true c2
    clear c2
    by_cases c3 : 0 ≤ x4_1
    ·rw [if_pos c3] at H
     have c3b0 : decide (0 ≤ x4_1) = true := decide_eq_true c3
     clear c3
     replace H := Option.bind_eq_some_iff.mp H
     obtain ⟨t513, A40, H⟩ := H
     replace H : (gristmillref04_Own.l0 k1 l0 t513 (wrap64 (x4_1 + 1))) = some r := H
     have A4 := Aside0.mk A40
     clear A40
     have H' := Aside0.mk H
     clear H
     try go_wp2
     have n0_ := Aside0.mk (Kd.V_drew HO_0.out)
     have n1_ := Aside0.mk (Kd.N_drew HO_3.out)
     have n2_ := Aside0.mk (below_drew1 HB.out)
     clear HO_0
     clear HO_3
     clear HB
     have HO_0 := n0_
     have HO_3 := n1_
     have HB := n2_
     clear n0_ n1_ n2_
     have p511 : 0 ≤ (x4_1 : Int) := of_decide_eq_true (by assumption)
     have q511 : x4_1 < (l0.length : Int) := of_decide_eq_true (by assumption)
     obtain ⟨ad511, A511_1, c511_1, A511_2, c511_2, e511, hx511_0, hx511_1, hx511_2, hx511_3, hl511_1, hi511_1, hl511_2, hi511_2⟩ := at_T44 (Kd.V_reads' HO_0.out).2.2 x4_1 p511 q511
     cases e511
     obtain ⟨ce511, hce511, hMe511, hcc511⟩ := Kd.V_get HO_0.out z44 x4_1 p511 (by first | exact q511 | exact of_decide_eq_true (by assumption) | (have e_ := (Kd.V_reads' HO_0.out).1; omega))
     obtain ⟨ua511_1, uc511_1, ua511_2, uc511_2, rfl, ul511_1, ge511_1, ul511_2, ge511_2⟩ := k44_openF hMe511
     have hv511_1 := hcc511 1 _ rfl
     rw [add_field _ _ 1 (by omega)] at hv511_1
     replace hv511_1 := Option.some.inj (hv511_1.symm.trans hx511_1)
     injection hv511_1 with hva_ hvn_ hvc_
     rw [hva_] at ge511_1
     rw [hvc_] at ul511_1
     have HL511_1 := Aside0.mk (show Kd.V Kd.string 9 _ w.heap.size _ _ ((rd_T44 l0 x4_1).f0.f1) from Kd.V_mk ul511_1 ge511_1)
     clear hva_ hvn_ hvc_ ge511_1 ul511_1
     have hv511_2 := hcc511 2 _ rfl
     rw [add_field _ _ 2 (by omega)] at hv511_2
     replace hv511_2 := Option.some.inj (hv511_2.symm.trans hx511_2)
     injection hv511_2 with hva_ hvn_ hvc_
     rw [hva_] at ge511_2
     rw [hvc_] at ul511_2
     have HL511_2 := Aside0.mk (show Kd.V (Kd.int .i64) 2 _ w.heap.size _ _ ((rd_T44 l0 x4_1).f0.f2) from Kd.V_mk ul511_2 ge511_2)
     clear hva_ hvn_ hvc_ ge511_2 ul511_2
     clear hcc511 hce511
     have HR511_1 := Aside0.mk hi511_1
     have HC511_1 := Aside0.mk hl511_1
     clear hi511_1 hl511_1
     have HR511_2 := Aside0.mk hi511_2
     have HC511_2 := Aside0.mk hl511_2
     clear hi511_2 hl511_2
     replace p511 := eq_true p511
     replace q511 := eq_true q511
     have p512 : 0 ≤ (x4_1 : Int) := of_decide_eq_true (by assumption)
     have q512 : x4_1 < (l0.length : Int) := of_decide_eq_true (by assumption)
     obtain ⟨ad512, A512_1, c512_1, A512_2, c512_2, e512, hx512_0, hx512_1, hx512_2, hx512_3, hl512_1, hi512_1, hl512_2, hi512_2⟩ := at_T44 (Kd.V_reads' HO_0.out).2.2 x4_1 p512 q512
     obtain rfl : ad511 = ad512 := (by injection e512)
     obtain ⟨ce512, hce512, hMe512, hcc512⟩ := Kd.V_get HO_0.out z44 x4_1 p512 (by first | exact q512 | exact of_decide_eq_true (by assumption) | (have e_ := (Kd.V_reads' HO_0.out).1; omega))
     obtain ⟨ua512_1, uc512_1, ua512_2, uc512_2, rfl, ul512_1, ge512_1, ul512_2, ge512_2⟩ := k44_openF hMe512
     have hv512_1 := hcc512 1 _ rfl
     rw [add_field _ _ 1 (by omega)] at hv512_1
     replace hv512_1 := Option.some.inj (hv512_1.symm.trans hx512_1)
     injection hv512_1 with hva_ hvn_ hvc_
     rw [hva_] at ge512_1
     rw [hvc_] at ul512_1
     have HL512_1 := Aside0.mk (show Kd.V Kd.string 9 _ w.heap.size _ _ ((rd_T44 l0 x4_1).f0.f1) from Kd.V_mk ul512_1 ge512_1)
     clear hva_ hvn_ hvc_ ge512_1 ul512_1
     have hv512_2 := hcc512 2 _ rfl
     rw [add_field _ _ 2 (by omega)] at hv512_2
     replace hv512_2 := Option.some.inj (hv512_2.symm.trans hx512_2)
     injection hv512_2 with hva_ hvn_ hvc_
     rw [hva_] at ge512_2
     rw [hvc_] at ul512_2
     have HL512_2 := Aside0.mk (show Kd.V (Kd.int .i64) 2 _ w.heap.size _ _ ((rd_T44 l0 x4_1).f0.f2) from Kd.V_mk ul512_2 ge512_2)
     clear hva_ hvn_ hvc_ ge512_2 ul512_2
     clear hcc512 hce512
     have HR512_1 := Aside0.mk hi512_1
     have HC512_1 := Aside0.mk hl512_1
     clear hi512_1 hl512_1
     have HR512_2 := Aside0.mk hi512_2
     have HC512_2 := Aside0.mk hl512_2
     clear hi512_2 hl512_2
     replace p512 := eq_true p512
     replace q512 := eq_true q512
     have ea_ := Option.some.inj (hx511_1.symm.trans hx512_1)
     injection ea_ with ea_ en_ ec_
     subst ea_
     subst ec_
     clear en_
     have ea_ := Option.some.inj (hx511_2.symm.trans hx512_2)
     injection ea_ with ea_ en_ ec_
     subst ea_
     subst ec_
     clear en_
     obtain ⟨Ao6, co6, eo6⟩ := Kd.N_slice HO_3.out
     (first | subst eo6 | (injection eo6 with f1_ f2_ f3_; have f4_ := f1_.symm; have f5_ := f3_.symm; clear f1_ f2_ f3_; subst f4_; subst f5_))
     refine start_ (n := 13) (S := fun w' => w'.cell? (ad511.add ((x4_1).toNat * 4)) = some (.int .i64 ((rd_T44 l0 x4_1).f0.f0)) ∧ w'.cell? ⟨(ad511.add ((x4_1).toNat * 4)).block, (ad511.add ((x4_1).toNat * 4)).off + 1, none⟩ = some (.slice A511_1 ((rd_T44 l0 x4_1).f0.f1).length c511_1) ∧ w'.cell? ⟨(ad511.add ((x4_1).toNat * 4)).block, (ad511.add ((x4_1).toNat * 4)).off + 2, none⟩ = some (.slice A511_2 ((rd_T44 l0 x4_1).f0.f2).length c511_2) ∧ w'.cell? ⟨(ad511.add ((x4_1).toNat * 4)).block, (ad511.add ((x4_1).toNat * 4)).off + 3, none⟩ = some (.int .u64 ((rd_T44 l0 x4_1).f1)) ∧ w'.cell? (ad511.add ((x4_1).toNat * 4)) = some (.int .i64 ((rd_T44 l0 x4_1).f0.f0)) ∧ w'.cell? ⟨(ad511.add ((x4_1).toNat * 4)).block, (ad511.add ((x4_1).toNat * 4)).off + 1, none⟩ = some (.slice A511_1 ((rd_T44 l0 x4_1).f0.f1).length c511_1) ∧ w'.cell? ⟨(ad511.add ((x4_1).toNat * 4)).block, (ad511.add ((x4_1).toNat * 4)).off + 2, none⟩ = some (.slice A511_2 ((rd_T44 l0 x4_1).f0.f2).length c511_2) ∧ w'.cell? ⟨(ad511.add ((x4_1).toNat * 4)).block, (ad511.add ((x4_1).toNat * 4)).off + 3, none⟩ = some (.int .u64 ((rd_T44 l0 x4_1).f1))) (ds := []) #[false, false, false, false, false, false, false, false, false, false, false, false, false] (by kernel_rfl) rfl rfl ⟨hx511_0, hx511_1, hx511_2, hx511_3, hx512_0, hx512_1, hx512_2, hx512_3⟩ (fun hHeld => ?_); refine with_tabW gristmillref04_Own.tab5 gristmillref04_Own.bits5 (fun HT_ HW_ => ?_)
     generalize wr.drew = w5 at HO_0 HO_3 HB HL511_1 HL511_2 HL512_1 HL512_2 HR511_1 HR511_2 HR512_1 HR512_2 hx511_0 hx511_1 hx511_2 hx511_3 hx512_0 hx512_1 hx512_2 hx512_3 hHeld ⊢
     refine pure_ (i := 0) (N := some 13) (v := ?_) (a' := ?_) #[true, false, false, false, false, false, false, false, false, false, false, false, false] rfl rfl (any_of HT_.out (by kernel_rfl)) (fun _ _ _ h => h) (Or.inl ⟨by rfl, ?_⟩) ?_ ?_
     rotate_left
     ·intro w'
      go_simp
      with_reducible rfl
     rotate_left
     ·simp only [Act.put, q1_, q2_, q3_, i64_w, i32_w]
      rfl
     refine pure_ (i := 1) (N := some 14) (v := ?_) (a' := ?_) #[true, true, false, false, false, false, false, false, false, false, false, false, false] rfl rfl (any_of HT_.out (by kernel_rfl)) (fun _ _ _ h => h) (Or.inl ⟨by rfl, ?_⟩) ?_ ?_
     rotate_left
     ·intro w'
      go_simp
      with_reducible rfl
     rotate_left
     ·simp only [Act.put, q1_, q2_, q3_, i64_w, i32_w]
      rfl
     refine pure_ (i := 2) (N := some 15) (v := ?_) (a' := ?_) #[true, true, true, false, false, false, false, false, false, false, false, false, false] rfl rfl (any_of HT_.out (by kernel_rfl)) (fun _ _ _ h => h) (Or.inl ⟨by rfl, ?_⟩) ?_ ?_
     rotate_left
     ·intro w'
      go_simp
      with_reducible rfl
     rotate_left
     ·simp only [Act.put, q1_, q2_, q3_, i64_w, i32_w]
      rfl
     refine pure_ (i := 3) (N := some 16) (v := ?_) (a' := ?_) #[true, true, true, true, false, false, false, false, false, false, false, false, false] rfl rfl (any_of HT_.out (by kernel_rfl)) (fun _ _ _ h => h) (Or.inl ⟨by rfl, ?_⟩) ?_ ?_
     rotate_left
     ·intro w'
      go_simp
      with_reducible rfl
     rotate_left
     ·simp only [Act.put, q1_, q2_, q3_, i64_w, i32_w]
      rfl
     refine pure_ (i := 4) (N := some 17) (v := ?_) (a' := ?_) #[true, true, true, true, true, false, false, false, false, false, false, false, false] rfl rfl (any_of HT_.out (by kernel_rfl)) (fun _ _ _ h => h) (Or.inl ⟨by rfl, ?_⟩) ?_ ?_
     rotate_left
     ·intro w'
      go_simp
      with_reducible rfl
     rotate_left
     ·simp only [Act.put, q1_, q2_, q3_, i64_w, i32_w]
      rfl
     refine pure_ (i := 6) (N := some 19) (v := ?_) (a' := ?_) #[true, true, true, true, true, false, true, false, false, false, false, false, false] rfl rfl (any_of HT_.out (by kernel_rfl)) (fun _ _ _ h => h) (Or.inl ⟨by rfl, ?_⟩) ?_ ?_
     rotate_left
     ·intro w'
      go_simp
      with_reducible rfl
     rotate_left
     ·simp only [Act.put, q1_, q2_, q3_, i64_w, i32_w]
      rfl
     refine pure_ (i := 7) (N := some 20) (v := ?_) (a' := ?_) #[true, true, true, true, true, false, true, true, false, false, false, false, false] rfl rfl (any_of HT_.out (by kernel_rfl)) (fun _ _ _ h => h) (Or.inl ⟨by rfl, ?_⟩) ?_ ?_
     rotate_left
     ·intro w'
      go_simp
      with_reducible rfl
     rotate_left
     ·simp only [Act.put, q1_, q2_, q3_, i64_w, i32_w]
      rfl
     refine pure_ (i := 8) (N := some 21) (v := ?_) (a' := ?_) #[true, true, true, true, true, false, true, true, true, false, false, false, false] rfl rfl (any_of HT_.out (by kernel_rfl)) (fun _ _ _ h => h) (Or.inl ⟨by rfl, ?_⟩) ?_ ?_
     rotate_left
     ·intro w'
      go_simp
      with_reducible rfl
     rotate_left
     ·simp only [Act.put, q1_, q2_, q3_, i64_w, i32_w]
      rfl
     refine pure_ (i := 9) (N := some 22) (v := ?_) (a' := ?_) #[true, true, true, true, true, false, true, true, true, true, false, false, false] rfl rfl (any_of HT_.out (by kernel_rfl)) (fun _ _ _ h => h) (Or.inl ⟨by rfl, ?_⟩) ?_ ?_
     rotate_left
     ·intro w'
      go_simp
      with_reducible rfl
     rotate_left
     ·simp only [Act.put, q1_, q2_, q3_, i64_w, i32_w]
      rfl
     refine take_ (i := 5) (N := some 18) (v := ?_) (a' := ?_) #[true, true, true, true, true, true, true, true, true, true, false, false, false] rfl rfl (take_ofW HT_.out HW_.out (by kernel_rfl)) (fun _ _ _ h => h) (Or.inl ⟨by rfl, ?_⟩) hHeld ?_ ?_
     rotate_left
     ·rintro w' ⟨s0, s1, s2, s3, s4, s5, s6, s7⟩
      go_simp
      with_reducible rfl
     rotate_left
     ·simp only [Act.put, q1_, q2_, q3_, i64_w, i32_w]
      rfl
     refine take_ (i := 10) (N := some 23) (v := ?_) (a' := ?_) #[true, true, true, true, true, true, true, true, true, true, true, false, false] rfl rfl (take_ofW HT_.out HW_.out (by kernel_rfl)) (fun _ _ _ h => h) (Or.inl ⟨by rfl, ?_⟩) hHeld ?_ ?_
     rotate_left
     ·rintro w' ⟨s0, s1, s2, s3, s4, s5, s6, s7⟩
      go_simp
      with_reducible rfl
     rotate_left
     ·simp only [Act.put, q1_, q2_, q3_, i64_w, i32_w]
      rfl
     refine one_ (i := 11) (N := some 24) #[true, true, true, true, true, true, true, true, true, true, true, true, false] rfl rfl (one_of HT_.out (by kernel_rfl)) (by decide) (fun K hK => ?_)
     refine goes_ Try.func32 (by kernel_rfl) rfl #[.slice Ao6 x3_1.length co6, .agg #[.int .i64 ((rd_T44 l0 x4_1).f0.f0), .slice A511_1 ((rd_T44 l0 x4_1).f0.f1).length c511_1, .slice A511_2 ((rd_T44 l0 x4_1).f0.f2).length c511_2], .int .u64 ((rd_T44 l0 x4_1).f1)] (by rfl) rfl rfl (by (try simp only [List.map_toArray, List.map_cons, List.map_nil]); first | done | rfl | (simp only [List.length_drop, List.length_take]; rfl)) ?_
     with_reducible refine (gristmillref04_Put.calls k1 (fun k_ => (P0_ k_ ∨ w.heap.size ≤ k_)) _ _ x3_1 ((rd_T44 l0 x4_1).f0.f0) (fun k_ => ((P0_ k_ ∨ w.heap.size ≤ k_) ∧ some k_ ≠ (.slice Ao6 x3_1.length co6 : Value).ownBlock)) _ _ ((rd_T44 l0 x4_1).f0.f1) (fun k_ => ((P0_ k_ ∨ w.heap.size ≤ k_) ∧ some k_ ≠ (.slice Ao6 x3_1.length co6 : Value).ownBlock)) _ _ ((rd_T44 l0 x4_1).f0.f2) ((rd_T44 l0 x4_1).f1) t513 _ ?side1 ?side2 ?side3 A4.out).mono ?_
     (case side1 => exact Kd.N_V (HO_3.out))
     (case side2 => exact HL511_1.out)
     (case side3 => exact HL511_2.out)
     rintro e w7 ⟨v514, rfl, ho0, hb⟩
     have HS0_ := (hb.cell (World.block_lt_of_cell? _ _ (hHeld.1))).trans (hHeld.1)
     have HS1_ := (hb.cell (World.block_lt_of_cell? _ _ (hHeld.2.1))).trans (hHeld.2.1)
     have HS2_ := (hb.cell (World.block_lt_of_cell? _ _ (hHeld.2.2.1))).trans (hHeld.2.2.1)
     have HS3_ := (hb.cell (World.block_lt_of_cell? _ _ (hHeld.2.2.2.1))).trans (hHeld.2.2.2.1)
     have HS4_ := (hb.cell (World.block_lt_of_cell? _ _ (hHeld.2.2.2.2.1))).trans (hHeld.2.2.2.2.1)
     have HS5_ := (hb.cell (World.block_lt_of_cell? _ _ (hHeld.2.2.2.2.2.1))).trans (hHeld.2.2.2.2.2.1)
     have HS6_ := (hb.cell (World.block_lt_of_cell? _ _ (hHeld.2.2.2.2.2.2.1))).trans (hHeld.2.2.2.2.2.2.1)
     have HS7_ := (hb.cell (World.block_lt_of_cell? _ _ (hHeld.2.2.2.2.2.2.2))).trans (hHeld.2.2.2.2.2.2.2)
     refine ⟨_, rfl, ?_⟩
     have n0_ := Aside0.mk (Kd.V_elder' (by (with_reducible repeat (first | apply Kd.V_alloc | apply Kd.V_drewN | apply Kd.V_drew)); exact HO_0.out) (by first | exact Kd.N_base ho0 | exact Kd.S_base ho0) hb)
     have n1_ := Aside0.mk (Kd.N_elder' (by (with_reducible repeat (first | apply Kd.N_alloc | apply Kd.N_drewN | apply Kd.N_drew)); exact HO_3.out) (by first | exact Kd.N_base ho0 | exact Kd.S_base ho0) hb)
     have n2_ := Aside0.mk (Kd.V_elder' (by (with_reducible repeat (first | apply Kd.V_alloc | apply Kd.V_drewN | apply Kd.V_drew)); exact HL511_1.out) (by first | exact Kd.N_base ho0 | exact Kd.S_base ho0) hb)
     have n3_ := Aside0.mk (Kd.V_elder' (by (with_reducible repeat (first | apply Kd.V_alloc | apply Kd.V_drewN | apply Kd.V_drew)); exact HL511_2.out) (by first | exact Kd.N_base ho0 | exact Kd.S_base ho0) hb)
     have n4_ := Aside0.mk (Kd.V_elder' (by (with_reducible repeat (first | apply Kd.V_alloc | apply Kd.V_drewN | apply Kd.V_drew)); exact HL512_1.out) (by first | exact Kd.N_base ho0 | exact Kd.S_base ho0) hb)
     have n5_ := Aside0.mk (Kd.V_elder' (by (with_reducible repeat (first | apply Kd.V_alloc | apply Kd.V_drewN | apply Kd.V_drew)); exact HL512_2.out) (by first | exact Kd.N_base ho0 | exact Kd.S_base ho0) hb)
     have n6_ := Aside0.mk (Kd.N_lower (Kd.N_mono (ok' := fun k_ => (P0_ k_ ∨ w.heap.size ≤ k_)) ho0 (fun k_ hk_ => Or.elim hk_ (fun hs_ => Or.elim hs_ (fun hs_ => hs_) (fun hs_ => Or.elim hs_ (fun hs_ => hs_.1) (fun hs_ => hs_.1))) (fun hn_ => (.inr (Nat.le_trans (below_size (bw_ HB.out)) hn_))))) (below_size (bw_ HB.out)))
     have n7_ := Aside0.mk (Kd.C_below (by repeat (first | (with_reducible exact HR511_1.out) | (with_reducible refine Kd.C_alloc ?_ _) | (with_reducible refine Kd.C_drewN ?_ _) | (with_reducible refine Kd.C_drew ?_) | exact HR511_1.out)) hb)
     have n8_ := Aside0.mk (Kd.C_below (by repeat (first | (with_reducible exact HR511_2.out) | (with_reducible refine Kd.C_alloc ?_ _) | (with_reducible refine Kd.C_drewN ?_ _) | (with_reducible refine Kd.C_drew ?_) | exact HR511_2.out)) hb)
     have n9_ := Aside0.mk (Kd.C_below (by repeat (first | (with_reducible exact HR512_1.out) | (with_reducible refine Kd.C_alloc ?_ _) | (with_reducible refine Kd.C_drewN ?_ _) | (with_reducible refine Kd.C_drew ?_) | exact HR512_1.out)) hb)
     have n10_ := Aside0.mk (Kd.C_below (by repeat (first | (with_reducible exact HR512_2.out) | (with_reducible refine Kd.C_alloc ?_ _) | (with_reducible refine Kd.C_drewN ?_ _) | (with_reducible refine Kd.C_drew ?_) | exact HR512_2.out)) hb)
     have n11_ := Aside0.mk (below_step (bw_ HB.out) hb)
     clear HO_0
     clear HO_3
     clear HL511_1
     clear HL511_2
     clear HL512_1
     clear HL512_2
     clear HR511_1
     clear HR511_2
     clear HR512_1
     clear HR512_2
     clear HB
     have HO_0 := n0_
     have HO_3 := n1_
     have HL511_1 := n2_
     have HL511_2 := n3_
     have HL512_1 := n4_
     have HL512_2 := n5_
     have HO515 := n6_
     have HR511_1 := n7_
     have HR511_2 := n8_
     have HR512_1 := n9_
     have HR512_2 := n10_
     have HB := n11_
     clear n0_ n1_ n2_ n3_ n4_ n5_ n6_ n7_ n8_ n9_ n10_ n11_
     (try clear hb)
     (try clear hb2)
     (try clear hk)
     (try clear hi)
     (try clear ho0)
     refine hK.out _ _ ⟨HS0_, HS1_, HS2_, HS3_, HS4_, HS5_, HS6_, HS7_⟩ (fun hHeld => ?_)
     clear hK K
     refine norm_ (a' := ?_) ?_ ?_
     rotate_left
     ·show Act.put _ (some 24) _ = _
      simp only [Act.put, q1_, q2_, q3_, i64_w, i32_w]
      rfl
     refine pure_ (i := 12) (N := some 3) (v := ?_) (a' := ?_) #[true, true, true, true, true, true, true, true, true, true, true, true, true] rfl rfl (any_of HT_.out (by kernel_rfl)) (fun _ _ _ h => h) (Or.inl ⟨by rfl, ?_⟩) ?_ ?_
     rotate_left
     ·intro w'
      go_simp
      with_reducible rfl
     rotate_left
     ·simp only [Act.put, q1_, q2_, q3_, i64_w, i32_w]
      rfl
     refine done_ (done_of HT_.out (by kernel_rfl)) ?_
     try go_wp2
     go_roundg k1
     case measure => have := HK1.out; omega
     case rel => exact ⟨(t513), (wrap64 (x4_1 + 1)), (by first | rfl | (simp; done) | (simp [*]; done)), H', ⟨by have := HK1.out; omega⟩, ⟨by (with_reducible repeat (first | apply Kd.V_alloc | apply Kd.V_drewN | apply Kd.V_drew)); exact Kd.V_mono HO_0.out (fun _ hk => ⟨hk.1.1, hk.2⟩)⟩, ⟨by (with_reducible repeat (first | apply Kd.N_alloc | apply Kd.N_drewN | apply Kd.N_drew)); exact HO515.out⟩, ⟨by repeat (first | (with_reducible first | exact HB.out | apply below_alloc | apply pw_below_drewN | apply below_drew1) | exact HB.out)⟩⟩
    ·rw [if_neg c3] at H
     exact absurd H (by simp)
   ·rw [if_neg c2] at H
    have c2b0 : decide (x4_1 < (l0.length : Int)) = false := decide_eq_false c2
    clear c2
    have H' := Aside0.mk H
    clear H
    go_wp2
    go_loopg [5, 6] k1 (fun kq v5 v6 w' => ∃ (x5_2 : List (S44)) (x6_2 : Int), v6 = .int .i64 x6_2 ∧ Aside0 (gristmillref04_Own.l1 kq x3_1 x5_2 x6_2 = some r) ∧ Aside0 (kq ≤ k1) ∧ Aside0 (Kd.N k44 44 w' w.heap.size (fun k_ => (P0_ k_ ∨ w.heap.size ≤ k_) ∧ some k_ ≠ (v5 : Value).ownBlock) u3 x3_1) ∧ Aside0 (Kd.N k44 44 w' w.heap.size (fun k_ => (P0_ k_ ∨ w.heap.size ≤ k_) ∧ some k_ ≠ (u3 : Value).ownBlock) v5 x5_2) ∧ Aside0 (Below w.heap.size w w'))
    case atStart => exact ⟨(([] : List (S44))), (0), (by first | rfl | (simp; done) | (simp [*]; done)), H', ⟨Nat.le_refl _⟩, ⟨by (with_reducible repeat (first | apply Kd.N_alloc | apply Kd.N_drewN | apply Kd.N_drew)); exact Kd.N_mono HO_3.out (fun _ hk => ⟨hk, (by simp [Value.ownBlock])⟩)⟩, ⟨by first | exact Kd.S_nil _ _ _ _ _ | exact Kd.N_nil _ _ _ _ _ | exact Kd.V_nil _ _ _ _ _ | exact Kd.Q_nil _ _ _ _ _ | exact Kd.R_nil _ _ _ _ _⟩, ⟨by repeat (first | (with_reducible first | exact HB.out | apply below_alloc | apply pw_below_drewN | apply below_drew1) | exact HB.out)⟩⟩
    case round =>
     clear H'
     try clear c2
     try clear c2b0
     try clear p2
     try clear c3
     try clear c3b0
     try clear c5
     try clear p5
     try clear q5
     try clear hx5
     try clear p6
     try clear hx511_0
     try clear hx511_1
     try clear hx511_2
     try clear hx511_3
     try clear hx512_0
     try clear hx512_1
     try clear hx512_2
     try clear hx512_3
     try clear p511
     try clear p512
     try clear q511
     try clear q512
     obtain ⟨x5_2, x6_2, rfl, HA, HK2, HO_3, HO_5, HB⟩ := hrel
     cases gk with
     | zero => exact absurd HA.out (by simp [gristmillref04_Own.l1])
     | succ k2 =>
      have H := HA.out
      clear HA
      simp only [gristmillref04_Own.l1] at H
      by_cases c8 : x6_2 < (x3_1.length : Int)
      ·rw [if_pos c8] at H
       have c8b0 : decide (x6_2 < (x3_1.length : Int)) = true := decide_eq_true c8
       clear c8
       by_cases c9 : 0 ≤ x6_2
       ·rw [if_pos c9] at H
        have c9b0 : decide (0 ≤ x6_2) = true := decide_eq_true c9
        clear c9
        by_cases c10 : ((rd_T44 x3_1 x6_2).f1) = 0
        ·rw [if_pos c10] at H
         have c10b0 : (((rd_T44 x3_1 x6_2).f1) == 0) = true := beq_iff_eq.mpr c10
         have c10b1 : (((rd_T44 x3_1 x6_2).f1) != 0) = false := bne_eq_false_iff_eq.mpr c10
         clear c10
         have H' := Aside0.mk H
         clear H
         obtain ⟨Ao11, co11, eo11⟩ := Kd.N_slice HO_3.out
         subst eo11
         have p516 : 0 ≤ (x6_2 : Int) := of_decide_eq_true (by assumption)
         have q516 : x6_2 < (x3_1.length : Int) := of_decide_eq_true (by assumption)
         obtain ⟨ad516, A516_1, c516_1, A516_2, c516_2, e516, hx516_0, hx516_1, hx516_2, hx516_3, hl516_1, hi516_1, hl516_2, hi516_2⟩ := at_T44 (Kd.N_reads' HO_3.out).2.2 x6_2 p516 q516
         cases e516
         obtain ⟨ce516, hce516, hMe516, hcc516⟩ := Kd.N_get HO_3.out z44 x6_2 p516 (by first | exact q516 | exact of_decide_eq_true (by assumption) | (have e_ := (Kd.N_reads' HO_3.out).1; omega))
         obtain ⟨ua516_1, uc516_1, ua516_2, uc516_2, rfl, ul516_1, ge516_1, ul516_2, ge516_2⟩ := k44_openF hMe516
         have hv516_1 := hcc516 1 _ rfl
         rw [add_field _ _ 1 (by omega)] at hv516_1
         replace hv516_1 := Option.some.inj (hv516_1.symm.trans hx516_1)
         injection hv516_1 with hva_ hvn_ hvc_
         rw [hva_] at ge516_1
         rw [hvc_] at ul516_1
         have HL516_1 := Aside0.mk (show Kd.V Kd.string 9 _ w.heap.size _ _ ((rd_T44 x3_1 x6_2).f0.f1) from Kd.V_mk ul516_1 ge516_1)
         clear hva_ hvn_ hvc_ ge516_1 ul516_1
         have hv516_2 := hcc516 2 _ rfl
         rw [add_field _ _ 2 (by omega)] at hv516_2
         replace hv516_2 := Option.some.inj (hv516_2.symm.trans hx516_2)
         injection hv516_2 with hva_ hvn_ hvc_
         rw [hva_] at ge516_2
         rw [hvc_] at ul516_2
         have HL516_2 := Aside0.mk (show Kd.V (Kd.int .i64) 2 _ w.heap.size _ _ ((rd_T44 x3_1 x6_2).f0.f2) from Kd.V_mk ul516_2 ge516_2)
         clear hva_ hvn_ hvc_ ge516_2 ul516_2
         clear hcc516 hce516
         have HR516_1 := Aside0.mk hi516_1
         have HC516_1 := Aside0.mk hl516_1
         clear hi516_1 hl516_1
         have HR516_2 := Aside0.mk hi516_2
         have HC516_2 := Aside0.mk hl516_2
         clear hi516_2 hl516_2
         replace p516 := eq_true p516
         replace q516 := eq_true q516
         go_wp2
         go_roundg k2
         case measure => have := HK1.out; have := HK2.out; omega
         case rel => exact ⟨(x5_2), (wrap64 (x6_2 + 1)), (by first | rfl | (simp; done) | (simp [*]; done)), H', ⟨by have := HK1.out; have := HK2.out; omega⟩, ⟨by (with_reducible repeat (first | apply Kd.N_alloc | apply Kd.N_drewN | apply Kd.N_drew)); exact HO_3.out⟩, ⟨by (with_reducible repeat (first | apply Kd.N_alloc | apply Kd.N_drewN | apply Kd.N_drew)); exact HO_5.out⟩, ⟨by repeat (first | (with_reducible first | exact HB.out | apply below_alloc | apply pw_below_drewN | apply below_drew1) | exact HB.out)⟩⟩
        ·rw [if_neg c10] at H
         have c10b0 : (((rd_T44 x3_1 x6_2).f1) == 0) = false := beq_eq_false_iff_ne.mpr c10
         have c10b1 : (((rd_T44 x3_1 x6_2).f1) != 0) = true := bne_iff_ne.mpr c10
         by_cases c12 : x5_2.length < 2199023255552
         ·rw [if_pos c12] at H
          have LMc12 := Aside0.mk c12
          clear c12
          obtain ⟨y518, hy518⟩ : ∃ y_ : List (S44), y_ = (x5_2 ++ [(⟨(⟨(rd_T44 x3_1 x6_2).f0.f0, (rd_T44 x3_1 x6_2).f0.f1, (rd_T44 x3_1 x6_2).f0.f2⟩ : S42), (rd_T44 x3_1 x6_2).f1⟩ : S44)]) := ⟨_, rfl⟩
          replace H : (gristmillref04_Own.l1 k2 x3_1 y518 (wrap64 (x6_2 + 1))) = some r := by first | (rw [hy518]; with_reducible exact H) | (have H2_ := (Option.bind_some _ _).symm.trans H; rw [hy518]; with_reducible exact H2_) | (have H2_ := (Option.bind_some _ _).symm.trans H; with_reducible exact H2_) | with_reducible exact H | (rw [hy518]; exact H) | exact H
          have Ny518 := Aside0.mk hy518
          clear hy518
          have H' := Aside0.mk H
          clear H
          obtain ⟨Ao13, co13, eo13⟩ := Kd.N_slice HO_3.out
          subst eo13
          have p516 : 0 ≤ (x6_2 : Int) := of_decide_eq_true (by assumption)
          have q516 : x6_2 < (x3_1.length : Int) := of_decide_eq_true (by assumption)
          obtain ⟨ad516, A516_1, c516_1, A516_2, c516_2, e516, hx516_0, hx516_1, hx516_2, hx516_3, hl516_1, hi516_1, hl516_2, hi516_2⟩ := at_T44 (Kd.N_reads' HO_3.out).2.2 x6_2 p516 q516
          cases e516
          obtain ⟨ce516, hce516, hMe516, hcc516⟩ := Kd.N_get HO_3.out z44 x6_2 p516 (by first | exact q516 | exact of_decide_eq_true (by assumption) | (have e_ := (Kd.N_reads' HO_3.out).1; omega))
          obtain ⟨ua516_1, uc516_1, ua516_2, uc516_2, rfl, ul516_1, ge516_1, ul516_2, ge516_2⟩ := k44_openF hMe516
          have hv516_1 := hcc516 1 _ rfl
          rw [add_field _ _ 1 (by omega)] at hv516_1
          replace hv516_1 := Option.some.inj (hv516_1.symm.trans hx516_1)
          injection hv516_1 with hva_ hvn_ hvc_
          rw [hva_] at ge516_1
          rw [hvc_] at ul516_1
          have HL516_1 := Aside0.mk (show Kd.V Kd.string 9 _ w.heap.size _ _ ((rd_T44 x3_1 x6_2).f0.f1) from Kd.V_mk ul516_1 ge516_1)
          clear hva_ hvn_ hvc_ ge516_1 ul516_1
          have hv516_2 := hcc516 2 _ rfl
          rw [add_field _ _ 2 (by omega)] at hv516_2
          replace hv516_2 := Option.some.inj (hv516_2.symm.trans hx516_2)
          injection hv516_2 with hva_ hvn_ hvc_
          rw [hva_] at ge516_2
          rw [hvc_] at ul516_2
          have HL516_2 := Aside0.mk (show Kd.V (Kd.int .i64) 2 _ w.heap.size _ _ ((rd_T44 x3_1 x6_2).f0.f2) from Kd.V_mk ul516_2 ge516_2)
          clear hva_ hvn_ hvc_ ge516_2 ul516_2
          clear hcc516 hce516
          have HR516_1 := Aside0.mk hi516_1
          have HC516_1 := Aside0.mk hl516_1
          clear hi516_1 hl516_1
          have HR516_2 := Aside0.mk hi516_2
          have HC516_2 := Aside0.mk hl516_2
          clear hi516_2 hl516_2
          replace p516 := eq_true p516
          replace q516 := eq_true q516
          have p517 : 0 ≤ (x6_2 : Int) := of_decide_eq_true (by assumption)
          have q517 : x6_2 < (x3_1.length : Int) := of_decide_eq_true (by assumption)
          obtain ⟨ad517, A517_1, c517_1, A517_2, c517_2, e517, hx517_0, hx517_1, hx517_2, hx517_3, hl517_1, hi517_1, hl517_2, hi517_2⟩ := at_T44 (Kd.N_reads' HO_3.out).2.2 x6_2 p517 q517
          obtain rfl : ad516 = ad517 := (by injection e517)
          obtain ⟨ce517, hce517, hMe517, hcc517⟩ := Kd.N_get HO_3.out z44 x6_2 p517 (by first | exact q517 | exact of_decide_eq_true (by assumption) | (have e_ := (Kd.N_reads' HO_3.out).1; omega))
          obtain ⟨ua517_1, uc517_1, ua517_2, uc517_2, rfl, ul517_1, ge517_1, ul517_2, ge517_2⟩ := k44_openF hMe517
          have hv517_1 := hcc517 1 _ rfl
          rw [add_field _ _ 1 (by omega)] at hv517_1
          replace hv517_1 := Option.some.inj (hv517_1.symm.trans hx517_1)
          injection hv517_1 with hva_ hvn_ hvc_
          rw [hva_] at ge517_1
          rw [hvc_] at ul517_1
          have HL517_1 := Aside0.mk (show Kd.V Kd.string 9 _ w.heap.size _ _ ((rd_T44 x3_1 x6_2).f0.f1) from Kd.V_mk ul517_1 ge517_1)
          clear hva_ hvn_ hvc_ ge517_1 ul517_1
          have hv517_2 := hcc517 2 _ rfl
          rw [add_field _ _ 2 (by omega)] at hv517_2
          replace hv517_2 := Option.some.inj (hv517_2.symm.trans hx517_2)
          injection hv517_2 with hva_ hvn_ hvc_
          rw [hva_] at ge517_2
          rw [hvc_] at ul517_2
          have HL517_2 := Aside0.mk (show Kd.V (Kd.int .i64) 2 _ w.heap.size _ _ ((rd_T44 x3_1 x6_2).f0.f2) from Kd.V_mk ul517_2 ge517_2)
          clear hva_ hvn_ hvc_ ge517_2 ul517_2
          clear hcc517 hce517
          have HR517_1 := Aside0.mk hi517_1
          have HC517_1 := Aside0.mk hl517_1
          clear hi517_1 hl517_1
          have HR517_2 := Aside0.mk hi517_2
          have HC517_2 := Aside0.mk hl517_2
          clear hi517_2 hl517_2
          replace p517 := eq_true p517
          replace q517 := eq_true q517
          have ea_ := Option.some.inj (hx516_1.symm.trans hx517_1)
          injection ea_ with ea_ en_ ec_
          subst ea_
          subst ec_
          clear en_
          have ea_ := Option.some.inj (hx516_2.symm.trans hx517_2)
          injection ea_ with ea_ en_ ec_
          subst ea_
          subst ec_
          clear en_
          go_wp2_with (first | ((with_reducible refine gate_builtin (b := .append) (xs := #[.tmp 37, .tmp 42]) rfl ?_); at_builtin; refine Kd.N_append k44 (w0 := w) w.heap.size rfl (.tmp 37) (.tmp 42) 24 44 (.agg #[(.int .i64 0), (.slice none 0 0), (.slice none 0 0), (.int .u64 0)]) 64 rfl Try.underlying24 info44 rfl (by decide) (by omega) u5 x5_2 (⟨(⟨(rd_T44 x3_1 x6_2).f0.f0, (rd_T44 x3_1 x6_2).f0.f1, (rd_T44 x3_1 x6_2).f0.f2⟩ : S42), (rd_T44 x3_1 x6_2).f1⟩ : S44) [.int .i64 ((rd_T44 x3_1 x6_2).f0.f0), .slice A516_1 ((rd_T44 x3_1 x6_2).f0.f1).length c516_1, .slice A516_2 ((rd_T44 x3_1 x6_2).f0.f2).length c516_2, .int .u64 ((rd_T44 x3_1 x6_2).f1)] (fun k_ => (P0_ k_ ∨ w.heap.size ≤ k_) ∧ some k_ ≠ (.slice (some ad516) x3_1.length co13 : Value).ownBlock) (fun k_ => ((fun k_ => (P0_ k_ ∨ w.heap.size ≤ k_) ∧ some k_ ≠ (.slice (some ad516) x3_1.length co13 : Value).ownBlock)) k_ ∧ some k_ ≠ (u5 : Value).ownBlock) rfl rfl ?aP (fun _ hk => hk) ?aF ?aO ?aB ?aS ?aL ?_; (case aP => exact (k44_mkF _ _ (⟨(⟨(rd_T44 x3_1 x6_2).f0.f0, (rd_T44 x3_1 x6_2).f0.f1, (rd_T44 x3_1 x6_2).f0.f2⟩ : S42), (rd_T44 x3_1 x6_2).f1⟩ : S44) (Kd.V_reads' (Kd.V_mono (ok' := (fun k_ => ((fun k_ => (P0_ k_ ∨ w.heap.size ≤ k_) ∧ some k_ ≠ (.slice (some ad516) x3_1.length co13 : Value).ownBlock)) k_ ∧ some k_ ≠ (u5 : Value).ownBlock)) (HL517_1.out) (fun k_ hk => ⟨⟨hk.1.1, hk.2⟩, hk.1.2⟩))).2.1 (Kd.V_F (Kd.V_mono (ok' := (fun k_ => ((fun k_ => (P0_ k_ ∨ w.heap.size ≤ k_) ∧ some k_ ≠ (.slice (some ad516) x3_1.length co13 : Value).ownBlock)) k_ ∧ some k_ ≠ (u5 : Value).ownBlock)) (HL517_1.out) (fun k_ hk => ⟨⟨hk.1.1, hk.2⟩, hk.1.2⟩))) (Kd.V_reads' (Kd.V_mono (ok' := (fun k_ => ((fun k_ => (P0_ k_ ∨ w.heap.size ≤ k_) ∧ some k_ ≠ (.slice (some ad516) x3_1.length co13 : Value).ownBlock)) k_ ∧ some k_ ≠ (u5 : Value).ownBlock)) (HL517_2.out) (fun k_ hk => ⟨⟨hk.1.1, hk.2⟩, hk.1.2⟩))).2.1 (Kd.V_F (Kd.V_mono (ok' := (fun k_ => ((fun k_ => (P0_ k_ ∨ w.heap.size ≤ k_) ∧ some k_ ≠ (.slice (some ad516) x3_1.length co13 : Value).ownBlock)) k_ ∧ some k_ ≠ (u5 : Value).ownBlock)) (HL517_2.out) (fun k_ hk => ⟨⟨hk.1.1, hk.2⟩, hk.1.2⟩))))); (case aB => exact (bw_ HB.out)); (case aF => exact (fun k_ hk => ⟨(.inr (Nat.le_trans (below_size (bw_ HB.out)) hk)), Kd.fresh' (Kd.N_lt (by (with_reducible repeat (first | apply Kd.N_alloc | apply Kd.N_drewN | apply Kd.N_drew)); exact HO_3.out)) k_ hk⟩)); (case aO => exact (by (with_reducible repeat (first | apply Kd.N_alloc | apply Kd.N_drewN | apply Kd.N_drew)); exact HO_5.out)); (case aS => exact (below_size (bw_ HB.out))); (case aL => have := LMc12.out; omega); intro v519 w14 ho hb hg hat; rw [← Ny518.out] at ho; have n0_ := Aside0.mk (Kd.N_afterv (ok := (fun k_ => (P0_ k_ ∨ w.heap.size ≤ k_))) (by (with_reducible repeat (first | apply Kd.N_alloc | apply Kd.N_drewN | apply Kd.N_drew)); exact HO_3.out) hg hat); have n1_ := Aside0.mk (Kd.V_afterv (ok := (fun k_ => (P0_ k_ ∨ w.heap.size ≤ k_) ∧ some k_ ≠ (.slice (some ad516) x3_1.length co13 : Value).ownBlock)) (by (with_reducible repeat (first | apply Kd.V_alloc | apply Kd.V_drewN | apply Kd.V_drew)); exact Kd.V_mono HL516_1.out (fun _ hk => ⟨⟨hk.1.1, hk.2⟩, hk.1.2⟩)) hg hat); have n2_ := Aside0.mk (Kd.V_afterv (ok := (fun k_ => (P0_ k_ ∨ w.heap.size ≤ k_) ∧ some k_ ≠ (.slice (some ad516) x3_1.length co13 : Value).ownBlock)) (by (with_reducible repeat (first | apply Kd.V_alloc | apply Kd.V_drewN | apply Kd.V_drew)); exact Kd.V_mono HL516_2.out (fun _ hk => ⟨⟨hk.1.1, hk.2⟩, hk.1.2⟩)) hg hat); have n3_ := Aside0.mk (Kd.V_afterv (ok := (fun k_ => (P0_ k_ ∨ w.heap.size ≤ k_) ∧ some k_ ≠ (.slice (some ad516) x3_1.length co13 : Value).ownBlock)) (by (with_reducible repeat (first | apply Kd.V_alloc | apply Kd.V_drewN | apply Kd.V_drew)); exact Kd.V_mono HL517_1.out (fun _ hk => ⟨⟨hk.1.1, hk.2⟩, hk.1.2⟩)) hg hat); have n4_ := Aside0.mk (Kd.V_afterv (ok := (fun k_ => (P0_ k_ ∨ w.heap.size ≤ k_) ∧ some k_ ≠ (.slice (some ad516) x3_1.length co13 : Value).ownBlock)) (by (with_reducible repeat (first | apply Kd.V_alloc | apply Kd.V_drewN | apply Kd.V_drew)); exact Kd.V_mono HL517_2.out (fun _ hk => ⟨⟨hk.1.1, hk.2⟩, hk.1.2⟩)) hg hat); have n5_ := Aside0.mk (hb); have n6_ := Aside0.mk (ho); clear HO_3 HL516_1 HL516_2 HL517_1 HL517_2 HB HO_5; have HO_3 := n0_; have HL516_1 := n1_; have HL516_2 := n2_; have HL517_1 := n3_; have HL517_2 := n4_; have HB := n5_; have HO520 := n6_; clear n0_ n1_ n2_ n3_ n4_ n5_ n6_; clear ho hb hg hat))
          go_roundg k2
          case measure => have := HK1.out; have := HK2.out; omega
          case rel => exact ⟨(y518), (wrap64 (x6_2 + 1)), (by first | rfl | (simp; done) | (simp [*]; done)), H', ⟨by have := HK1.out; have := HK2.out; omega⟩, ⟨by (with_reducible repeat (first | apply Kd.N_alloc | apply Kd.N_drewN | apply Kd.N_drew)); exact HO_3.out⟩, ⟨by (with_reducible repeat (first | apply Kd.N_alloc | apply Kd.N_drewN | apply Kd.N_drew)); exact HO520.out⟩, ⟨by repeat (first | (with_reducible first | exact HB.out | apply below_alloc | apply pw_below_drewN | apply below_drew1) | exact HB.out)⟩⟩
         ·rw [if_neg c12] at H
          exact absurd H (by simp)
       ·rw [if_neg c9] at H
        exact absurd H (by simp)
      ·rw [if_neg c8] at H
       have c8b0 : decide (x6_2 < (x3_1.length : Int)) = false := decide_eq_false c8
       clear c8
       obtain rfl := Option.some.inj H
       obtain ⟨Ao15, co15, eo15⟩ := Kd.N_slice HO_3.out
       subst eo15
       go_wp2
       go_ret
       exact ⟨_, by first | rfl | (simp [errW_none, errW_some] <;> rfl) | (simp [*, errW_none, errW_some] <;> rfl), by (with_reducible repeat (first | apply Kd.N_alloc | apply Kd.N_drewN | apply Kd.N_drew)); exact Kd.N_mono HO_5.out (fun _ hk => hk.1), by repeat (first | (with_reducible first | exact HB.out | apply below_alloc | apply pw_below_drewN | apply below_drew1) | exact HB.out)⟩
end Go.Proofs.Ytmjhgeinhhhodaa.P
end

section
namespace Go.Proofs.Ytmjhgeinhhhodaa.P
set_option linter.unusedVariables false
set_option linter.unusedSimpArgs false
open Go.RowKit Go.Proofs.YtmjhgeinhhhodaaW.PrintWords Go.Proofs.YtmjhgeinhhhodaaW.PrintLast Go.Proofs.YtmjhgeinhhhodaaW.PrintMore Go.Proofs.Ytmjhgeinhhhodaa.Lib
def wrongB (d m k c : Int) : Bool := if k < 1 ∨ 5 < k then true else if k = 1 then false else decide (c < 0 ∨ (if k = 5 then d else m) ≤ c)
set_option maxRecDepth 100000 in
set_option maxHeartbeats 400000 in
theorem wrong_out (d m k c : Int) (g : Nat) (w : World) (HC : Knows k c #[.bool false, .nilFunc, .nilFunc, .nilFunc] false) (hs : w.heap[g]? = some (.cells #[.int .i64 d, .int .i64 m] 27 (0, 0))) :
    Calls Try.prog 33 #[.agg #[.int .i64 k, .int .i64 c], .pointer (some ⟨g, 0, none⟩)] w fun e w' => e = .returned (.bool true) ∧ Below w.heap.size w w' := by
  have HSc := Aside0.mk hs
  clear hs
  go_enter Try.func33, Try.ntmps33
  go_wp2_with (first
    | (((with_reducible refine gate_dst (N := 2) rfl ?_); refine box_event ?hg (N := 2) ?hd (cs := #[.int .i64 k, .int .i64 c]) (t := 23) ?hr ?_; (case hd => rfl); (case hg => rfl); (case hr => first | (go_simp; done) | (go_simp; rfl)); intro g1 hg w1 hbox hb; have GE1 := Aside0.mk (Nat.le_of_eq hg.symm); have BK1 := Aside0.mk hbox; have HX1 := Aside0.mk hb; clear hg hbox hb); have BKs := Aside0.mk (blk_below HSc.out HX1.out); (have hg1_0 : w1.cell? ⟨g1, 0, none⟩ = some (.int .i64 k) := (blk_cell BK1.out 0).trans rfl; have hfg1_0 := blk_frozen BK1.out 0; have hg1_1 : w1.cell? ⟨g1, 1, none⟩ = some (.int .i64 c) := (blk_cell BK1.out 1).trans rfl; have hfg1_1 := blk_frozen BK1.out 1))
    | (go_at_call 27; refine (HC _).mono ?_; rintro e w3 ⟨rfl, hb3⟩; have BK1b := Aside0.mk (blk_below BK1.out hb3); have BKt := Aside0.mk (blk_below BKs.out hb3); have HB3 := Aside0.mk (below_then HX1.out HX1.out.size hb3); clear hb3; clear hg1_0 hfg1_0 hg1_1 hfg1_1)
    | (((with_reducible refine gate_dst (N := 4) rfl ?_); refine box_event ?hg (N := 4) ?hd (cs := #[.bool false, .nilFunc, .nilFunc, .nilFunc]) (t := 61) ?hr ?_; (case hd => rfl); (case hg => rfl); (case hr => first | (go_simp; done) | (go_simp; rfl)); intro g4 hg w4 hbox hb; have GE4 := Aside0.mk (Nat.le_of_eq hg.symm); have BK4 := Aside0.mk hbox; have HX4 := Aside0.mk hb; clear hg hbox hb); have BK1c := Aside0.mk (blk_below BK1b.out HX4.out); have BKu := Aside0.mk (blk_below BKt.out HX4.out); have HB4 := Aside0.mk (below_then HB3.out HB3.out.size HX4.out); have HG4 := Aside0.mk (Nat.le_trans HB3.out.size GE4.out); (have hg4_0 : w4.cell? ⟨g4, 0, none⟩ = some (.bool false) := (blk_cell BK4.out 0).trans rfl; have hfg4_0 := blk_frozen BK4.out 0; have hg4_1 : w4.cell? ⟨g4, 1, none⟩ = some (.nilFunc) := (blk_cell BK4.out 1).trans rfl; have hfg4_1 := blk_frozen BK4.out 1; have hg4_2 : w4.cell? ⟨g4, 2, none⟩ = some (.nilFunc) := (blk_cell BK4.out 2).trans rfl; have hfg4_2 := blk_frozen BK4.out 2; have hg4_3 : w4.cell? ⟨g4, 3, none⟩ = some (.nilFunc) := (blk_cell BK4.out 3).trans rfl; have hfg4_3 := blk_frozen BK4.out 3); (have hg1_0 : w4.cell? ⟨g1, 0, none⟩ = some (.int .i64 k) := (blk_cell BK1c.out 0).trans rfl; have hfg1_0 := blk_frozen BK1c.out 0; have hg1_1 : w4.cell? ⟨g1, 1, none⟩ = some (.int .i64 c) := (blk_cell BK1c.out 1).trans rfl; have hfg1_1 := blk_frozen BK1c.out 1); (have hg_0 : w4.cell? ⟨g, 0, none⟩ = some (.int .i64 d) := (blk_cell BKu.out 0).trans rfl; have hfg_0 := blk_frozen BKu.out 0; have hg_1 : w4.cell? ⟨g, 1, none⟩ = some (.int .i64 m) := (blk_cell BKu.out 1).trans rfl; have hfg_1 := blk_frozen BKu.out 1); have hn14 : g1 ≠ g4 := (by have := blk_lt BK1b.out; have := GE4.out; omega); have hng4 : g ≠ g4 := (by have := blk_lt BKt.out; have := GE4.out; omega))
    | fail)
  go_ret
  exact ⟨rfl, (below_set (below_set (below_set (below_set HB4.out HG4.out) HG4.out) HG4.out) HG4.out)⟩
set_option maxRecDepth 100000 in
set_option maxHeartbeats 400000 in
theorem wrong_in (d m k c : Int) (g : Nat) (w : World) (b : Bool) (kb kc kd : Value) (HC : Knows k c #[.bool b, kb, kc, kd] true) (h2 : kb.oneCell' = true) (h3 : kc.oneCell' = true) (h4 : kd.oneCell' = true)
    (hs : w.heap[g]? = some (.cells #[.int .i64 d, .int .i64 m] 27 (0, 0))) (r : Bool) (hr : (if k = 1 then false else decide (c < 0 ∨ (if b then d else m) ≤ c)) = r) :
    Calls Try.prog 33 #[.agg #[.int .i64 k, .int .i64 c], .pointer (some ⟨g, 0, none⟩)] w fun e w' => e = .returned (.bool r) ∧ Below w.heap.size w w' := by
  have HSc := Aside0.mk hs
  have sb := store_fact h2
  have sc := store_fact h3
  have sd := store_fact h4
  clear h2 h3 h4 hs
  by_cases hk : k = 1
  · rw [if_pos hk] at hr
    subst hr
    have e1 : (k != 1) = false := by rw [hk]; rfl
    clear hk
    cases b
    all_goals
      go_enter Try.func33, Try.ntmps33
      go_wp2_with (first
    | (((with_reducible refine gate_dst (N := 2) rfl ?_); refine box_event ?hg (N := 2) ?hd (cs := #[.int .i64 k, .int .i64 c]) (t := 23) ?hr ?_; (case hd => rfl); (case hg => rfl); (case hr => first | (go_simp; done) | (go_simp; rfl)); intro g1 hg w1 hbox hb; have GE1 := Aside0.mk (Nat.le_of_eq hg.symm); have BK1 := Aside0.mk hbox; have HX1 := Aside0.mk hb; clear hg hbox hb); have BKs := Aside0.mk (blk_below HSc.out HX1.out); (have hg1_0 : w1.cell? ⟨g1, 0, none⟩ = some (.int .i64 k) := (blk_cell BK1.out 0).trans rfl; have hfg1_0 := blk_frozen BK1.out 0; have hg1_1 : w1.cell? ⟨g1, 1, none⟩ = some (.int .i64 c) := (blk_cell BK1.out 1).trans rfl; have hfg1_1 := blk_frozen BK1.out 1))
    | (go_at_call 27; refine (HC _).mono ?_; rintro e w3 ⟨rfl, hb3⟩; have BK1b := Aside0.mk (blk_below BK1.out hb3); have BKt := Aside0.mk (blk_below BKs.out hb3); have HB3 := Aside0.mk (below_then HX1.out HX1.out.size hb3); clear hb3; clear hg1_0 hfg1_0 hg1_1 hfg1_1)
    | (((with_reducible refine gate_dst (N := 4) rfl ?_); refine box_event ?hg (N := 4) ?hd (cs := #[.bool false, .nilFunc, .nilFunc, .nilFunc]) (t := 61) ?hr ?_; (case hd => rfl); (case hg => rfl); (case hr => first | (go_simp; done) | (go_simp; rfl)); intro g4 hg w4 hbox hb; have GE4 := Aside0.mk (Nat.le_of_eq hg.symm); have BK4 := Aside0.mk hbox; have HX4 := Aside0.mk hb; clear hg hbox hb); have BK1c := Aside0.mk (blk_below BK1b.out HX4.out); have BKu := Aside0.mk (blk_below BKt.out HX4.out); have HB4 := Aside0.mk (below_then HB3.out HB3.out.size HX4.out); have HG4 := Aside0.mk (Nat.le_trans HB3.out.size GE4.out); (have hg4_0 : w4.cell? ⟨g4, 0, none⟩ = some (.bool false) := (blk_cell BK4.out 0).trans rfl; have hfg4_0 := blk_frozen BK4.out 0; have hg4_1 : w4.cell? ⟨g4, 1, none⟩ = some (.nilFunc) := (blk_cell BK4.out 1).trans rfl; have hfg4_1 := blk_frozen BK4.out 1; have hg4_2 : w4.cell? ⟨g4, 2, none⟩ = some (.nilFunc) := (blk_cell BK4.out 2).trans rfl; have hfg4_2 := blk_frozen BK4.out 2; have hg4_3 : w4.cell? ⟨g4, 3, none⟩ = some (.nilFunc) := (blk_cell BK4.out 3).trans rfl; have hfg4_3 := blk_frozen BK4.out 3); (have hg1_0 : w4.cell? ⟨g1, 0, none⟩ = some (.int .i64 k) := (blk_cell BK1c.out 0).trans rfl; have hfg1_0 := blk_frozen BK1c.out 0; have hg1_1 : w4.cell? ⟨g1, 1, none⟩ = some (.int .i64 c) := (blk_cell BK1c.out 1).trans rfl; have hfg1_1 := blk_frozen BK1c.out 1); (have hg_0 : w4.cell? ⟨g, 0, none⟩ = some (.int .i64 d) := (blk_cell BKu.out 0).trans rfl; have hfg_0 := blk_frozen BKu.out 0; have hg_1 : w4.cell? ⟨g, 1, none⟩ = some (.int .i64 m) := (blk_cell BKu.out 1).trans rfl; have hfg_1 := blk_frozen BKu.out 1); have hn14 : g1 ≠ g4 := (by have := blk_lt BK1b.out; have := GE4.out; omega); have hng4 : g ≠ g4 := (by have := blk_lt BKt.out; have := GE4.out; omega))
    | fail)
      go_ret
      exact ⟨rfl, (below_set (below_set (below_set (below_set HB4.out HG4.out) HG4.out) HG4.out) HG4.out)⟩
  · rw [if_neg hk] at hr
    have e1 : (k != 1) = true := bne_iff_ne.2 hk
    clear hk
    by_cases hc : c < 0
    · rw [decide_eq_true (.inl hc)] at hr
      subst hr
      have e2 : decide (c < 0) = true := decide_eq_true hc
      clear hc
      cases b
      all_goals
        go_enter Try.func33, Try.ntmps33
        go_wp2_with (first
    | (((with_reducible refine gate_dst (N := 2) rfl ?_); refine box_event ?hg (N := 2) ?hd (cs := #[.int .i64 k, .int .i64 c]) (t := 23) ?hr ?_; (case hd => rfl); (case hg => rfl); (case hr => first | (go_simp; done) | (go_simp; rfl)); intro g1 hg w1 hbox hb; have GE1 := Aside0.mk (Nat.le_of_eq hg.symm); have BK1 := Aside0.mk hbox; have HX1 := Aside0.mk hb; clear hg hbox hb); have BKs := Aside0.mk (blk_below HSc.out HX1.out); (have hg1_0 : w1.cell? ⟨g1, 0, none⟩ = some (.int .i64 k) := (blk_cell BK1.out 0).trans rfl; have hfg1_0 := blk_frozen BK1.out 0; have hg1_1 : w1.cell? ⟨g1, 1, none⟩ = some (.int .i64 c) := (blk_cell BK1.out 1).trans rfl; have hfg1_1 := blk_frozen BK1.out 1))
    | (go_at_call 27; refine (HC _).mono ?_; rintro e w3 ⟨rfl, hb3⟩; have BK1b := Aside0.mk (blk_below BK1.out hb3); have BKt := Aside0.mk (blk_below BKs.out hb3); have HB3 := Aside0.mk (below_then HX1.out HX1.out.size hb3); clear hb3; clear hg1_0 hfg1_0 hg1_1 hfg1_1)
    | (((with_reducible refine gate_dst (N := 4) rfl ?_); refine box_event ?hg (N := 4) ?hd (cs := #[.bool false, .nilFunc, .nilFunc, .nilFunc]) (t := 61) ?hr ?_; (case hd => rfl); (case hg => rfl); (case hr => first | (go_simp; done) | (go_simp; rfl)); intro g4 hg w4 hbox hb; have GE4 := Aside0.mk (Nat.le_of_eq hg.symm); have BK4 := Aside0.mk hbox; have HX4 := Aside0.mk hb; clear hg hbox hb); have BK1c := Aside0.mk (blk_below BK1b.out HX4.out); have BKu := Aside0.mk (blk_below BKt.out HX4.out); have HB4 := Aside0.mk (below_then HB3.out HB3.out.size HX4.out); have HG4 := Aside0.mk (Nat.le_trans HB3.out.size GE4.out); (have hg4_0 : w4.cell? ⟨g4, 0, none⟩ = some (.bool false) := (blk_cell BK4.out 0).trans rfl; have hfg4_0 := blk_frozen BK4.out 0; have hg4_1 : w4.cell? ⟨g4, 1, none⟩ = some (.nilFunc) := (blk_cell BK4.out 1).trans rfl; have hfg4_1 := blk_frozen BK4.out 1; have hg4_2 : w4.cell? ⟨g4, 2, none⟩ = some (.nilFunc) := (blk_cell BK4.out 2).trans rfl; have hfg4_2 := blk_frozen BK4.out 2; have hg4_3 : w4.cell? ⟨g4, 3, none⟩ = some (.nilFunc) := (blk_cell BK4.out 3).trans rfl; have hfg4_3 := blk_frozen BK4.out 3); (have hg1_0 : w4.cell? ⟨g1, 0, none⟩ = some (.int .i64 k) := (blk_cell BK1c.out 0).trans rfl; have hfg1_0 := blk_frozen BK1c.out 0; have hg1_1 : w4.cell? ⟨g1, 1, none⟩ = some (.int .i64 c) := (blk_cell BK1c.out 1).trans rfl; have hfg1_1 := blk_frozen BK1c.out 1); (have hg_0 : w4.cell? ⟨g, 0, none⟩ = some (.int .i64 d) := (blk_cell BKu.out 0).trans rfl; have hfg_0 := blk_frozen BKu.out 0; have hg_1 : w4.cell? ⟨g, 1, none⟩ = some (.int .i64 m) := (blk_cell BKu.out 1).trans rfl; have hfg_1 := blk_frozen BKu.out 1); have hn14 : g1 ≠ g4 := (by have := blk_lt BK1b.out; have := GE4.out; omega); have hng4 : g ≠ g4 := (by have := blk_lt BKt.out; have := GE4.out; omega))
    | fail)
        go_ret
        exact ⟨rfl, (below_set (below_set (below_set (below_set HB4.out HG4.out) HG4.out) HG4.out) HG4.out)⟩
    · have e2 : decide (c < 0) = false := decide_eq_false hc
      cases b
      · simp only [Bool.false_eq_true, if_false] at hr
        have e3 : decide (m ≤ c) = r := by rw [← hr, Bool.eq_iff_iff, decide_eq_true_iff, decide_eq_true_iff]; omega
        clear hr hc
        cases r
        all_goals
          go_enter Try.func33, Try.ntmps33
          go_wp2_with (first
    | (((with_reducible refine gate_dst (N := 2) rfl ?_); refine box_event ?hg (N := 2) ?hd (cs := #[.int .i64 k, .int .i64 c]) (t := 23) ?hr ?_; (case hd => rfl); (case hg => rfl); (case hr => first | (go_simp; done) | (go_simp; rfl)); intro g1 hg w1 hbox hb; have GE1 := Aside0.mk (Nat.le_of_eq hg.symm); have BK1 := Aside0.mk hbox; have HX1 := Aside0.mk hb; clear hg hbox hb); have BKs := Aside0.mk (blk_below HSc.out HX1.out); (have hg1_0 : w1.cell? ⟨g1, 0, none⟩ = some (.int .i64 k) := (blk_cell BK1.out 0).trans rfl; have hfg1_0 := blk_frozen BK1.out 0; have hg1_1 : w1.cell? ⟨g1, 1, none⟩ = some (.int .i64 c) := (blk_cell BK1.out 1).trans rfl; have hfg1_1 := blk_frozen BK1.out 1))
    | (go_at_call 27; refine (HC _).mono ?_; rintro e w3 ⟨rfl, hb3⟩; have BK1b := Aside0.mk (blk_below BK1.out hb3); have BKt := Aside0.mk (blk_below BKs.out hb3); have HB3 := Aside0.mk (below_then HX1.out HX1.out.size hb3); clear hb3; clear hg1_0 hfg1_0 hg1_1 hfg1_1)
    | (((with_reducible refine gate_dst (N := 4) rfl ?_); refine box_event ?hg (N := 4) ?hd (cs := #[.bool false, .nilFunc, .nilFunc, .nilFunc]) (t := 61) ?hr ?_; (case hd => rfl); (case hg => rfl); (case hr => first | (go_simp; done) | (go_simp; rfl)); intro g4 hg w4 hbox hb; have GE4 := Aside0.mk (Nat.le_of_eq hg.symm); have BK4 := Aside0.mk hbox; have HX4 := Aside0.mk hb; clear hg hbox hb); have BK1c := Aside0.mk (blk_below BK1b.out HX4.out); have BKu := Aside0.mk (blk_below BKt.out HX4.out); have HB4 := Aside0.mk (below_then HB3.out HB3.out.size HX4.out); have HG4 := Aside0.mk (Nat.le_trans HB3.out.size GE4.out); (have hg4_0 : w4.cell? ⟨g4, 0, none⟩ = some (.bool false) := (blk_cell BK4.out 0).trans rfl; have hfg4_0 := blk_frozen BK4.out 0; have hg4_1 : w4.cell? ⟨g4, 1, none⟩ = some (.nilFunc) := (blk_cell BK4.out 1).trans rfl; have hfg4_1 := blk_frozen BK4.out 1; have hg4_2 : w4.cell? ⟨g4, 2, none⟩ = some (.nilFunc) := (blk_cell BK4.out 2).trans rfl; have hfg4_2 := blk_frozen BK4.out 2; have hg4_3 : w4.cell? ⟨g4, 3, none⟩ = some (.nilFunc) := (blk_cell BK4.out 3).trans rfl; have hfg4_3 := blk_frozen BK4.out 3); (have hg1_0 : w4.cell? ⟨g1, 0, none⟩ = some (.int .i64 k) := (blk_cell BK1c.out 0).trans rfl; have hfg1_0 := blk_frozen BK1c.out 0; have hg1_1 : w4.cell? ⟨g1, 1, none⟩ = some (.int .i64 c) := (blk_cell BK1c.out 1).trans rfl; have hfg1_1 := blk_frozen BK1c.out 1); (have hg_0 : w4.cell? ⟨g, 0, none⟩ = some (.int .i64 d) := (blk_cell BKu.out 0).trans rfl; have hfg_0 := blk_frozen BKu.out 0; have hg_1 : w4.cell? ⟨g, 1, none⟩ = some (.int .i64 m) := (blk_cell BKu.out 1).trans rfl; have hfg_1 := blk_frozen BKu.out 1); have hn14 : g1 ≠ g4 := (by have := blk_lt BK1b.out; have := GE4.out; omega); have hng4 : g ≠ g4 := (by have := blk_lt BKt.out; have := GE4.out; omega))
    | fail)
          go_ret
          exact ⟨rfl, (below_set (below_set (below_set (below_set HB4.out HG4.out) HG4.out) HG4.out) HG4.out)⟩
      · simp only [if_true] at hr
        have e3 : decide (d ≤ c) = r := by rw [← hr, Bool.eq_iff_iff, decide_eq_true_iff, decide_eq_true_iff]; omega
        clear hr hc
        cases r
        all_goals
          go_enter Try.func33, Try.ntmps33
          go_wp2_with (first
    | (((with_reducible refine gate_dst (N := 2) rfl ?_); refine box_event ?hg (N := 2) ?hd (cs := #[.int .i64 k, .int .i64 c]) (t := 23) ?hr ?_; (case hd => rfl); (case hg => rfl); (case hr => first | (go_simp; done) | (go_simp; rfl)); intro g1 hg w1 hbox hb; have GE1 := Aside0.mk (Nat.le_of_eq hg.symm); have BK1 := Aside0.mk hbox; have HX1 := Aside0.mk hb; clear hg hbox hb); have BKs := Aside0.mk (blk_below HSc.out HX1.out); (have hg1_0 : w1.cell? ⟨g1, 0, none⟩ = some (.int .i64 k) := (blk_cell BK1.out 0).trans rfl; have hfg1_0 := blk_frozen BK1.out 0; have hg1_1 : w1.cell? ⟨g1, 1, none⟩ = some (.int .i64 c) := (blk_cell BK1.out 1).trans rfl; have hfg1_1 := blk_frozen BK1.out 1))
    | (go_at_call 27; refine (HC _).mono ?_; rintro e w3 ⟨rfl, hb3⟩; have BK1b := Aside0.mk (blk_below BK1.out hb3); have BKt := Aside0.mk (blk_below BKs.out hb3); have HB3 := Aside0.mk (below_then HX1.out HX1.out.size hb3); clear hb3; clear hg1_0 hfg1_0 hg1_1 hfg1_1)
    | (((with_reducible refine gate_dst (N := 4) rfl ?_); refine box_event ?hg (N := 4) ?hd (cs := #[.bool false, .nilFunc, .nilFunc, .nilFunc]) (t := 61) ?hr ?_; (case hd => rfl); (case hg => rfl); (case hr => first | (go_simp; done) | (go_simp; rfl)); intro g4 hg w4 hbox hb; have GE4 := Aside0.mk (Nat.le_of_eq hg.symm); have BK4 := Aside0.mk hbox; have HX4 := Aside0.mk hb; clear hg hbox hb); have BK1c := Aside0.mk (blk_below BK1b.out HX4.out); have BKu := Aside0.mk (blk_below BKt.out HX4.out); have HB4 := Aside0.mk (below_then HB3.out HB3.out.size HX4.out); have HG4 := Aside0.mk (Nat.le_trans HB3.out.size GE4.out); (have hg4_0 : w4.cell? ⟨g4, 0, none⟩ = some (.bool false) := (blk_cell BK4.out 0).trans rfl; have hfg4_0 := blk_frozen BK4.out 0; have hg4_1 : w4.cell? ⟨g4, 1, none⟩ = some (.nilFunc) := (blk_cell BK4.out 1).trans rfl; have hfg4_1 := blk_frozen BK4.out 1; have hg4_2 : w4.cell? ⟨g4, 2, none⟩ = some (.nilFunc) := (blk_cell BK4.out 2).trans rfl; have hfg4_2 := blk_frozen BK4.out 2; have hg4_3 : w4.cell? ⟨g4, 3, none⟩ = some (.nilFunc) := (blk_cell BK4.out 3).trans rfl; have hfg4_3 := blk_frozen BK4.out 3); (have hg1_0 : w4.cell? ⟨g1, 0, none⟩ = some (.int .i64 k) := (blk_cell BK1c.out 0).trans rfl; have hfg1_0 := blk_frozen BK1c.out 0; have hg1_1 : w4.cell? ⟨g1, 1, none⟩ = some (.int .i64 c) := (blk_cell BK1c.out 1).trans rfl; have hfg1_1 := blk_frozen BK1c.out 1); (have hg_0 : w4.cell? ⟨g, 0, none⟩ = some (.int .i64 d) := (blk_cell BKu.out 0).trans rfl; have hfg_0 := blk_frozen BKu.out 0; have hg_1 : w4.cell? ⟨g, 1, none⟩ = some (.int .i64 m) := (blk_cell BKu.out 1).trans rfl; have hfg_1 := blk_frozen BKu.out 1); have hn14 : g1 ≠ g4 := (by have := blk_lt BK1b.out; have := GE4.out; omega); have hng4 : g ≠ g4 := (by have := blk_lt BKt.out; have := GE4.out; omega))
    | fail)
          go_ret
          exact ⟨rfl, (below_set (below_set (below_set (below_set HB4.out HG4.out) HG4.out) HG4.out) HG4.out)⟩
theorem wrong_calls (d m k c : Int) (g : Nat) (w : World) (hs : w.heap[g]? = some (.cells #[.int .i64 d, .int .i64 m] 27 (0, 0))) :
    Calls Try.prog 33 #[.agg #[.int .i64 k, .int .i64 c], .pointer (some ⟨g, 0, none⟩)] w fun e w' => e = .returned (.bool (wrongB d m k c)) ∧ Below w.heap.size w w' := by
  unfold wrongB
  by_cases ho : k < 1 ∨ 5 < k
  · rw [if_pos ho]
    exact wrong_out d m k c g w (knows_out ho) hs
  · rw [if_neg ho]
    have hk : k = 1 ∨ k = 2 ∨ k = 3 ∨ k = 4 ∨ k = 5 := by omega
    rcases hk with rfl | rfl | rfl | rfl | rfl
    · exact wrong_in d m 1 c g w false _ _ _ (knows_in (by omega) (by omega) rfl) rfl rfl rfl hs _ rfl
    · exact wrong_in d m 2 c g w false _ _ _ (knows_in (by omega) (by omega) rfl) rfl rfl rfl hs _ rfl
    · exact wrong_in d m 3 c g w false _ _ _ (knows_in (by omega) (by omega) rfl) rfl rfl rfl hs _ rfl
    · exact wrong_in d m 4 c g w false _ _ _ (knows_in (by omega) (by omega) rfl) rfl rfl rfl hs _ rfl
    · exact wrong_in d m 5 c g w true _ _ _ (knows_in (by omega) (by omega) rfl) rfl rfl rfl hs _ rfl
def anyWrong (d m : Int) (l : List S23) : Bool := l.any fun a => wrongB d m a.f0 a.f1
theorem anyWrong_take (d m : Int) (l : List S23) (k : Nat) (h : k < l.length) : anyWrong d m (l.take (k + 1)) = (anyWrong d m (l.take k) || wrongB d m (rd_T23 l k).f0 (rd_T23 l k).f1) := by
  unfold anyWrong rd_T23
  rw [List.take_succ_eq_append_getElem h, List.any_append, Int.toNat_natCast, List.getD_eq_getElem?_getD, List.getElem?_eq_getElem h]
  simp
set_option maxRecDepth 100000 in
set_option maxHeartbeats 3200000 in
theorem index_wrong (d m : Int) (l : List S23) (A : Option Addr) (c g : Nat) (w : World) (hC : Kd.C k23 w A l.length l) (hs : w.heap[g]? = some (.cells #[.int .i64 d, .int .i64 m] 27 (0, 0))) :
    Calls Try.prog 44 #[.slice A l.length c, .func (.func 33) #[] #[.pointer (some ⟨g, 0, none⟩)]] w fun e w' => (∃ k : Int, e = .returned (.int .i64 k) ∧ decide (0 ≤ k) = anyWrong d m l) ∧ Below w.heap.size w w' := by
  have HC := Aside0.mk hC
  have HS := Aside0.mk hs
  have hn := hC.2.1
  clear hC hs
  go_enter Try.func44, Try.ntmps44
  go_wp2_with fail
  go_loopw [8] (fun kv w' => ∃ k : Nat, k ≤ l.length ∧ kv = .int .i64 k ∧ Aside0 (anyWrong d m (l.take k) = false) ∧ Aside0 (Below w.heap.size w w')) (fun kv _ => l.length - (intOf kv).toNat)
  case atStart => exact ⟨0, Nat.zero_le _, rfl, ⟨by simp [anyWrong]⟩, ⟨Below.refl _ _⟩⟩
  case round =>
    obtain ⟨k, hk, rfl, HT, HB⟩ := hrel
    by_cases hlt : k < l.length
    · obtain ⟨ad, e, h0, h1⟩ := at_T23 (Kd.C_below HC.out HB.out) (k : Int) (by omega) (by omega)
      subst e
      have HStep := Aside0.mk (anyWrong_take d m l k hlt)
      have hbk := Aside0.mk (blk_below HS.out HB.out)
      rw [Int.toNat_natCast] at h0 h1
      have hki : (k : Int) < (l.length : Int) := by omega
      have HAll := Aside0.mk (show anyWrong d m (l.take (k + 1)) = true → anyWrong d m l = true by
        unfold anyWrong
        intro h
        rw [List.any_eq_true] at h ⊢
        obtain ⟨x, hx, h⟩ := h
        exact ⟨x, List.mem_of_mem_take hx, h⟩)
      go_wp2_with fail
      refine (wrong_calls d m _ _ g _ hbk.out).mono ?_
      rintro e w1 ⟨rfl, hb1⟩
      have HB1 := Aside0.mk (below_then HB.out HB.out.size hb1)
      clear hb1 h0 h1
      have HS2 := Aside0.mk (show anyWrong d m (l.take (k + 1)) = wrongB d m (rd_T23 l k).f0 (rd_T23 l k).f1 by rw [HStep.out, HT.out]; rfl)
      obtain ⟨b, hb⟩ : ∃ b, wrongB d m (rd_T23 l k).f0 (rd_T23 l k).f1 = b := ⟨_, rfl⟩
      rw [hb] at HS2 ⊢
      clear hb
      cases b
      · go_wp2_with fail
        go_roundw
        case rel => exact ⟨k + 1, by omega, by go_num, HS2, HB1⟩
        case measure => simp [intOf]; omega
      · go_wp2_with fail
        go_ret
        exact ⟨⟨(k : Int), rfl, by rw [HAll.out HS2.out]; exact decide_eq_true (by omega)⟩, HB1.out⟩
    · obtain rfl : k = l.length := by omega
      have HE := Aside0.mk (show anyWrong d m l = false by have h := HT.out; rw [List.take_length] at h; exact h)
      go_wp2_with fail
      go_ret
      exact ⟨⟨-1, rfl, by rw [HE.out]; rfl⟩, HB.out⟩
set_option maxRecDepth 100000 in
set_option maxHeartbeats 400000 in
theorem contains_wrong (d m : Int) (l : List S23) (A : Option Addr) (c g : Nat) (w : World) (hC : Kd.C k23 w A l.length l) (hs : w.heap[g]? = some (.cells #[.int .i64 d, .int .i64 m] 27 (0, 0))) :
    Calls Try.prog 34 #[.slice A l.length c, .func (.func 33) #[] #[.pointer (some ⟨g, 0, none⟩)]] w fun e w' => e = .returned (.bool (anyWrong d m l)) ∧ Below w.heap.size w w' := by
  have H := Aside0.mk (index_wrong d m l A c g w hC hs)
  clear hC hs
  go_enter Try.func34, Try.ntmps34
  go_wp2_with fail
  refine H.out.mono ?_
  rintro e w1 ⟨⟨k, rfl, hk⟩, hb⟩
  have HK := Aside0.mk hk
  have HB := Aside0.mk hb
  clear hk hb
  go_wp2_with fail
  go_ret
  exact ⟨by rw [← HK.out]; rfl, HB.out⟩
def agg_Check.f (a0_0 a0_1 : Int) (l1 : List S23) : Option Int := some (if 16 < l1.length then 1 else if anyWrong a0_0 a0_1 l1 then 1 else 0)
set_option maxRecDepth 100000 in
set_option maxHeartbeats 400000 in
theorem agg_Check.calls (a0_0 a0_1 : Int) (A1 : Option Addr) (c1 : Nat) (l1 : List S23) (r : Int) (w : World) (hr1 : Kd.C k23 w A1 l1.length l1) (hc1 : l1.length ≤ c1) (h : agg_Check.f a0_0 a0_1 l1 = some r) :
    Calls Try.prog 21 #[.agg #[.int .i64 a0_0, .int .i64 a0_1], .slice A1 l1.length c1] w fun e w' => e = .returned (.int .i64 r) ∧ Below w.heap.size w w' := by
  unfold agg_Check.f at h
  injection h with h
  have HC := Aside0.mk hr1
  by_cases hbig : 16 < l1.length
  · rw [if_pos hbig] at h
    subst h
    have e1 : decide ((16 : Int) < (l1.length : Int)) = true := decide_eq_true (by omega)
    have e2 : decide (16 < l1.length) = true := decide_eq_true hbig
    clear hbig hr1 hc1
    go_enter Try.func21, Try.ntmps21
    go_wp2_with (first
      | ((with_reducible refine gate_dst (N := 2) rfl ?_); refine box_event ?hg (N := 2) ?hd (cs := #[.int .i64 a0_0, .int .i64 a0_1]) (t := 27) ?hr ?_; (case hd => rfl); (case hg => rfl); (case hr => first | (go_simp; done) | (go_simp; rfl)); intro g1 hg w1 hbox hb; have GE1 := Aside0.mk (Nat.le_of_eq hg.symm); have BK1 := Aside0.mk hbox; have HX1 := Aside0.mk hb; clear hg hbox hb)
      | fail)
    go_ret
    exact ⟨rfl, HX1.out⟩
  · rw [if_neg hbig] at h
    have e1 : decide ((16 : Int) < (l1.length : Int)) = false := decide_eq_false (by omega)
    have e2 : decide (16 < l1.length) = false := decide_eq_false hbig
    have HH := Aside0.mk h
    clear hbig hr1 hc1 h
    go_enter Try.func21, Try.ntmps21
    go_wp2_with (first
      | ((with_reducible refine gate_dst (N := 2) rfl ?_); refine box_event ?hg (N := 2) ?hd (cs := #[.int .i64 a0_0, .int .i64 a0_1]) (t := 27) ?hr ?_; (case hd => rfl); (case hg => rfl); (case hr => first | (go_simp; done) | (go_simp; rfl)); intro g1 hg w1 hbox hb; have GE1 := Aside0.mk (Nat.le_of_eq hg.symm); have BK1 := Aside0.mk hbox; have HX1 := Aside0.mk hb; clear hg hbox hb)
      | fail)
    refine (contains_wrong a0_0 a0_1 l1 A1 c1 g1 _ (Kd.C_below HC.out HX1.out) BK1.out).mono ?_
    rintro e w2 ⟨rfl, hb2⟩
    have HB2 := Aside0.mk (below_then HX1.out HX1.out.size hb2)
    clear hb2
    cases hw : anyWrong a0_0 a0_1 l1
    · rw [hw] at HH
      obtain rfl := HH.out
      clear hw
      go_wp2_with fail
      go_ret
      exact ⟨rfl, HB2.out⟩
    · rw [hw] at HH
      obtain rfl := HH.out
      clear hw
      go_wp2_with fail
      go_ret
      exact ⟨rfl, HB2.out⟩
end Go.Proofs.Ytmjhgeinhhhodaa.P
end

section
namespace Go.Proofs.Ytmjhgeinhhhodaa.Txt
set_option linter.unusedVariables false
theorem rises_same : ∀ {l m : List T}, l.Pairwise (· < ·) → m.Pairwise (· < ·) → (∀ y, y ∈ l ↔ y ∈ m) → l = m
  | [], [], _, _, _ => rfl
  | [], y :: m, _, _, h => absurd ((h y).2 (by simp)) (by simp)
  | x :: l, [], _, _, h => absurd ((h x).1 (by simp)) (by simp)
  | x :: l, y :: m, h1, h2, h => by
    rw [List.pairwise_cons] at h1 h2
    have e : x = y := by
      have a := (h x).1 (by simp)
      have b := (h y).2 (by simp)
      rw [List.mem_cons] at a b
      rcases a with a | a
      · exact a
      · rcases b with b | b
        · exact b.symm
        · exact absurd (lt_trans (h1.1 y b) (h2.1 x a)) (lt_irrefl x)
    subst e
    congr 1
    refine rises_same h1.2 h2.2 (fun z => ?_)
    constructor
    · intro hz
      have := (h z).1 (by simp [hz])
      rw [List.mem_cons] at this
      rcases this with rfl | h3
      · exact absurd (h1.1 z hz) (lt_irrefl z)
      · exact h3
    · intro hz
      have := (h z).2 (by simp [hz])
      rw [List.mem_cons] at this
      rcases this with rfl | h3
      · exact absurd (h2.1 z hz) (lt_irrefl z)
      · exact h3
end Go.Proofs.Ytmjhgeinhhhodaa.Txt
end

section
namespace Go.Proofs.Ytmjhgeinhhhodaa.P
set_option linter.unusedVariables false
set_option linter.unusedSimpArgs false
open Go.RowKit Go.Proofs.YtmjhgeinhhhodaaW.PrintWords Go.Proofs.YtmjhgeinhhhodaaW.PrintLast Go.Proofs.YtmjhgeinhhhodaaW.PrintMore Go.Proofs.Ytmjhgeinhhhodaa.Lib
open Go.Proofs.Ytmjhgeinhhhodaa
theorem below_of_grown {W w1 : World} (hg : W.grownBy w1 none) : Below W.heap.size W w1 := ⟨hg.os, hg.tape, hg.output, hg.size, fun i hi => hg.block i hi (by simp)⟩
section
variable {P : Program} {ops : Array Oper} {o : Oper} {a : Act} {Q : Exit → Act → World → Prop} {Kc : Act → World → Prop} {α : Type}
theorem lit1_step (d : Kd α) (e : Nat) {W : World} (hw : Region.wanted o (yielded ops a.tmps) = true) {N : Tmp} (hd : o.dst = some N) {x : α} {v : Value} (hrun : (execOp a.eval o).run P W = .ok (.value (.slice (some ⟨W.heap.size, 0, none⟩) 1 1)) (W.alloc (.cells [v].toArray e)))
    (hrep : Reps (d.M W W.heap.size (fun _ => True)) d.sz [x] [v])
    (h : ∀ A c w1, Kd.C d w1 A 1 [x] → 1 ≤ c → Below W.heap.size W w1 → Kc (a.put o.dst (.slice A 1 c)) w1) : if Region.wanted o (yielded ops a.tmps) = true then Oper.wp P o a W Kc Q else Kc (a.put o.dst undef) W := by
  refine Kd.R_lit_step d (w0 := W) W.heap.size e hw hd (xs := [x]) (inner := [v]) (ok := fun _ => True) (okp := fun _ => True) hrun hrep (fun _ hk => hk) trivial (Below.refl _ _) (Nat.le_refl _) (by simp) ?_
  intro v1 w1 ho hb hg ha
  obtain ⟨A, c, rfl, hc, hC⟩ := Kd.R_reads ho
  exact h A c w1 hC hc (below_of_grown hg)
theorem lit1_event {rest : List Oper} (d : Kd α) (e : Nat) {W : World} (hgd : o.guard = none) {N : Tmp} (hd : o.dst = some N) {x : α} {v : Value} (hrun : (execOp a.eval o).run P W = .ok (.value (.slice (some ⟨W.heap.size, 0, none⟩) 1 1)) (W.alloc (.cells [v].toArray e)))
    (hrep : Reps (d.M W W.heap.size (fun _ => True)) d.sz [x] [v])
    (h : ∀ A c w1, Kd.C d w1 A 1 [x] → 1 ≤ c → Below W.heap.size W w1 → wpList P ops Q rest (a.put o.dst (.slice A 1 c)) w1) : wpList P ops Q (o :: rest) a W := by
  refine Kd.R_lit d (w0 := W) W.heap.size e hgd hd (xs := [x]) (inner := [v]) (ok := fun _ => True) (okp := fun _ => True) hrun hrep (fun _ hk => hk) trivial (Below.refl _ _) (Nat.le_refl _) (by simp) ?_
  intro v1 w1 ho hb hg ha
  obtain ⟨A, c, rfl, hc, hC⟩ := Kd.R_reads ho
  exact h A c w1 hC hc (below_of_grown hg)
end
theorem built_of_rises {l : List Txt.T} (h : l.Pairwise (· < ·)) : Txt.built l = l := Txt.rises_same (Txt.built_rises l) h (fun y => Txt.built_mem l y)
theorem builtB_nil : builtB [] = [] := by unfold builtB txts strs; rw [List.map_nil, built_of_rises List.Pairwise.nil]; rfl
theorem builtB_one (s : ByteArray) : builtB [s] = [s] := by
  unfold builtB
  rw [built_of_rises (by unfold txts; exact List.pairwise_singleton _ _)]
  exact strs_txts [s]
def strA : ByteArray := ⟨#[97]⟩
def strB : ByteArray := ⟨#[98]⟩
theorem builtB_ba : builtB [strB, strA] = [strA, strB] := by
  unfold builtB
  have h : Txt.built (txts [strB, strA]) = txts [strA, strB] := Txt.rises_same (Txt.built_rises _) (by unfold txts; simp only [List.map_cons, List.map_nil, List.pairwise_cons, List.mem_singleton, List.not_mem_nil, false_implies, implies_true, List.Pairwise.nil, and_true, forall_eq]; decide) (fun y => by
    rw [Txt.built_mem]
    unfold txts
    simp only [List.map_cons, List.map_nil, List.mem_cons, List.not_mem_nil, or_false]
    exact Or.comm)
  rw [h, strs_txts]
theorem w_u (n : Nat) (h : n < 1000) : IntKind.u64.wrap (n : Int) = n := wraps_u64 _ (by omega) (by omega)
theorem w_i (n : Int) (h0 : -1000 < n) (h : n < 1000) : wrap64 n = n := by unfold wrap64; omega
theorem many1 : manyV 2 3 2 = 6 := by
  unfold manyV
  have a : IntKind.u64.wrap 3 = 3 := w_u 3 (by decide)
  have b : IntKind.u64.wrap (3 * 2) = 6 := w_u 6 (by decide)
  rw [if_pos rfl, a, b, w_i _ (by decide) (by decide)]
theorem many2 : manyV 2 (-1) 1 = -1 := by
  unfold manyV
  rw [if_pos rfl]
  simp only [Int.mul_one]
  have h : IntKind.u64.wrap (-1) = 18446744073709551615 := by simp [IntKind.wrap, IntKind.bits, IntKind.signed]
  rw [h, wraps_u64 _ (by decide) (by decide)]
  unfold wrap64
  omega
theorem lt_lim (n : Nat) (h : n < 10) : n < 8796093022208 := by omega
theorem aw1 : agg_Add.f 2 0 0 0 [] 0 [] [3] 2 = some (2, 6, []) := by
  unfold agg_Add.f agg_Merge.f mfin
  rw [show rd [3] 0 = 3 from rfl, many1]
  rw [if_neg (by decide), if_neg (by decide), if_neg (by decide), if_neg (by decide), if_pos (by decide), if_neg (by decide), if_pos rfl, if_neg (by decide), if_pos (lt_lim _ (by decide)), builtB_nil]
theorem aw2 : agg_Add.f 2 0 2 6 [] 0 [] [-1] 1 = some (3, 5, []) := by
  unfold agg_Add.f agg_Merge.f mfin
  rw [show rd [-1] 0 = -1 from rfl, many2]
  rw [if_neg (by decide), if_neg (by decide), if_neg (by decide), if_neg (by decide), if_pos (by decide), if_neg (by decide), if_neg (by decide), if_neg (by decide), if_pos (lt_lim _ (by decide))]
  rw [List.append_nil, builtB_nil, show (2 : Int) + 1 = ((3 : Nat) : Int) from rfl, w_u 3 (by decide)]
  unfold mergeV
  rw [if_pos rfl, w_i _ (by decide) (by decide)]
  rfl
theorem aw3 : agg_Add.f 5 0 0 0 [] 0 [strB] [] 1 = some (1, 0, [strB]) := by
  unfold agg_Add.f agg_Merge.f mfin
  rw [show ([strB] : List ByteArray).getD (0 : Int).toNat ⟨#[]⟩ = strB from rfl]
  rw [if_neg (by decide), if_neg (by decide), if_neg (by decide), if_pos rfl, if_pos (by decide), if_neg (by decide), if_pos rfl, if_neg (by decide), if_pos (lt_lim _ (by decide)), builtB_one]
theorem aw4 : agg_Add.f 5 0 0 0 [] 0 [strA] [] 1 = some (1, 0, [strA]) := by
  unfold agg_Add.f agg_Merge.f mfin
  rw [show ([strA] : List ByteArray).getD (0 : Int).toNat ⟨#[]⟩ = strA from rfl]
  rw [if_neg (by decide), if_neg (by decide), if_neg (by decide), if_pos rfl, if_pos (by decide), if_neg (by decide), if_pos rfl, if_neg (by decide), if_pos (lt_lim _ (by decide)), builtB_one]
theorem aw5 : agg_Merge.f 5 0 1 0 [strB] 1 0 [strA] = some (2, 0, [strA, strB]) := by
  unfold agg_Merge.f mfin
  rw [if_neg (by decide), if_neg (by decide), if_neg (by decide), show [strB] ++ [strA] = [strB, strA] from rfl, if_pos (lt_lim _ (by decide)), builtB_ba, show (1 : Int) + 1 = ((2 : Nat) : Int) from rfl, w_u 2 (by decide)]
  rfl
theorem cells_below {w w' : World} {g : Nat} {cs : Array Value} {t : TypeId} (h : w.heap[g]? = some (.cells cs t (0, 0))) (hb : Below w.heap.size w w') : w'.heap[g]? = some (.cells cs t (0, 0)) := blk_below h hb
abbrev Part (w : World) (r1 r2 : Int) (r3 : List ByteArray) (e : Ending) (w' : World) : Prop := ∃ v2_ : Value, e = .returned (.agg #[.int .u64 r1, .int .i64 r2, v2_]) ∧ Kd.R Kd.string 9 w' w.heap.size (fun _ => True) v2_ r3 ∧ Below w.heap.size w w'
theorem addNum (n1 v1 x n r1 r2 : Int) (r3 : List ByteArray) (A1 A9 : Option Addr) (c1 c9 : Nat) (w : World) (hC : Kd.C (Kd.int .i64) w A9 1 [x]) (hc : 1 ≤ c9) (h : agg_Add.f 2 0 n1 v1 [] 0 [] [x] n = some (r1, r2, r3)) :
    Calls Try.prog 19 #[.agg #[.int .i64 2, .int .i64 0], .agg #[.int .u64 n1, .int .i64 v1, .slice A1 0 c1], .agg #[.int .i64 0, .slice none 0 0, .slice A9 1 c9], .int .u64 n] w (Part w r1 r2 r3) :=
  agg_Add.calls 2 0 n1 v1 A1 c1 [] 0 none 0 [] A9 c9 [x] n r1 r2 r3 w (C_none _ _) (Nat.zero_le _) (C_none _ _) (Nat.zero_le _) hC hc h
theorem addText (s : ByteArray) (n r1 r2 : Int) (r3 : List ByteArray) (A1 A9 : Option Addr) (c1 c9 : Nat) (w : World) (hC : Kd.C Kd.string w A9 1 [s]) (hc : 1 ≤ c9) (h : agg_Add.f 5 0 0 0 [] 0 [s] [] n = some (r1, r2, r3)) :
    Calls Try.prog 19 #[.agg #[.int .i64 5, .int .i64 0], .agg #[.int .u64 0, .int .i64 0, .slice A1 0 c1], .agg #[.int .i64 0, .slice A9 1 c9, .slice none 0 0], .int .u64 n] w (Part w r1 r2 r3) :=
  agg_Add.calls 5 0 0 0 A1 c1 [] 0 A9 c9 [s] none 0 [] n r1 r2 r3 w (C_none _ _) (Nat.zero_le _) hC hc ⟨rfl, by simp, fun h => absurd h (by simp)⟩ (Nat.zero_le _) h
theorem start0 (k j : Int) (w : World) : Calls Try.prog 18 #[.agg #[.int .i64 k, .int .i64 j]] w fun e w' => ∃ A c, e = .returned (.agg #[.int .u64 0, .int .i64 0, .slice A 0 c]) ∧ Below w.heap.size w w' :=
  (agg_Start.calls k j 0 0 [] w rfl).mono fun e w' ⟨v, he, ho, hb⟩ => by
    obtain ⟨A, c, rfl, -, -⟩ := Kd.R_reads ho
    exact ⟨A, c, he, hb⟩
theorem reads1 {w : World} {base : Nat} {v : Value} {x : ByteArray} (h : Kd.R Kd.string 9 w base (fun _ => True) v [x]) : ∃ A c, v = .slice A 1 c ∧ 1 ≤ c ∧ Kd.C Kd.string w A 1 [x] := Kd.R_reads h
theorem reads0 {w : World} {base : Nat} {v : Value} (h : Kd.R Kd.string 9 w base (fun _ => True) v []) : ∃ A c, v = .slice A 0 c := by
  obtain ⟨A, c, e, -⟩ := Kd.R_reads h
  exact ⟨A, c, e⟩
theorem reads1' {w : World} {base : Nat} {A : Option Addr} {c : Nat} {x : ByteArray} (h : Kd.R Kd.string 9 w base (fun _ => True) (.slice A 1 c) [x]) : True ∧ Kd.C Kd.string w A 1 [x] := ⟨trivial, (Kd.R_reads' h).2.2⟩
theorem reads2 {w : World} {base : Nat} {v : Value} {x y : ByteArray} (h : Kd.R Kd.string 9 w base (fun _ => True) v [x, y]) : ∃ A c, v = .slice A 2 c ∧ 2 ≤ c ∧ Kd.C Kd.string w A 2 [x, y] := Kd.R_reads h
theorem mergeTexts (s u : ByteArray) (r1 r2 : Int) (r3 : List ByteArray) (A1 A9 : Option Addr) (c1 c9 : Nat) (w : World) (h1 : Kd.C Kd.string w A1 1 [s]) (hc1 : 1 ≤ c1) (hC : Kd.C Kd.string w A9 1 [u]) (hc : 1 ≤ c9) (h : agg_Merge.f 5 0 1 0 [s] 1 0 [u] = some (r1, r2, r3)) :
    Calls Try.prog 17 #[.agg #[.int .i64 5, .int .i64 0], .agg #[.int .u64 1, .int .i64 0, .slice A1 1 c1], .agg #[.int .u64 1, .int .i64 0, .slice A9 1 c9]] w (Part w r1 r2 r3) :=
  agg_Merge.calls 5 0 1 0 A1 c1 [s] 1 0 A9 c9 [u] r1 r2 r3 w h1 hc1 hC hc h
theorem val1 : agg_Value.f 2 0 3 5 [] = some 5 := by unfold agg_Value.f; rw [if_neg (by decide), if_pos (by decide)]
theorem val2 : agg_Value.f 5 0 2 0 [strA, strB] = some 2 := by unfold agg_Value.f; rw [if_neg (by decide), if_neg (by decide), if_pos rfl]; rfl
theorem chk : agg_Check.f 0 0 [⟨2, 0⟩] = some 1 := by
  unfold agg_Check.f anyWrong wrongB
  rw [if_neg (by decide)]
  simp
theorem C_agg1 {w : World} {g : Nat} {a b : Int} {E : Nat} (hb : w.heap[g]? = some (.cells #[.int .i64 a, .int .i64 b] E (0, 0))) : Kd.C k23 w (some ⟨g, 0, none⟩) 1 [⟨a, b⟩] := by
  refine ⟨rfl, by simp, fun _ => ⟨_, rfl, fun q p hp => ?_⟩⟩
  match q, hp with
  | 0, hp =>
    obtain rfl : (⟨a, b⟩ : S23) = p := by simpa using hp
    refine ⟨[.int .i64 a, .int .i64 b], rfl, k23_mk w ⟨a, b⟩, fun i u hu => ?_⟩
    match i, hu with
    | 0, hu =>
      obtain rfl : Value.int .i64 a = u := by simpa using hu
      exact (blk_cell hb 0).trans rfl
    | 1, hu =>
      obtain rfl : Value.int .i64 b = u := by simpa using hu
      exact (blk_cell hb 1).trans rfl
    | i + 2, hu => simp at hu
  | q + 1, hp => simp at hp
theorem check1 (a b c d r : Int) (A : Option Addr) (w : World) (hC : Kd.C k23 w A 1 [⟨c, d⟩]) (h : agg_Check.f a b [⟨c, d⟩] = some r) : Calls Try.prog 21 #[.agg #[.int .i64 a, .int .i64 b], .slice A 1 1] w fun e w' => e = .returned (.int .i64 r) ∧ Below w.heap.size w w' := agg_Check.calls a b A 1 [⟨c, d⟩] r w hC (Nat.le_refl _) h
theorem value0 (k n v r : Int) (A : Option Addr) (c : Nat) (w : World) (h : agg_Value.f k 0 n v [] = some r) : Calls Try.prog 15 #[.agg #[.int .i64 k, .int .i64 0], .agg #[.int .u64 n, .int .i64 v, .slice A 0 c]] w fun e w' => e = .returned (.int .i64 r) ∧ Below w.heap.size w w' := agg_Value.calls k 0 n v A c [] r w (C_none _ _) (Nat.zero_le _) h
theorem value2 (k n v r : Int) (s u : ByteArray) (A : Option Addr) (c : Nat) (w : World) (hC : Kd.C Kd.string w A 2 [s, u]) (hc : 2 ≤ c) (h : agg_Value.f k 0 n v [s, u] = some r) : Calls Try.prog 15 #[.agg #[.int .i64 k, .int .i64 0], .agg #[.int .u64 n, .int .i64 v, .slice A 2 c]] w fun e w' => e = .returned (.int .i64 r) ∧ Below w.heap.size w w' := agg_Value.calls k 0 n v A c [s, u] r w hC hc h
set_option maxRecDepth 100000 in
set_option maxHeartbeats 3200000 in
theorem gristmilllaw06_awake.calls0 (w : World) : Calls Try.prog 10 #[] w fun e w' => e = .returned (.bool true) ∧ Below w.heap.size w w' := by
  go_enter Try.func10, Try.ntmps10
  go_upto_region 2 with (first
    | (((with_reducible refine gate_dst (N := 1) rfl ?_); refine box_event ?hg (N := 1) ?hd (cs := #[.int .i64 0, .int .i64 0]) (t := 23) ?hr ?_; (case hd => rfl); (case hg => rfl); (case hr => first | (go_simp; done) | (go_simp; rfl)); intro g1 hg w1 hbox hb; have GE1 := Aside0.mk (Nat.le_of_eq hg.symm); have BK1 := Aside0.mk hbox; have HX1 := Aside0.mk hb; clear hg hbox hb); (have hg1_0 : w1.cell? ⟨g1, 0, none⟩ = some (.int .i64 0) := (blk_cell BK1.out 0).trans rfl; have hfg1_0 := blk_frozen BK1.out 0; have hg1_1 : w1.cell? ⟨g1, 1, none⟩ = some (.int .i64 0) := (blk_cell BK1.out 1).trans rfl; have hfg1_1 := blk_frozen BK1.out 1))
    | fail)
  have BK1a := Aside0.mk (show ((w1.setCell ⟨g1, 0, none⟩ (.int .i64 2)).setCell ⟨g1, 1, none⟩ (.int .i64 0)).heap[g1]? = some (.cells #[.int .i64 2, .int .i64 0] 23 (0, 0)) from (blk_set (blk_set BK1.out 0 _) 1 _))
  have HB1 := Aside0.mk (show Below w.heap.size w ((w1.setCell ⟨g1, 0, none⟩ (.int .i64 2)).setCell ⟨g1, 1, none⟩ (.int .i64 0)) from below_set (below_set HX1.out GE1.out) GE1.out)
  clear hg1_0 hfg1_0 hg1_1 hfg1_1
  generalize (w1.setCell ⟨g1, 0, none⟩ (.int .i64 2)).setCell ⟨g1, 1, none⟩ (.int .i64 0) = wa at *
  have HB := Aside0.mk (below_drew HB1.out)
  have c0 : wa.cell? ⟨g1, 0, none⟩ = some (.int .i64 2) := (blk_cell BK1a.out 0).trans rfl
  have c1 : wa.cell? ⟨g1, 1, none⟩ = some (.int .i64 0) := (blk_cell BK1a.out 1).trans rfl
  have BK := Aside0.mk (blk_drew BK1a.out)
  go_cut [1, 2] (fun s1 s2 wx => ∃ (g2 : Nat) (A2 : Option Addr) (c2 : Nat), s1 = .pointer (some ⟨g1, 0, none⟩) ∧ s2 = .pointer (some ⟨g2, 0, none⟩) ∧ Aside0 (wx.heap[g1]? = some (.cells #[.int .i64 2, .int .i64 0] 23 (0, 0))) ∧ Aside0 (wx.heap[g2]? = some (.cells #[.int .u64 2, .int .i64 6, .slice A2 0 c2] 33 (0, 0))) ∧ Aside0 (w.heap.size ≤ g2) ∧ Aside0 (Below w.heap.size w wx))
  case first =>
    have HL := Aside0.mk trivial
    refine start_ (n := 8) (S := fun w' => w'.cell? ⟨g1, 0, none⟩ = some (.int .i64 2) ∧ w'.cell? ⟨g1, 1, none⟩ = some (.int .i64 0)) (ds := [7]) #[false, false, false, false, false, false, false, false] (by kernel_rfl) rfl rfl ⟨c0, c1⟩ (fun hHeld => ?_)
    refine take_ (i := 0) (N := some 6) (v := ?_) (a' := ?_) #[true, false, false, false, false, false, false, false] rfl rfl (by kernel_rfl) (fun _ _ _ h => h) (Or.inl ⟨by rfl, ?_⟩) hHeld ?_ ?_
    rotate_left
    · rintro w' ⟨s0, s1⟩
      go_simp
      with_reducible rfl
    rotate_left
    · simp only [Act.put, List.setIfInBounds_toArray, List.set_cons_zero, List.set_cons_succ, i64_w, i32_w]
      rfl
    refine take_ (i := 1) (N := some 7) (v := ?_) (a' := ?_) #[true, true, false, false, false, false, false, false] rfl rfl (by kernel_rfl) (fun _ _ _ h => h) (Or.inl ⟨by rfl, ?_⟩) hHeld ?_ ?_
    rotate_left
    · rintro w' ⟨s0, s1⟩
      go_simp
      with_reducible rfl
    rotate_left
    · simp only [Act.put, List.setIfInBounds_toArray, List.set_cons_zero, List.set_cons_succ, i64_w, i32_w]
      rfl
    refine three_ (i := 2) (j := 3) (k := 6) (Ni := some 8) (Nj := some 9) (Nk := some 2) #[true, true, true, false, false, false, false, false] #[true, true, false, true, false, false, false, false] #[true, true, false, false, false, false, true, false] rfl rfl rfl rfl rfl rfl (by kernel_rfl) (by decide) (by decide) (by decide) (fun K hK => ?_) (fun K hK => ?_) (fun K hK => ?_)
    · skip
      refine goes_ Try.func18 (by kernel_rfl) rfl #[.agg #[.int .i64 2, .int .i64 0]] (by rfl) rfl rfl (by simp only [List.map_toArray, List.map_cons, List.map_nil]; rfl) ?_
      with_reducible refine (start0 2 0 _).mono ?_
      rintro e w3 ⟨A3, c3, rfl, hb3⟩
      refine ⟨_, rfl, ?_⟩
      replace HB := Aside0.mk (below_then HB.out HB.out.size hb3)
      replace BK := Aside0.mk (cells_below BK.out hb3)
      try replace HL := Aside0.mk (Kd.C_below HL.out hb3)
      try replace hbox := Aside0.mk (cells_below hbox.out hb3)
      refine hK.out _ _ ⟨(pw_cell_below hb3 hHeld.1), (pw_cell_below hb3 hHeld.2)⟩ (fun hHeld => ?_)
      clear hK K
      refine norm_ (a' := ?_) ?_ ?_
      rotate_left
      · show Act.put _ (some 8) _ = _
        simp only [Act.put, List.setIfInBounds_toArray, List.set_cons_zero, List.set_cons_succ, i64_w, i32_w]
        rfl
      refine two_ (i := 3) (j := 6) (Ni := some 9) (Nj := some 2) #[true, true, true, true, false, false, false, false] #[true, true, true, false, false, false, true, false] rfl rfl rfl rfl (by kernel_rfl) (by decide) (by decide) (fun K hK => ?_) (fun K hK => ?_)
      · skip
        refine lit1_step (Kd.int .i64) 2 (by rfl) (N := 9) (by rfl) (x := 3) (v := .int .i64 3) ?hr (Reps.one (show Kd.M (Kd.int .i64) _ _ _ 3 [.int .i64 3] from rfl) (Reps.none _ _)) ?_
        case hr => first | (go_simp; done) | (go_simp; rfl)
        intro A9 c9 w9 hC9 hc9 hb9
        replace HB := Aside0.mk (below_then HB.out HB.out.size hb9)
        replace BK := Aside0.mk (cells_below BK.out hb9)
        replace HL := Aside0.mk hC9
        try replace hbox := Aside0.mk (cells_below hbox.out hb9)
        have HLc := Aside0.mk hc9
        clear hC9 hc9
        refine hK.out _ _ ⟨(pw_cell_below hb9 hHeld.1), (pw_cell_below hb9 hHeld.2)⟩ (fun hHeld => ?_)
        clear hK K
        refine norm_ (a' := ?_) ?_ ?_
        rotate_left
        · show Act.put _ (some 9) _ = _
          simp only [Act.put, List.setIfInBounds_toArray, List.set_cons_zero, List.set_cons_succ, i64_w, i32_w]
          rfl
        refine pure_ (i := 4) (N := some 10) (v := ?_) (a' := ?_) #[true, true, true, true, true, false, false, false] rfl rfl (by kernel_rfl) (fun _ _ _ h => h) (Or.inl ⟨by rfl, ?_⟩) ?_ ?_
        rotate_left
        · intro w'
          go_simp
          with_reducible rfl
        rotate_left
        · simp only [Act.put, List.setIfInBounds_toArray, List.set_cons_zero, List.set_cons_succ, i64_w, i32_w]
          rfl
        refine two_ (i := 5) (j := 6) (Ni := some 11) (Nj := some 2) #[true, true, true, true, true, true, false, false] #[true, true, true, true, true, false, true, false] rfl rfl rfl rfl (by kernel_rfl) (by decide) (by decide) (fun K hK => ?_) (fun K hK => ?_)
        · skip
          refine goes_ Try.func19 (by kernel_rfl) rfl #[.agg #[.int .i64 2, .int .i64 0], .agg #[.int .u64 0, .int .i64 0, .slice A3 0 c3], .agg #[.int .i64 0, .slice none 0 0, .slice A9 1 c9], .int .u64 2] (by rfl) rfl rfl (by simp only [List.map_toArray, List.map_cons, List.map_nil]; rfl) ?_
          with_reducible refine (addNum 0 0 3 2 2 6 [] A3 A9 c3 c9 _ HL.out HLc.out aw1).mono ?_
          rintro e w5 ⟨v5, rfl, ho5, hb5⟩
          refine ⟨_, rfl, ?_⟩
          obtain ⟨A5, c5, rfl⟩ := reads0 ho5
          replace HB := Aside0.mk (below_then HB.out HB.out.size hb5)
          replace BK := Aside0.mk (cells_below BK.out hb5)
          try replace hbox := Aside0.mk (cells_below hbox.out hb5)
          clear ho5
          refine hK.out _ _ ⟨(pw_cell_below hb5 hHeld.1), (pw_cell_below hb5 hHeld.2)⟩ (fun hHeld => ?_)
          clear hK K
          refine norm_ (a' := ?_) ?_ ?_
          rotate_left
          · show Act.put _ (some 11) _ = _
            simp only [Act.put, List.setIfInBounds_toArray, List.set_cons_zero, List.set_cons_succ, i64_w, i32_w]
            rfl
          refine one_ (i := 6) (N := some 2) #[true, true, true, true, true, true, true, false] rfl rfl (by kernel_rfl) (by decide) (fun K hK => ?_)
          refine box_step (by rfl) (N := 2) (by rfl) (cs := #[.int .u64 0, .int .i64 0, .slice none 0 0]) (t := 33) ?hr ?_
          case hr => first | (go_simp; done) | (go_simp; rfl)
          intro g2 hg w6 hbox hb6
          have HG2 := Aside0.mk (show w.heap.size ≤ g2 by rw [hg]; exact HB.out.size)
          have hne : g1 ≠ g2 := (by have h1 := blk_lt BK.out; rw [hg]; omega)
          replace HB := Aside0.mk (below_then HB.out HB.out.size hb6)
          replace BK := Aside0.mk (cells_below BK.out hb6)
          try replace HL := Aside0.mk (Kd.C_below HL.out hb6)
          replace hbox := Aside0.mk hbox
          clear hg
          refine hK.out _ _ ⟨(pw_cell_below hb6 hHeld.1), (pw_cell_below hb6 hHeld.2)⟩ (fun hHeld => ?_)
          clear hK K
          refine norm_ (a' := ?_) ?_ ?_
          rotate_left
          · show Act.put _ (some 2) _ = _
            simp only [Act.put, List.setIfInBounds_toArray, List.set_cons_zero, List.set_cons_succ, i64_w, i32_w]
            rfl
          refine last_ (i := 7) (N := none) #[true, true, true, true, true, true, true, true] rfl rfl (by kernel_rfl) (by decide) (fun K hK => ?_)
          (have hq_0 := (blk_cell hbox.out 0).trans (show (#[(.int .u64 0 : Value), (.int .i64 0 : Value), (.slice none 0 0 : Value)] : Array Value)[0]? = some (.int .u64 0) from rfl); have hqf_0 := blk_frozen hbox.out 0; have hq_1 := (blk_cell hbox.out 1).trans (show (#[(.int .u64 0 : Value), (.int .i64 0 : Value), (.slice none 0 0 : Value)] : Array Value)[1]? = some (.int .i64 0) from rfl); have hqf_1 := blk_frozen hbox.out 1; have hq_2 := (blk_cell hbox.out 2).trans (show (#[(.int .u64 0 : Value), (.int .i64 0 : Value), (.slice none 0 0 : Value)] : Array Value)[2]? = some (.slice none 0 0) from rfl); have hqf_2 := blk_frozen hbox.out 2)
          refine skip_ (w1 := ?_) (by rfl) rfl ?_ ?_
          rotate_left
          · go_simp
            rfl
          refine hK.out _ _ ?_
          clear hK K
          refine done_ (by kernel_rfl) ?_
          go_wp2_with fail
          go_meet
          exact ⟨g2, _, _, rfl, rfl, ⟨blk_far (blk_far (blk_far BK.out hne _) hne _) hne _⟩, ⟨blk_set (blk_set (blk_set hbox.out 0 _) 1 _) 2 _⟩, HG2, ⟨below_set (below_set (below_set HB.out HG2.out) HG2.out) HG2.out⟩⟩
        · skip
          refine box_step (by rfl) (N := 2) (by rfl) (cs := #[.int .u64 0, .int .i64 0, .slice none 0 0]) (t := 33) ?hr ?_
          case hr => first | (go_simp; done) | (go_simp; rfl)
          intro g2 hg w6 hbox hb6
          have HG2 := Aside0.mk (show w.heap.size ≤ g2 by rw [hg]; exact HB.out.size)
          have hne : g1 ≠ g2 := (by have h1 := blk_lt BK.out; rw [hg]; omega)
          replace HB := Aside0.mk (below_then HB.out HB.out.size hb6)
          replace BK := Aside0.mk (cells_below BK.out hb6)
          try replace HL := Aside0.mk (Kd.C_below HL.out hb6)
          replace hbox := Aside0.mk hbox
          clear hg
          refine hK.out _ _ ⟨(pw_cell_below hb6 hHeld.1), (pw_cell_below hb6 hHeld.2)⟩ (fun hHeld => ?_)
          clear hK K
          refine norm_ (a' := ?_) ?_ ?_
          rotate_left
          · show Act.put _ (some 2) _ = _
            simp only [Act.put, List.setIfInBounds_toArray, List.set_cons_zero, List.set_cons_succ, i64_w, i32_w]
            rfl
          refine one_ (i := 5) (N := some 11) #[true, true, true, true, true, true, true, false] rfl rfl (by kernel_rfl) (by decide) (fun K hK => ?_)
          refine goes_ Try.func19 (by kernel_rfl) rfl #[.agg #[.int .i64 2, .int .i64 0], .agg #[.int .u64 0, .int .i64 0, .slice A3 0 c3], .agg #[.int .i64 0, .slice none 0 0, .slice A9 1 c9], .int .u64 2] (by rfl) rfl rfl (by simp only [List.map_toArray, List.map_cons, List.map_nil]; rfl) ?_
          with_reducible refine (addNum 0 0 3 2 2 6 [] A3 A9 c3 c9 _ HL.out HLc.out aw1).mono ?_
          rintro e w5 ⟨v5, rfl, ho5, hb5⟩
          refine ⟨_, rfl, ?_⟩
          obtain ⟨A5, c5, rfl⟩ := reads0 ho5
          replace HB := Aside0.mk (below_then HB.out HB.out.size hb5)
          replace BK := Aside0.mk (cells_below BK.out hb5)
          try replace hbox := Aside0.mk (cells_below hbox.out hb5)
          clear ho5
          refine hK.out _ _ ⟨(pw_cell_below hb5 hHeld.1), (pw_cell_below hb5 hHeld.2)⟩ (fun hHeld => ?_)
          clear hK K
          refine norm_ (a' := ?_) ?_ ?_
          rotate_left
          · show Act.put _ (some 11) _ = _
            simp only [Act.put, List.setIfInBounds_toArray, List.set_cons_zero, List.set_cons_succ, i64_w, i32_w]
            rfl
          refine last_ (i := 7) (N := none) #[true, true, true, true, true, true, true, true] rfl rfl (by kernel_rfl) (by decide) (fun K hK => ?_)
          (have hq_0 := (blk_cell hbox.out 0).trans (show (#[(.int .u64 0 : Value), (.int .i64 0 : Value), (.slice none 0 0 : Value)] : Array Value)[0]? = some (.int .u64 0) from rfl); have hqf_0 := blk_frozen hbox.out 0; have hq_1 := (blk_cell hbox.out 1).trans (show (#[(.int .u64 0 : Value), (.int .i64 0 : Value), (.slice none 0 0 : Value)] : Array Value)[1]? = some (.int .i64 0) from rfl); have hqf_1 := blk_frozen hbox.out 1; have hq_2 := (blk_cell hbox.out 2).trans (show (#[(.int .u64 0 : Value), (.int .i64 0 : Value), (.slice none 0 0 : Value)] : Array Value)[2]? = some (.slice none 0 0) from rfl); have hqf_2 := blk_frozen hbox.out 2)
          refine skip_ (w1 := ?_) (by rfl) rfl ?_ ?_
          rotate_left
          · go_simp
            rfl
          refine hK.out _ _ ?_
          clear hK K
          refine done_ (by kernel_rfl) ?_
          go_wp2_with fail
          go_meet
          exact ⟨g2, _, _, rfl, rfl, ⟨blk_far (blk_far (blk_far BK.out hne _) hne _) hne _⟩, ⟨blk_set (blk_set (blk_set hbox.out 0 _) 1 _) 2 _⟩, HG2, ⟨below_set (below_set (below_set HB.out HG2.out) HG2.out) HG2.out⟩⟩
      · skip
        refine box_step (by rfl) (N := 2) (by rfl) (cs := #[.int .u64 0, .int .i64 0, .slice none 0 0]) (t := 33) ?hr ?_
        case hr => first | (go_simp; done) | (go_simp; rfl)
        intro g2 hg w6 hbox hb6
        have HG2 := Aside0.mk (show w.heap.size ≤ g2 by rw [hg]; exact HB.out.size)
        have hne : g1 ≠ g2 := (by have h1 := blk_lt BK.out; rw [hg]; omega)
        replace HB := Aside0.mk (below_then HB.out HB.out.size hb6)
        replace BK := Aside0.mk (cells_below BK.out hb6)
        try replace HL := Aside0.mk (Kd.C_below HL.out hb6)
        replace hbox := Aside0.mk hbox
        clear hg
        refine hK.out _ _ ⟨(pw_cell_below hb6 hHeld.1), (pw_cell_below hb6 hHeld.2)⟩ (fun hHeld => ?_)
        clear hK K
        refine norm_ (a' := ?_) ?_ ?_
        rotate_left
        · show Act.put _ (some 2) _ = _
          simp only [Act.put, List.setIfInBounds_toArray, List.set_cons_zero, List.set_cons_succ, i64_w, i32_w]
          rfl
        refine one_ (i := 3) (N := some 9) #[true, true, true, true, false, false, true, false] rfl rfl (by kernel_rfl) (by decide) (fun K hK => ?_)
        refine lit1_step (Kd.int .i64) 2 (by rfl) (N := 9) (by rfl) (x := 3) (v := .int .i64 3) ?hr (Reps.one (show Kd.M (Kd.int .i64) _ _ _ 3 [.int .i64 3] from rfl) (Reps.none _ _)) ?_
        case hr => first | (go_simp; done) | (go_simp; rfl)
        intro A9 c9 w9 hC9 hc9 hb9
        replace HB := Aside0.mk (below_then HB.out HB.out.size hb9)
        replace BK := Aside0.mk (cells_below BK.out hb9)
        replace HL := Aside0.mk hC9
        try replace hbox := Aside0.mk (cells_below hbox.out hb9)
        have HLc := Aside0.mk hc9
        clear hC9 hc9
        refine hK.out _ _ ⟨(pw_cell_below hb9 hHeld.1), (pw_cell_below hb9 hHeld.2)⟩ (fun hHeld => ?_)
        clear hK K
        refine norm_ (a' := ?_) ?_ ?_
        rotate_left
        · show Act.put _ (some 9) _ = _
          simp only [Act.put, List.setIfInBounds_toArray, List.set_cons_zero, List.set_cons_succ, i64_w, i32_w]
          rfl
        refine pure_ (i := 4) (N := some 10) (v := ?_) (a' := ?_) #[true, true, true, true, true, false, true, false] rfl rfl (by kernel_rfl) (fun _ _ _ h => h) (Or.inl ⟨by rfl, ?_⟩) ?_ ?_
        rotate_left
        · intro w'
          go_simp
          with_reducible rfl
        rotate_left
        · simp only [Act.put, List.setIfInBounds_toArray, List.set_cons_zero, List.set_cons_succ, i64_w, i32_w]
          rfl
        refine one_ (i := 5) (N := some 11) #[true, true, true, true, true, true, true, false] rfl rfl (by kernel_rfl) (by decide) (fun K hK => ?_)
        refine goes_ Try.func19 (by kernel_rfl) rfl #[.agg #[.int .i64 2, .int .i64 0], .agg #[.int .u64 0, .int .i64 0, .slice A3 0 c3], .agg #[.int .i64 0, .slice none 0 0, .slice A9 1 c9], .int .u64 2] (by rfl) rfl rfl (by simp only [List.map_toArray, List.map_cons, List.map_nil]; rfl) ?_
        with_reducible refine (addNum 0 0 3 2 2 6 [] A3 A9 c3 c9 _ HL.out HLc.out aw1).mono ?_
        rintro e w5 ⟨v5, rfl, ho5, hb5⟩
        refine ⟨_, rfl, ?_⟩
        obtain ⟨A5, c5, rfl⟩ := reads0 ho5
        replace HB := Aside0.mk (below_then HB.out HB.out.size hb5)
        replace BK := Aside0.mk (cells_below BK.out hb5)
        try replace hbox := Aside0.mk (cells_below hbox.out hb5)
        clear ho5
        refine hK.out _ _ ⟨(pw_cell_below hb5 hHeld.1), (pw_cell_below hb5 hHeld.2)⟩ (fun hHeld => ?_)
        clear hK K
        refine norm_ (a' := ?_) ?_ ?_
        rotate_left
        · show Act.put _ (some 11) _ = _
          simp only [Act.put, List.setIfInBounds_toArray, List.set_cons_zero, List.set_cons_succ, i64_w, i32_w]
          rfl
        refine last_ (i := 7) (N := none) #[true, true, true, true, true, true, true, true] rfl rfl (by kernel_rfl) (by decide) (fun K hK => ?_)
        (have hq_0 := (blk_cell hbox.out 0).trans (show (#[(.int .u64 0 : Value), (.int .i64 0 : Value), (.slice none 0 0 : Value)] : Array Value)[0]? = some (.int .u64 0) from rfl); have hqf_0 := blk_frozen hbox.out 0; have hq_1 := (blk_cell hbox.out 1).trans (show (#[(.int .u64 0 : Value), (.int .i64 0 : Value), (.slice none 0 0 : Value)] : Array Value)[1]? = some (.int .i64 0) from rfl); have hqf_1 := blk_frozen hbox.out 1; have hq_2 := (blk_cell hbox.out 2).trans (show (#[(.int .u64 0 : Value), (.int .i64 0 : Value), (.slice none 0 0 : Value)] : Array Value)[2]? = some (.slice none 0 0) from rfl); have hqf_2 := blk_frozen hbox.out 2)
        refine skip_ (w1 := ?_) (by rfl) rfl ?_ ?_
        rotate_left
        · go_simp
          rfl
        refine hK.out _ _ ?_
        clear hK K
        refine done_ (by kernel_rfl) ?_
        go_wp2_with fail
        go_meet
        exact ⟨g2, _, _, rfl, rfl, ⟨blk_far (blk_far (blk_far BK.out hne _) hne _) hne _⟩, ⟨blk_set (blk_set (blk_set hbox.out 0 _) 1 _) 2 _⟩, HG2, ⟨below_set (below_set (below_set HB.out HG2.out) HG2.out) HG2.out⟩⟩
    · skip
      refine lit1_step (Kd.int .i64) 2 (by rfl) (N := 9) (by rfl) (x := 3) (v := .int .i64 3) ?hr (Reps.one (show Kd.M (Kd.int .i64) _ _ _ 3 [.int .i64 3] from rfl) (Reps.none _ _)) ?_
      case hr => first | (go_simp; done) | (go_simp; rfl)
      intro A9 c9 w9 hC9 hc9 hb9
      replace HB := Aside0.mk (below_then HB.out HB.out.size hb9)
      replace BK := Aside0.mk (cells_below BK.out hb9)
      replace HL := Aside0.mk hC9
      try replace hbox := Aside0.mk (cells_below hbox.out hb9)
      have HLc := Aside0.mk hc9
      clear hC9 hc9
      refine hK.out _ _ ⟨(pw_cell_below hb9 hHeld.1), (pw_cell_below hb9 hHeld.2)⟩ (fun hHeld => ?_)
      clear hK K
      refine norm_ (a' := ?_) ?_ ?_
      rotate_left
      · show Act.put _ (some 9) _ = _
        simp only [Act.put, List.setIfInBounds_toArray, List.set_cons_zero, List.set_cons_succ, i64_w, i32_w]
        rfl
      refine pure_ (i := 4) (N := some 10) (v := ?_) (a' := ?_) #[true, true, false, true, true, false, false, false] rfl rfl (by kernel_rfl) (fun _ _ _ h => h) (Or.inl ⟨by rfl, ?_⟩) ?_ ?_
      rotate_left
      · intro w'
        go_simp
        with_reducible rfl
      rotate_left
      · simp only [Act.put, List.setIfInBounds_toArray, List.set_cons_zero, List.set_cons_succ, i64_w, i32_w]
        rfl
      refine two_ (i := 2) (j := 6) (Ni := some 8) (Nj := some 2) #[true, true, true, true, true, false, false, false] #[true, true, false, true, true, false, true, false] rfl rfl rfl rfl (by kernel_rfl) (by decide) (by decide) (fun K hK => ?_) (fun K hK => ?_)
      · skip
        refine goes_ Try.func18 (by kernel_rfl) rfl #[.agg #[.int .i64 2, .int .i64 0]] (by rfl) rfl rfl (by simp only [List.map_toArray, List.map_cons, List.map_nil]; rfl) ?_
        with_reducible refine (start0 2 0 _).mono ?_
        rintro e w3 ⟨A3, c3, rfl, hb3⟩
        refine ⟨_, rfl, ?_⟩
        replace HB := Aside0.mk (below_then HB.out HB.out.size hb3)
        replace BK := Aside0.mk (cells_below BK.out hb3)
        try replace HL := Aside0.mk (Kd.C_below HL.out hb3)
        try replace hbox := Aside0.mk (cells_below hbox.out hb3)
        refine hK.out _ _ ⟨(pw_cell_below hb3 hHeld.1), (pw_cell_below hb3 hHeld.2)⟩ (fun hHeld => ?_)
        clear hK K
        refine norm_ (a' := ?_) ?_ ?_
        rotate_left
        · show Act.put _ (some 8) _ = _
          simp only [Act.put, List.setIfInBounds_toArray, List.set_cons_zero, List.set_cons_succ, i64_w, i32_w]
          rfl
        refine two_ (i := 5) (j := 6) (Ni := some 11) (Nj := some 2) #[true, true, true, true, true, true, false, false] #[true, true, true, true, true, false, true, false] rfl rfl rfl rfl (by kernel_rfl) (by decide) (by decide) (fun K hK => ?_) (fun K hK => ?_)
        · skip
          refine goes_ Try.func19 (by kernel_rfl) rfl #[.agg #[.int .i64 2, .int .i64 0], .agg #[.int .u64 0, .int .i64 0, .slice A3 0 c3], .agg #[.int .i64 0, .slice none 0 0, .slice A9 1 c9], .int .u64 2] (by rfl) rfl rfl (by simp only [List.map_toArray, List.map_cons, List.map_nil]; rfl) ?_
          with_reducible refine (addNum 0 0 3 2 2 6 [] A3 A9 c3 c9 _ HL.out HLc.out aw1).mono ?_
          rintro e w5 ⟨v5, rfl, ho5, hb5⟩
          refine ⟨_, rfl, ?_⟩
          obtain ⟨A5, c5, rfl⟩ := reads0 ho5
          replace HB := Aside0.mk (below_then HB.out HB.out.size hb5)
          replace BK := Aside0.mk (cells_below BK.out hb5)
          try replace hbox := Aside0.mk (cells_below hbox.out hb5)
          clear ho5
          refine hK.out _ _ ⟨(pw_cell_below hb5 hHeld.1), (pw_cell_below hb5 hHeld.2)⟩ (fun hHeld => ?_)
          clear hK K
          refine norm_ (a' := ?_) ?_ ?_
          rotate_left
          · show Act.put _ (some 11) _ = _
            simp only [Act.put, List.setIfInBounds_toArray, List.set_cons_zero, List.set_cons_succ, i64_w, i32_w]
            rfl
          refine one_ (i := 6) (N := some 2) #[true, true, true, true, true, true, true, false] rfl rfl (by kernel_rfl) (by decide) (fun K hK => ?_)
          refine box_step (by rfl) (N := 2) (by rfl) (cs := #[.int .u64 0, .int .i64 0, .slice none 0 0]) (t := 33) ?hr ?_
          case hr => first | (go_simp; done) | (go_simp; rfl)
          intro g2 hg w6 hbox hb6
          have HG2 := Aside0.mk (show w.heap.size ≤ g2 by rw [hg]; exact HB.out.size)
          have hne : g1 ≠ g2 := (by have h1 := blk_lt BK.out; rw [hg]; omega)
          replace HB := Aside0.mk (below_then HB.out HB.out.size hb6)
          replace BK := Aside0.mk (cells_below BK.out hb6)
          try replace HL := Aside0.mk (Kd.C_below HL.out hb6)
          replace hbox := Aside0.mk hbox
          clear hg
          refine hK.out _ _ ⟨(pw_cell_below hb6 hHeld.1), (pw_cell_below hb6 hHeld.2)⟩ (fun hHeld => ?_)
          clear hK K
          refine norm_ (a' := ?_) ?_ ?_
          rotate_left
          · show Act.put _ (some 2) _ = _
            simp only [Act.put, List.setIfInBounds_toArray, List.set_cons_zero, List.set_cons_succ, i64_w, i32_w]
            rfl
          refine last_ (i := 7) (N := none) #[true, true, true, true, true, true, true, true] rfl rfl (by kernel_rfl) (by decide) (fun K hK => ?_)
          (have hq_0 := (blk_cell hbox.out 0).trans (show (#[(.int .u64 0 : Value), (.int .i64 0 : Value), (.slice none 0 0 : Value)] : Array Value)[0]? = some (.int .u64 0) from rfl); have hqf_0 := blk_frozen hbox.out 0; have hq_1 := (blk_cell hbox.out 1).trans (show (#[(.int .u64 0 : Value), (.int .i64 0 : Value), (.slice none 0 0 : Value)] : Array Value)[1]? = some (.int .i64 0) from rfl); have hqf_1 := blk_frozen hbox.out 1; have hq_2 := (blk_cell hbox.out 2).trans (show (#[(.int .u64 0 : Value), (.int .i64 0 : Value), (.slice none 0 0 : Value)] : Array Value)[2]? = some (.slice none 0 0) from rfl); have hqf_2 := blk_frozen hbox.out 2)
          refine skip_ (w1 := ?_) (by rfl) rfl ?_ ?_
          rotate_left
          · go_simp
            rfl
          refine hK.out _ _ ?_
          clear hK K
          refine done_ (by kernel_rfl) ?_
          go_wp2_with fail
          go_meet
          exact ⟨g2, _, _, rfl, rfl, ⟨blk_far (blk_far (blk_far BK.out hne _) hne _) hne _⟩, ⟨blk_set (blk_set (blk_set hbox.out 0 _) 1 _) 2 _⟩, HG2, ⟨below_set (below_set (below_set HB.out HG2.out) HG2.out) HG2.out⟩⟩
        · skip
          refine box_step (by rfl) (N := 2) (by rfl) (cs := #[.int .u64 0, .int .i64 0, .slice none 0 0]) (t := 33) ?hr ?_
          case hr => first | (go_simp; done) | (go_simp; rfl)
          intro g2 hg w6 hbox hb6
          have HG2 := Aside0.mk (show w.heap.size ≤ g2 by rw [hg]; exact HB.out.size)
          have hne : g1 ≠ g2 := (by have h1 := blk_lt BK.out; rw [hg]; omega)
          replace HB := Aside0.mk (below_then HB.out HB.out.size hb6)
          replace BK := Aside0.mk (cells_below BK.out hb6)
          try replace HL := Aside0.mk (Kd.C_below HL.out hb6)
          replace hbox := Aside0.mk hbox
          clear hg
          refine hK.out _ _ ⟨(pw_cell_below hb6 hHeld.1), (pw_cell_below hb6 hHeld.2)⟩ (fun hHeld => ?_)
          clear hK K
          refine norm_ (a' := ?_) ?_ ?_
          rotate_left
          · show Act.put _ (some 2) _ = _
            simp only [Act.put, List.setIfInBounds_toArray, List.set_cons_zero, List.set_cons_succ, i64_w, i32_w]
            rfl
          refine one_ (i := 5) (N := some 11) #[true, true, true, true, true, true, true, false] rfl rfl (by kernel_rfl) (by decide) (fun K hK => ?_)
          refine goes_ Try.func19 (by kernel_rfl) rfl #[.agg #[.int .i64 2, .int .i64 0], .agg #[.int .u64 0, .int .i64 0, .slice A3 0 c3], .agg #[.int .i64 0, .slice none 0 0, .slice A9 1 c9], .int .u64 2] (by rfl) rfl rfl (by simp only [List.map_toArray, List.map_cons, List.map_nil]; rfl) ?_
          with_reducible refine (addNum 0 0 3 2 2 6 [] A3 A9 c3 c9 _ HL.out HLc.out aw1).mono ?_
          rintro e w5 ⟨v5, rfl, ho5, hb5⟩
          refine ⟨_, rfl, ?_⟩
          obtain ⟨A5, c5, rfl⟩ := reads0 ho5
          replace HB := Aside0.mk (below_then HB.out HB.out.size hb5)
          replace BK := Aside0.mk (cells_below BK.out hb5)
          try replace hbox := Aside0.mk (cells_below hbox.out hb5)
          clear ho5
          refine hK.out _ _ ⟨(pw_cell_below hb5 hHeld.1), (pw_cell_below hb5 hHeld.2)⟩ (fun hHeld => ?_)
          clear hK K
          refine norm_ (a' := ?_) ?_ ?_
          rotate_left
          · show Act.put _ (some 11) _ = _
            simp only [Act.put, List.setIfInBounds_toArray, List.set_cons_zero, List.set_cons_succ, i64_w, i32_w]
            rfl
          refine last_ (i := 7) (N := none) #[true, true, true, true, true, true, true, true] rfl rfl (by kernel_rfl) (by decide) (fun K hK => ?_)
          (have hq_0 := (blk_cell hbox.out 0).trans (show (#[(.int .u64 0 : Value), (.int .i64 0 : Value), (.slice none 0 0 : Value)] : Array Value)[0]? = some (.int .u64 0) from rfl); have hqf_0 := blk_frozen hbox.out 0; have hq_1 := (blk_cell hbox.out 1).trans (show (#[(.int .u64 0 : Value), (.int .i64 0 : Value), (.slice none 0 0 : Value)] : Array Value)[1]? = some (.int .i64 0) from rfl); have hqf_1 := blk_frozen hbox.out 1; have hq_2 := (blk_cell hbox.out 2).trans (show (#[(.int .u64 0 : Value), (.int .i64 0 : Value), (.slice none 0 0 : Value)] : Array Value)[2]? = some (.slice none 0 0) from rfl); have hqf_2 := blk_frozen hbox.out 2)
          refine skip_ (w1 := ?_) (by rfl) rfl ?_ ?_
          rotate_left
          · go_simp
            rfl
          refine hK.out _ _ ?_
          clear hK K
          refine done_ (by kernel_rfl) ?_
          go_wp2_with fail
          go_meet
          exact ⟨g2, _, _, rfl, rfl, ⟨blk_far (blk_far (blk_far BK.out hne _) hne _) hne _⟩, ⟨blk_set (blk_set (blk_set hbox.out 0 _) 1 _) 2 _⟩, HG2, ⟨below_set (below_set (below_set HB.out HG2.out) HG2.out) HG2.out⟩⟩
      · skip
        refine box_step (by rfl) (N := 2) (by rfl) (cs := #[.int .u64 0, .int .i64 0, .slice none 0 0]) (t := 33) ?hr ?_
        case hr => first | (go_simp; done) | (go_simp; rfl)
        intro g2 hg w6 hbox hb6
        have HG2 := Aside0.mk (show w.heap.size ≤ g2 by rw [hg]; exact HB.out.size)
        have hne : g1 ≠ g2 := (by have h1 := blk_lt BK.out; rw [hg]; omega)
        replace HB := Aside0.mk (below_then HB.out HB.out.size hb6)
        replace BK := Aside0.mk (cells_below BK.out hb6)
        try replace HL := Aside0.mk (Kd.C_below HL.out hb6)
        replace hbox := Aside0.mk hbox
        clear hg
        refine hK.out _ _ ⟨(pw_cell_below hb6 hHeld.1), (pw_cell_below hb6 hHeld.2)⟩ (fun hHeld => ?_)
        clear hK K
        refine norm_ (a' := ?_) ?_ ?_
        rotate_left
        · show Act.put _ (some 2) _ = _
          simp only [Act.put, List.setIfInBounds_toArray, List.set_cons_zero, List.set_cons_succ, i64_w, i32_w]
          rfl
        refine one_ (i := 2) (N := some 8) #[true, true, true, true, true, false, true, false] rfl rfl (by kernel_rfl) (by decide) (fun K hK => ?_)
        refine goes_ Try.func18 (by kernel_rfl) rfl #[.agg #[.int .i64 2, .int .i64 0]] (by rfl) rfl rfl (by simp only [List.map_toArray, List.map_cons, List.map_nil]; rfl) ?_
        with_reducible refine (start0 2 0 _).mono ?_
        rintro e w3 ⟨A3, c3, rfl, hb3⟩
        refine ⟨_, rfl, ?_⟩
        replace HB := Aside0.mk (below_then HB.out HB.out.size hb3)
        replace BK := Aside0.mk (cells_below BK.out hb3)
        try replace HL := Aside0.mk (Kd.C_below HL.out hb3)
        try replace hbox := Aside0.mk (cells_below hbox.out hb3)
        refine hK.out _ _ ⟨(pw_cell_below hb3 hHeld.1), (pw_cell_below hb3 hHeld.2)⟩ (fun hHeld => ?_)
        clear hK K
        refine norm_ (a' := ?_) ?_ ?_
        rotate_left
        · show Act.put _ (some 8) _ = _
          simp only [Act.put, List.setIfInBounds_toArray, List.set_cons_zero, List.set_cons_succ, i64_w, i32_w]
          rfl
        refine one_ (i := 5) (N := some 11) #[true, true, true, true, true, true, true, false] rfl rfl (by kernel_rfl) (by decide) (fun K hK => ?_)
        refine goes_ Try.func19 (by kernel_rfl) rfl #[.agg #[.int .i64 2, .int .i64 0], .agg #[.int .u64 0, .int .i64 0, .slice A3 0 c3], .agg #[.int .i64 0, .slice none 0 0, .slice A9 1 c9], .int .u64 2] (by rfl) rfl rfl (by simp only [List.map_toArray, List.map_cons, List.map_nil]; rfl) ?_
        with_reducible refine (addNum 0 0 3 2 2 6 [] A3 A9 c3 c9 _ HL.out HLc.out aw1).mono ?_
        rintro e w5 ⟨v5, rfl, ho5, hb5⟩
        refine ⟨_, rfl, ?_⟩
        obtain ⟨A5, c5, rfl⟩ := reads0 ho5
        replace HB := Aside0.mk (below_then HB.out HB.out.size hb5)
        replace BK := Aside0.mk (cells_below BK.out hb5)
        try replace hbox := Aside0.mk (cells_below hbox.out hb5)
        clear ho5
        refine hK.out _ _ ⟨(pw_cell_below hb5 hHeld.1), (pw_cell_below hb5 hHeld.2)⟩ (fun hHeld => ?_)
        clear hK K
        refine norm_ (a' := ?_) ?_ ?_
        rotate_left
        · show Act.put _ (some 11) _ = _
          simp only [Act.put, List.setIfInBounds_toArray, List.set_cons_zero, List.set_cons_succ, i64_w, i32_w]
          rfl
        refine last_ (i := 7) (N := none) #[true, true, true, true, true, true, true, true] rfl rfl (by kernel_rfl) (by decide) (fun K hK => ?_)
        (have hq_0 := (blk_cell hbox.out 0).trans (show (#[(.int .u64 0 : Value), (.int .i64 0 : Value), (.slice none 0 0 : Value)] : Array Value)[0]? = some (.int .u64 0) from rfl); have hqf_0 := blk_frozen hbox.out 0; have hq_1 := (blk_cell hbox.out 1).trans (show (#[(.int .u64 0 : Value), (.int .i64 0 : Value), (.slice none 0 0 : Value)] : Array Value)[1]? = some (.int .i64 0) from rfl); have hqf_1 := blk_frozen hbox.out 1; have hq_2 := (blk_cell hbox.out 2).trans (show (#[(.int .u64 0 : Value), (.int .i64 0 : Value), (.slice none 0 0 : Value)] : Array Value)[2]? = some (.slice none 0 0) from rfl); have hqf_2 := blk_frozen hbox.out 2)
        refine skip_ (w1 := ?_) (by rfl) rfl ?_ ?_
        rotate_left
        · go_simp
          rfl
        refine hK.out _ _ ?_
        clear hK K
        refine done_ (by kernel_rfl) ?_
        go_wp2_with fail
        go_meet
        exact ⟨g2, _, _, rfl, rfl, ⟨blk_far (blk_far (blk_far BK.out hne _) hne _) hne _⟩, ⟨blk_set (blk_set (blk_set hbox.out 0 _) 1 _) 2 _⟩, HG2, ⟨below_set (below_set (below_set HB.out HG2.out) HG2.out) HG2.out⟩⟩
    · skip
      refine box_step (by rfl) (N := 2) (by rfl) (cs := #[.int .u64 0, .int .i64 0, .slice none 0 0]) (t := 33) ?hr ?_
      case hr => first | (go_simp; done) | (go_simp; rfl)
      intro g2 hg w6 hbox hb6
      have HG2 := Aside0.mk (show w.heap.size ≤ g2 by rw [hg]; exact HB.out.size)
      have hne : g1 ≠ g2 := (by have h1 := blk_lt BK.out; rw [hg]; omega)
      replace HB := Aside0.mk (below_then HB.out HB.out.size hb6)
      replace BK := Aside0.mk (cells_below BK.out hb6)
      try replace HL := Aside0.mk (Kd.C_below HL.out hb6)
      replace hbox := Aside0.mk hbox
      clear hg
      refine hK.out _ _ ⟨(pw_cell_below hb6 hHeld.1), (pw_cell_below hb6 hHeld.2)⟩ (fun hHeld => ?_)
      clear hK K
      refine norm_ (a' := ?_) ?_ ?_
      rotate_left
      · show Act.put _ (some 2) _ = _
        simp only [Act.put, List.setIfInBounds_toArray, List.set_cons_zero, List.set_cons_succ, i64_w, i32_w]
        rfl
      refine two_ (i := 2) (j := 3) (Ni := some 8) (Nj := some 9) #[true, true, true, false, false, false, true, false] #[true, true, false, true, false, false, true, false] rfl rfl rfl rfl (by kernel_rfl) (by decide) (by decide) (fun K hK => ?_) (fun K hK => ?_)
      · skip
        refine goes_ Try.func18 (by kernel_rfl) rfl #[.agg #[.int .i64 2, .int .i64 0]] (by rfl) rfl rfl (by simp only [List.map_toArray, List.map_cons, List.map_nil]; rfl) ?_
        with_reducible refine (start0 2 0 _).mono ?_
        rintro e w3 ⟨A3, c3, rfl, hb3⟩
        refine ⟨_, rfl, ?_⟩
        replace HB := Aside0.mk (below_then HB.out HB.out.size hb3)
        replace BK := Aside0.mk (cells_below BK.out hb3)
        try replace HL := Aside0.mk (Kd.C_below HL.out hb3)
        try replace hbox := Aside0.mk (cells_below hbox.out hb3)
        refine hK.out _ _ ⟨(pw_cell_below hb3 hHeld.1), (pw_cell_below hb3 hHeld.2)⟩ (fun hHeld => ?_)
        clear hK K
        refine norm_ (a' := ?_) ?_ ?_
        rotate_left
        · show Act.put _ (some 8) _ = _
          simp only [Act.put, List.setIfInBounds_toArray, List.set_cons_zero, List.set_cons_succ, i64_w, i32_w]
          rfl
        refine one_ (i := 3) (N := some 9) #[true, true, true, true, false, false, true, false] rfl rfl (by kernel_rfl) (by decide) (fun K hK => ?_)
        refine lit1_step (Kd.int .i64) 2 (by rfl) (N := 9) (by rfl) (x := 3) (v := .int .i64 3) ?hr (Reps.one (show Kd.M (Kd.int .i64) _ _ _ 3 [.int .i64 3] from rfl) (Reps.none _ _)) ?_
        case hr => first | (go_simp; done) | (go_simp; rfl)
        intro A9 c9 w9 hC9 hc9 hb9
        replace HB := Aside0.mk (below_then HB.out HB.out.size hb9)
        replace BK := Aside0.mk (cells_below BK.out hb9)
        replace HL := Aside0.mk hC9
        try replace hbox := Aside0.mk (cells_below hbox.out hb9)
        have HLc := Aside0.mk hc9
        clear hC9 hc9
        refine hK.out _ _ ⟨(pw_cell_below hb9 hHeld.1), (pw_cell_below hb9 hHeld.2)⟩ (fun hHeld => ?_)
        clear hK K
        refine norm_ (a' := ?_) ?_ ?_
        rotate_left
        · show Act.put _ (some 9) _ = _
          simp only [Act.put, List.setIfInBounds_toArray, List.set_cons_zero, List.set_cons_succ, i64_w, i32_w]
          rfl
        refine pure_ (i := 4) (N := some 10) (v := ?_) (a' := ?_) #[true, true, true, true, true, false, true, false] rfl rfl (by kernel_rfl) (fun _ _ _ h => h) (Or.inl ⟨by rfl, ?_⟩) ?_ ?_
        rotate_left
        · intro w'
          go_simp
          with_reducible rfl
        rotate_left
        · simp only [Act.put, List.setIfInBounds_toArray, List.set_cons_zero, List.set_cons_succ, i64_w, i32_w]
          rfl
        refine one_ (i := 5) (N := some 11) #[true, true, true, true, true, true, true, false] rfl rfl (by kernel_rfl) (by decide) (fun K hK => ?_)
        refine goes_ Try.func19 (by kernel_rfl) rfl #[.agg #[.int .i64 2, .int .i64 0], .agg #[.int .u64 0, .int .i64 0, .slice A3 0 c3], .agg #[.int .i64 0, .slice none 0 0, .slice A9 1 c9], .int .u64 2] (by rfl) rfl rfl (by simp only [List.map_toArray, List.map_cons, List.map_nil]; rfl) ?_
        with_reducible refine (addNum 0 0 3 2 2 6 [] A3 A9 c3 c9 _ HL.out HLc.out aw1).mono ?_
        rintro e w5 ⟨v5, rfl, ho5, hb5⟩
        refine ⟨_, rfl, ?_⟩
        obtain ⟨A5, c5, rfl⟩ := reads0 ho5
        replace HB := Aside0.mk (below_then HB.out HB.out.size hb5)
        replace BK := Aside0.mk (cells_below BK.out hb5)
        try replace hbox := Aside0.mk (cells_below hbox.out hb5)
        clear ho5
        refine hK.out _ _ ⟨(pw_cell_below hb5 hHeld.1), (pw_cell_below hb5 hHeld.2)⟩ (fun hHeld => ?_)
        clear hK K
        refine norm_ (a' := ?_) ?_ ?_
        rotate_left
        · show Act.put _ (some 11) _ = _
          simp only [Act.put, List.setIfInBounds_toArray, List.set_cons_zero, List.set_cons_succ, i64_w, i32_w]
          rfl
        refine last_ (i := 7) (N := none) #[true, true, true, true, true, true, true, true] rfl rfl (by kernel_rfl) (by decide) (fun K hK => ?_)
        (have hq_0 := (blk_cell hbox.out 0).trans (show (#[(.int .u64 0 : Value), (.int .i64 0 : Value), (.slice none 0 0 : Value)] : Array Value)[0]? = some (.int .u64 0) from rfl); have hqf_0 := blk_frozen hbox.out 0; have hq_1 := (blk_cell hbox.out 1).trans (show (#[(.int .u64 0 : Value), (.int .i64 0 : Value), (.slice none 0 0 : Value)] : Array Value)[1]? = some (.int .i64 0) from rfl); have hqf_1 := blk_frozen hbox.out 1; have hq_2 := (blk_cell hbox.out 2).trans (show (#[(.int .u64 0 : Value), (.int .i64 0 : Value), (.slice none 0 0 : Value)] : Array Value)[2]? = some (.slice none 0 0) from rfl); have hqf_2 := blk_frozen hbox.out 2)
        refine skip_ (w1 := ?_) (by rfl) rfl ?_ ?_
        rotate_left
        · go_simp
          rfl
        refine hK.out _ _ ?_
        clear hK K
        refine done_ (by kernel_rfl) ?_
        go_wp2_with fail
        go_meet
        exact ⟨g2, _, _, rfl, rfl, ⟨blk_far (blk_far (blk_far BK.out hne _) hne _) hne _⟩, ⟨blk_set (blk_set (blk_set hbox.out 0 _) 1 _) 2 _⟩, HG2, ⟨below_set (below_set (below_set HB.out HG2.out) HG2.out) HG2.out⟩⟩
      · skip
        refine lit1_step (Kd.int .i64) 2 (by rfl) (N := 9) (by rfl) (x := 3) (v := .int .i64 3) ?hr (Reps.one (show Kd.M (Kd.int .i64) _ _ _ 3 [.int .i64 3] from rfl) (Reps.none _ _)) ?_
        case hr => first | (go_simp; done) | (go_simp; rfl)
        intro A9 c9 w9 hC9 hc9 hb9
        replace HB := Aside0.mk (below_then HB.out HB.out.size hb9)
        replace BK := Aside0.mk (cells_below BK.out hb9)
        replace HL := Aside0.mk hC9
        try replace hbox := Aside0.mk (cells_below hbox.out hb9)
        have HLc := Aside0.mk hc9
        clear hC9 hc9
        refine hK.out _ _ ⟨(pw_cell_below hb9 hHeld.1), (pw_cell_below hb9 hHeld.2)⟩ (fun hHeld => ?_)
        clear hK K
        refine norm_ (a' := ?_) ?_ ?_
        rotate_left
        · show Act.put _ (some 9) _ = _
          simp only [Act.put, List.setIfInBounds_toArray, List.set_cons_zero, List.set_cons_succ, i64_w, i32_w]
          rfl
        refine pure_ (i := 4) (N := some 10) (v := ?_) (a' := ?_) #[true, true, false, true, true, false, true, false] rfl rfl (by kernel_rfl) (fun _ _ _ h => h) (Or.inl ⟨by rfl, ?_⟩) ?_ ?_
        rotate_left
        · intro w'
          go_simp
          with_reducible rfl
        rotate_left
        · simp only [Act.put, List.setIfInBounds_toArray, List.set_cons_zero, List.set_cons_succ, i64_w, i32_w]
          rfl
        refine one_ (i := 2) (N := some 8) #[true, true, true, true, true, false, true, false] rfl rfl (by kernel_rfl) (by decide) (fun K hK => ?_)
        refine goes_ Try.func18 (by kernel_rfl) rfl #[.agg #[.int .i64 2, .int .i64 0]] (by rfl) rfl rfl (by simp only [List.map_toArray, List.map_cons, List.map_nil]; rfl) ?_
        with_reducible refine (start0 2 0 _).mono ?_
        rintro e w3 ⟨A3, c3, rfl, hb3⟩
        refine ⟨_, rfl, ?_⟩
        replace HB := Aside0.mk (below_then HB.out HB.out.size hb3)
        replace BK := Aside0.mk (cells_below BK.out hb3)
        try replace HL := Aside0.mk (Kd.C_below HL.out hb3)
        try replace hbox := Aside0.mk (cells_below hbox.out hb3)
        refine hK.out _ _ ⟨(pw_cell_below hb3 hHeld.1), (pw_cell_below hb3 hHeld.2)⟩ (fun hHeld => ?_)
        clear hK K
        refine norm_ (a' := ?_) ?_ ?_
        rotate_left
        · show Act.put _ (some 8) _ = _
          simp only [Act.put, List.setIfInBounds_toArray, List.set_cons_zero, List.set_cons_succ, i64_w, i32_w]
          rfl
        refine one_ (i := 5) (N := some 11) #[true, true, true, true, true, true, true, false] rfl rfl (by kernel_rfl) (by decide) (fun K hK => ?_)
        refine goes_ Try.func19 (by kernel_rfl) rfl #[.agg #[.int .i64 2, .int .i64 0], .agg #[.int .u64 0, .int .i64 0, .slice A3 0 c3], .agg #[.int .i64 0, .slice none 0 0, .slice A9 1 c9], .int .u64 2] (by rfl) rfl rfl (by simp only [List.map_toArray, List.map_cons, List.map_nil]; rfl) ?_
        with_reducible refine (addNum 0 0 3 2 2 6 [] A3 A9 c3 c9 _ HL.out HLc.out aw1).mono ?_
        rintro e w5 ⟨v5, rfl, ho5, hb5⟩
        refine ⟨_, rfl, ?_⟩
        obtain ⟨A5, c5, rfl⟩ := reads0 ho5
        replace HB := Aside0.mk (below_then HB.out HB.out.size hb5)
        replace BK := Aside0.mk (cells_below BK.out hb5)
        try replace hbox := Aside0.mk (cells_below hbox.out hb5)
        clear ho5
        refine hK.out _ _ ⟨(pw_cell_below hb5 hHeld.1), (pw_cell_below hb5 hHeld.2)⟩ (fun hHeld => ?_)
        clear hK K
        refine norm_ (a' := ?_) ?_ ?_
        rotate_left
        · show Act.put _ (some 11) _ = _
          simp only [Act.put, List.setIfInBounds_toArray, List.set_cons_zero, List.set_cons_succ, i64_w, i32_w]
          rfl
        refine last_ (i := 7) (N := none) #[true, true, true, true, true, true, true, true] rfl rfl (by kernel_rfl) (by decide) (fun K hK => ?_)
        (have hq_0 := (blk_cell hbox.out 0).trans (show (#[(.int .u64 0 : Value), (.int .i64 0 : Value), (.slice none 0 0 : Value)] : Array Value)[0]? = some (.int .u64 0) from rfl); have hqf_0 := blk_frozen hbox.out 0; have hq_1 := (blk_cell hbox.out 1).trans (show (#[(.int .u64 0 : Value), (.int .i64 0 : Value), (.slice none 0 0 : Value)] : Array Value)[1]? = some (.int .i64 0) from rfl); have hqf_1 := blk_frozen hbox.out 1; have hq_2 := (blk_cell hbox.out 2).trans (show (#[(.int .u64 0 : Value), (.int .i64 0 : Value), (.slice none 0 0 : Value)] : Array Value)[2]? = some (.slice none 0 0) from rfl); have hqf_2 := blk_frozen hbox.out 2)
        refine skip_ (w1 := ?_) (by rfl) rfl ?_ ?_
        rotate_left
        · go_simp
          rfl
        refine hK.out _ _ ?_
        clear hK K
        refine done_ (by kernel_rfl) ?_
        go_wp2_with fail
        go_meet
        exact ⟨g2, _, _, rfl, rfl, ⟨blk_far (blk_far (blk_far BK.out hne _) hne _) hne _⟩, ⟨blk_set (blk_set (blk_set hbox.out 0 _) 1 _) 2 _⟩, HG2, ⟨below_set (below_set (below_set HB.out HG2.out) HG2.out) HG2.out⟩⟩
  case rest =>
    obtain ⟨g2, A2, c2, rfl, rfl, BK1, BK2, HG2, HB⟩ := hcut
    (have hq1_0 := (blk_cell BK1.out 0).trans (show (#[(.int .i64 2 : Value), (.int .i64 0 : Value)] : Array Value)[0]? = some (.int .i64 2) from rfl); have hqf1_0 := blk_frozen BK1.out 0; have hq1_1 := (blk_cell BK1.out 1).trans (show (#[(.int .i64 2 : Value), (.int .i64 0 : Value)] : Array Value)[1]? = some (.int .i64 0) from rfl); have hqf1_1 := blk_frozen BK1.out 1)
    (have hq2_0 := (blk_cell BK2.out 0).trans (show (#[(.int .u64 2 : Value), (.int .i64 6 : Value), (.slice A2 0 c2 : Value)] : Array Value)[0]? = some (.int .u64 2) from rfl); have hqf2_0 := blk_frozen BK2.out 0; have hq2_1 := (blk_cell BK2.out 1).trans (show (#[(.int .u64 2 : Value), (.int .i64 6 : Value), (.slice A2 0 c2 : Value)] : Array Value)[1]? = some (.int .i64 6) from rfl); have hqf2_1 := blk_frozen BK2.out 1; have hq2_2 := (blk_cell BK2.out 2).trans (show (#[(.int .u64 2 : Value), (.int .i64 6 : Value), (.slice A2 0 c2 : Value)] : Array Value)[2]? = some (.slice A2 0 c2) from rfl); have hqf2_2 := blk_frozen BK2.out 2)
    go_wp2_with (first
      | ((with_reducible refine gate_dst (N := 14) rfl ?_); refine lit1_event (Kd.int .i64) 2 (by rfl) (N := 14) (by rfl) (x := -1) (v := .int .i64 (-1)) ?hr (Reps.one (show Kd.M (Kd.int .i64) _ _ _ (-1) [.int .i64 (-1)] from rfl) (Reps.none _ _)) ?_; (case hr => first | (go_simp; done) | (go_simp; rfl)); intro A9 c9 w9 hC9 hc9 hb9; replace BK1 := Aside0.mk (cells_below BK1.out hb9); replace BK2 := Aside0.mk (cells_below BK2.out hb9); replace HB := Aside0.mk (below_then HB.out HB.out.size hb9); have HL := Aside0.mk hC9; have HLc := Aside0.mk hc9; clear hC9 hc9 hb9)
      | (go_at_call 19; refine (addNum 2 6 (-1) 1 3 5 [] A2 A9 c2 c9 _ HL.out HLc.out aw2).mono ?_; rintro e w5 ⟨v5, rfl, ho5, hb5⟩; obtain ⟨A5, c5, rfl⟩ := reads0 ho5; replace BK1 := Aside0.mk (cells_below BK1.out hb5); replace BK2 := Aside0.mk (cells_below BK2.out hb5); replace HB := Aside0.mk (below_then HB.out HB.out.size hb5); (have hq2_0 := (blk_cell BK2.out 0).trans (show (#[(.int .u64 2 : Value), (.int .i64 6 : Value), (.slice A2 0 c2 : Value)] : Array Value)[0]? = some (.int .u64 2) from rfl); have hqf2_0 := blk_frozen BK2.out 0; have hq2_1 := (blk_cell BK2.out 1).trans (show (#[(.int .u64 2 : Value), (.int .i64 6 : Value), (.slice A2 0 c2 : Value)] : Array Value)[1]? = some (.int .i64 6) from rfl); have hqf2_1 := blk_frozen BK2.out 1; have hq2_2 := (blk_cell BK2.out 2).trans (show (#[(.int .u64 2 : Value), (.int .i64 6 : Value), (.slice A2 0 c2 : Value)] : Array Value)[2]? = some (.slice A2 0 c2) from rfl); have hqf2_2 := blk_frozen BK2.out 2); clear ho5 hb5)
      | fail)
    have hn12 := blk_ne BK1.out BK2.out (by decide)
    have e0 : ((((w5.setCell ⟨g2, 0, none⟩ (.int .u64 3)).setCell ⟨g2, 1, none⟩ (.int .i64 5)).setCell ⟨g2, 2, none⟩ (.slice A5 0 c5))).heap.size = w5.heap.size := by simp
    have hba := below_alloc (Below.refl _ (((w5.setCell ⟨g2, 0, none⟩ (.int .u64 3)).setCell ⟨g2, 1, none⟩ (.int .i64 5)).setCell ⟨g2, 2, none⟩ (.slice A5 0 c5))) (.cells #[.int .i64 5, .int .i64 0] 23)
    have BK2n := Aside0.mk (blk_below (blk_set (blk_set (blk_set BK2.out 0 (.int .u64 3)) 1 (.int .i64 5)) 2 (.slice A5 0 c5)) hba)
    have BK1n := Aside0.mk (blk_below (blk_far (p := ⟨g2, 2, none⟩) (blk_far (p := ⟨g2, 1, none⟩) (blk_far (p := ⟨g2, 0, none⟩) BK1.out hn12 (.int .u64 3)) hn12 (.int .i64 5)) hn12 (.slice A5 0 c5)) hba)
    have BK3n := Aside0.mk (heap_alloc_new (((w5.setCell ⟨g2, 0, none⟩ (.int .u64 3)).setCell ⟨g2, 1, none⟩ (.int .i64 5)).setCell ⟨g2, 2, none⟩ (.slice A5 0 c5)) (.cells #[.int .i64 5, .int .i64 0] 23))
    have HBn := Aside0.mk (below_alloc' (below_set (j := 2) (v := .slice A5 0 c5) (below_set (j := 1) (v := .int .i64 5) (below_set (j := 0) (v := .int .u64 3) HB.out HG2.out) HG2.out) HG2.out) (.cells #[.int .i64 5, .int .i64 0] 23))
    rw [e0] at BK3n
    have HG3 := Aside0.mk (show w.heap.size ≤ w5.heap.size from HB.out.size)
    clear hba e0 BK1 BK2 HB
    obtain ⟨g3, hg3⟩ : ∃ g3, w5.heap.size = g3 := ⟨_, rfl⟩
    rw [hg3] at BK3n HG3 ⊢
    clear hg3
    generalize ((((w5.setCell ⟨g2, 0, none⟩ (.int .u64 3)).setCell ⟨g2, 1, none⟩ (.int .i64 5)).setCell ⟨g2, 2, none⟩ (.slice A5 0 c5))).alloc (.cells #[.int .i64 5, .int .i64 0] 23) = wb at *
    have c0 : wb.cell? ⟨g3, 0, none⟩ = some (.int .i64 5) := (blk_cell BK3n.out 0).trans rfl
    have c1 : wb.cell? ⟨g3, 1, none⟩ = some (.int .i64 0) := (blk_cell BK3n.out 1).trans rfl
    have HB := Aside0.mk (below_drew HBn.out)
    have BK1 := Aside0.mk (blk_drew BK1n.out)
    have BK2 := Aside0.mk (blk_drew BK2n.out)
    have BK3 := Aside0.mk (blk_drew BK3n.out)
    have HT := Aside0.mk (show ∀ q, q ∈ 9 :: Kd.string.E → q ≠ 33 by decide)
    clear HL HLc BK1n BK2n BK3n HBn
    go_cut [4] (fun s4 wx => ∃ (g4 : Nat) (A4 : Option Addr) (c4 : Nat), s4 = .pointer (some ⟨g4, 0, none⟩) ∧ Aside0 (wx.heap[g1]? = some (.cells #[.int .i64 2, .int .i64 0] 23 (0, 0))) ∧ Aside0 (wx.heap[g2]? = some (.cells #[.int .u64 3, .int .i64 5, .slice A5 0 c5] 33 (0, 0))) ∧ Aside0 (wx.heap[g3]? = some (.cells #[.int .i64 5, .int .i64 0] 23 (0, 0))) ∧ Aside0 (wx.heap[g4]? = some (.cells #[.int .u64 1, .int .i64 0, .slice A4 1 c4] 33 (0, 0))) ∧ Aside0 (Kd.C Kd.string wx A4 1 [strB]) ∧ Aside0 (1 ≤ c4) ∧ Aside0 (g2 ≠ g4) ∧ Aside0 (w.heap.size ≤ g4) ∧ Aside0 (Below w.heap.size w wx))
    case first =>
      have HL := Aside0.mk trivial
      refine start_ (n := 8) (S := fun w' => w'.cell? ⟨g3, 0, none⟩ = some (.int .i64 5) ∧ w'.cell? ⟨g3, 1, none⟩ = some (.int .i64 0)) (ds := [7]) #[false, false, false, false, false, false, false, false] (by kernel_rfl) rfl rfl ⟨c0, c1⟩ (fun hHeld => ?_)
      refine take_ (i := 0) (N := some 18) (v := ?_) (a' := ?_) #[true, false, false, false, false, false, false, false] rfl rfl (by kernel_rfl) (fun _ _ _ h => h) (Or.inl ⟨by rfl, ?_⟩) hHeld ?_ ?_
      rotate_left
      · rintro w' ⟨s0, s1⟩
        go_simp
        with_reducible rfl
      rotate_left
      · simp only [Act.put, List.setIfInBounds_toArray, List.set_cons_zero, List.set_cons_succ, i64_w, i32_w]
        rfl
      refine take_ (i := 1) (N := some 19) (v := ?_) (a' := ?_) #[true, true, false, false, false, false, false, false] rfl rfl (by kernel_rfl) (fun _ _ _ h => h) (Or.inl ⟨by rfl, ?_⟩) hHeld ?_ ?_
      rotate_left
      · rintro w' ⟨s0, s1⟩
        go_simp
        with_reducible rfl
      rotate_left
      · simp only [Act.put, List.setIfInBounds_toArray, List.set_cons_zero, List.set_cons_succ, i64_w, i32_w]
        rfl
      refine three_ (i := 2) (j := 3) (k := 6) (Ni := some 20) (Nj := some 21) (Nk := some 4) #[true, true, true, false, false, false, false, false] #[true, true, false, true, false, false, false, false] #[true, true, false, false, false, false, true, false] rfl rfl rfl rfl rfl rfl (by kernel_rfl) (by decide) (by decide) (by decide) (fun K hK => ?_) (fun K hK => ?_) (fun K hK => ?_)
      · skip
        refine goes_ Try.func18 (by kernel_rfl) rfl #[.agg #[.int .i64 5, .int .i64 0]] (by rfl) rfl rfl (by simp only [List.map_toArray, List.map_cons, List.map_nil]; rfl) ?_
        with_reducible refine (start0 5 0 _).mono ?_
        rintro e w3 ⟨A3, c3, rfl, hb3⟩
        refine ⟨_, rfl, ?_⟩
        replace HB := Aside0.mk (below_then HB.out HB.out.size hb3)
        replace BK1 := Aside0.mk (cells_below BK1.out hb3)
        replace BK2 := Aside0.mk (cells_below BK2.out hb3)
        replace BK3 := Aside0.mk (cells_below BK3.out hb3)
        try replace HL := Aside0.mk (Kd.C_below HL.out hb3)
        try replace hbox := Aside0.mk (cells_below hbox.out hb3)
        refine hK.out _ _ ⟨(pw_cell_below hb3 hHeld.1), (pw_cell_below hb3 hHeld.2)⟩ (fun hHeld => ?_)
        clear hK K
        refine norm_ (a' := ?_) ?_ ?_
        rotate_left
        · show Act.put _ (some 20) _ = _
          simp only [Act.put, List.setIfInBounds_toArray, List.set_cons_zero, List.set_cons_succ, i64_w, i32_w]
          rfl
        refine two_ (i := 3) (j := 6) (Ni := some 21) (Nj := some 4) #[true, true, true, true, false, false, false, false] #[true, true, true, false, false, false, true, false] rfl rfl rfl rfl (by kernel_rfl) (by decide) (by decide) (fun K hK => ?_) (fun K hK => ?_)
        · skip
          refine lit1_step Kd.string 9 (by rfl) (N := 21) (by rfl) (x := strB) (v := .string strB) ?hr (Reps.one (show Kd.M Kd.string _ _ _ strB [.string strB] from rfl) (Reps.none _ _)) ?_
          case hr => first | (go_simp; done) | (go_simp; rfl)
          intro A9 c9 w9 hC9 hc9 hb9
          replace HB := Aside0.mk (below_then HB.out HB.out.size hb9)
          replace BK1 := Aside0.mk (cells_below BK1.out hb9)
          replace BK2 := Aside0.mk (cells_below BK2.out hb9)
          replace BK3 := Aside0.mk (cells_below BK3.out hb9)
          replace HL := Aside0.mk hC9
          try replace hbox := Aside0.mk (cells_below hbox.out hb9)
          have HLc := Aside0.mk hc9
          clear hC9 hc9
          refine hK.out _ _ ⟨(pw_cell_below hb9 hHeld.1), (pw_cell_below hb9 hHeld.2)⟩ (fun hHeld => ?_)
          clear hK K
          refine norm_ (a' := ?_) ?_ ?_
          rotate_left
          · show Act.put _ (some 21) _ = _
            simp only [Act.put, List.setIfInBounds_toArray, List.set_cons_zero, List.set_cons_succ, i64_w, i32_w]
            rfl
          refine pure_ (i := 4) (N := some 22) (v := ?_) (a' := ?_) #[true, true, true, true, true, false, false, false] rfl rfl (by kernel_rfl) (fun _ _ _ h => h) (Or.inl ⟨by rfl, ?_⟩) ?_ ?_
          rotate_left
          · intro w'
            go_simp
            with_reducible rfl
          rotate_left
          · simp only [Act.put, List.setIfInBounds_toArray, List.set_cons_zero, List.set_cons_succ, i64_w, i32_w]
            rfl
          refine two_ (i := 5) (j := 6) (Ni := some 23) (Nj := some 4) #[true, true, true, true, true, true, false, false] #[true, true, true, true, true, false, true, false] rfl rfl rfl rfl (by kernel_rfl) (by decide) (by decide) (fun K hK => ?_) (fun K hK => ?_)
          · skip
            refine goes_ Try.func19 (by kernel_rfl) rfl #[.agg #[.int .i64 5, .int .i64 0], .agg #[.int .u64 0, .int .i64 0, .slice A3 0 c3], .agg #[.int .i64 0, .slice A9 1 c9, .slice none 0 0], .int .u64 1] (by rfl) rfl rfl (by simp only [List.map_toArray, List.map_cons, List.map_nil]; rfl) ?_
            with_reducible refine (addText strB 1 1 0 [strB] A3 A9 c3 c9 _ HL.out HLc.out aw3).mono ?_
            rintro e w5 ⟨v5, rfl, ho5, hb5⟩
            refine ⟨_, rfl, ?_⟩
            obtain ⟨A5, c5, rfl, hc5, hC5⟩ := reads1 ho5
            replace HB := Aside0.mk (below_then HB.out HB.out.size hb5)
            replace BK1 := Aside0.mk (cells_below BK1.out hb5)
            replace BK2 := Aside0.mk (cells_below BK2.out hb5)
            replace BK3 := Aside0.mk (cells_below BK3.out hb5)
            try replace hbox := Aside0.mk (cells_below hbox.out hb5)
            have HR5 := Aside0.mk ho5
            have HRc := Aside0.mk hc5
            clear ho5 hc5 hC5
            refine hK.out _ _ ⟨(pw_cell_below hb5 hHeld.1), (pw_cell_below hb5 hHeld.2)⟩ (fun hHeld => ?_)
            clear hK K
            refine norm_ (a' := ?_) ?_ ?_
            rotate_left
            · show Act.put _ (some 23) _ = _
              simp only [Act.put, List.setIfInBounds_toArray, List.set_cons_zero, List.set_cons_succ, i64_w, i32_w]
              rfl
            refine one_ (i := 6) (N := some 4) #[true, true, true, true, true, true, true, false] rfl rfl (by kernel_rfl) (by decide) (fun K hK => ?_)
            refine box_step (by rfl) (N := 4) (by rfl) (cs := #[.int .u64 0, .int .i64 0, .slice none 0 0]) (t := 33) ?hr ?_
            case hr => first | (go_simp; done) | (go_simp; rfl)
            intro g4 hg w6 hbox hb6
            have HG4 := Aside0.mk (show w.heap.size ≤ g4 by rw [hg]; exact HB.out.size)
            have hn14 : g1 ≠ g4 := (by have h1 := blk_lt BK1.out; rw [hg]; omega)
            have hn24 : g2 ≠ g4 := (by have h1 := blk_lt BK2.out; rw [hg]; omega)
            have hn34 : g3 ≠ g4 := (by have h1 := blk_lt BK3.out; rw [hg]; omega)
            replace HB := Aside0.mk (below_then HB.out HB.out.size hb6)
            replace BK1 := Aside0.mk (cells_below BK1.out hb6)
            replace BK2 := Aside0.mk (cells_below BK2.out hb6)
            replace BK3 := Aside0.mk (cells_below BK3.out hb6)
            try replace HL := Aside0.mk (Kd.C_below HL.out hb6)
            try replace HR5 := Aside0.mk (Kd.R_below HR5.out hb6)
            replace hbox := Aside0.mk hbox
            clear hg
            refine hK.out _ _ ⟨(pw_cell_below hb6 hHeld.1), (pw_cell_below hb6 hHeld.2)⟩ (fun hHeld => ?_)
            clear hK K
            refine norm_ (a' := ?_) ?_ ?_
            rotate_left
            · show Act.put _ (some 4) _ = _
              simp only [Act.put, List.setIfInBounds_toArray, List.set_cons_zero, List.set_cons_succ, i64_w, i32_w]
              rfl
            refine last_ (i := 7) (N := none) #[true, true, true, true, true, true, true, true] rfl rfl (by kernel_rfl) (by decide) (fun K hK => ?_)
            (have hq_0 := (blk_cell hbox.out 0).trans (show (#[(.int .u64 0 : Value), (.int .i64 0 : Value), (.slice none 0 0 : Value)] : Array Value)[0]? = some (.int .u64 0) from rfl); have hqf_0 := blk_frozen hbox.out 0; have hq_1 := (blk_cell hbox.out 1).trans (show (#[(.int .u64 0 : Value), (.int .i64 0 : Value), (.slice none 0 0 : Value)] : Array Value)[1]? = some (.int .i64 0) from rfl); have hqf_1 := blk_frozen hbox.out 1; have hq_2 := (blk_cell hbox.out 2).trans (show (#[(.int .u64 0 : Value), (.int .i64 0 : Value), (.slice none 0 0 : Value)] : Array Value)[2]? = some (.slice none 0 0) from rfl); have hqf_2 := blk_frozen hbox.out 2)
            refine skip_ (w1 := ?_) (by rfl) rfl ?_ ?_
            rotate_left
            · go_simp
              rfl
            refine hK.out _ _ ?_
            clear hK K
            refine done_ (by kernel_rfl) ?_
            go_wp2_with fail
            go_meet
            have b1 := blk_set hbox.out 0 (.int .u64 1)
            have b2 := blk_set b1 1 (.int .i64 0)
            have b3 := blk_set b2 2 (.slice A5 1 c5)
            have r1 := Kd.R_set (Kd.R_set (Kd.R_set HR5.out hbox.out HT.out 0 (.int .u64 1)) b1 HT.out 1 (.int .i64 0)) b2 HT.out 2 (.slice A5 1 c5)
            exact ⟨g4, A5, c5, rfl, ⟨blk_far (blk_far (blk_far BK1.out hn14 _) hn14 _) hn14 _⟩, ⟨blk_far (blk_far (blk_far BK2.out hn24 _) hn24 _) hn24 _⟩, ⟨blk_far (blk_far (blk_far BK3.out hn34 _) hn34 _) hn34 _⟩, ⟨b3⟩, ⟨(reads1' r1).2⟩, HRc, ⟨hn24⟩, HG4, ⟨below_set (below_set (below_set HB.out HG4.out) HG4.out) HG4.out⟩⟩
          · skip
            refine box_step (by rfl) (N := 4) (by rfl) (cs := #[.int .u64 0, .int .i64 0, .slice none 0 0]) (t := 33) ?hr ?_
            case hr => first | (go_simp; done) | (go_simp; rfl)
            intro g4 hg w6 hbox hb6
            have HG4 := Aside0.mk (show w.heap.size ≤ g4 by rw [hg]; exact HB.out.size)
            have hn14 : g1 ≠ g4 := (by have h1 := blk_lt BK1.out; rw [hg]; omega)
            have hn24 : g2 ≠ g4 := (by have h1 := blk_lt BK2.out; rw [hg]; omega)
            have hn34 : g3 ≠ g4 := (by have h1 := blk_lt BK3.out; rw [hg]; omega)
            replace HB := Aside0.mk (below_then HB.out HB.out.size hb6)
            replace BK1 := Aside0.mk (cells_below BK1.out hb6)
            replace BK2 := Aside0.mk (cells_below BK2.out hb6)
            replace BK3 := Aside0.mk (cells_below BK3.out hb6)
            try replace HL := Aside0.mk (Kd.C_below HL.out hb6)
            try replace HR5 := Aside0.mk (Kd.R_below HR5.out hb6)
            replace hbox := Aside0.mk hbox
            clear hg
            refine hK.out _ _ ⟨(pw_cell_below hb6 hHeld.1), (pw_cell_below hb6 hHeld.2)⟩ (fun hHeld => ?_)
            clear hK K
            refine norm_ (a' := ?_) ?_ ?_
            rotate_left
            · show Act.put _ (some 4) _ = _
              simp only [Act.put, List.setIfInBounds_toArray, List.set_cons_zero, List.set_cons_succ, i64_w, i32_w]
              rfl
            refine one_ (i := 5) (N := some 23) #[true, true, true, true, true, true, true, false] rfl rfl (by kernel_rfl) (by decide) (fun K hK => ?_)
            refine goes_ Try.func19 (by kernel_rfl) rfl #[.agg #[.int .i64 5, .int .i64 0], .agg #[.int .u64 0, .int .i64 0, .slice A3 0 c3], .agg #[.int .i64 0, .slice A9 1 c9, .slice none 0 0], .int .u64 1] (by rfl) rfl rfl (by simp only [List.map_toArray, List.map_cons, List.map_nil]; rfl) ?_
            with_reducible refine (addText strB 1 1 0 [strB] A3 A9 c3 c9 _ HL.out HLc.out aw3).mono ?_
            rintro e w5 ⟨v5, rfl, ho5, hb5⟩
            refine ⟨_, rfl, ?_⟩
            obtain ⟨A5, c5, rfl, hc5, hC5⟩ := reads1 ho5
            replace HB := Aside0.mk (below_then HB.out HB.out.size hb5)
            replace BK1 := Aside0.mk (cells_below BK1.out hb5)
            replace BK2 := Aside0.mk (cells_below BK2.out hb5)
            replace BK3 := Aside0.mk (cells_below BK3.out hb5)
            try replace hbox := Aside0.mk (cells_below hbox.out hb5)
            have HR5 := Aside0.mk ho5
            have HRc := Aside0.mk hc5
            clear ho5 hc5 hC5
            refine hK.out _ _ ⟨(pw_cell_below hb5 hHeld.1), (pw_cell_below hb5 hHeld.2)⟩ (fun hHeld => ?_)
            clear hK K
            refine norm_ (a' := ?_) ?_ ?_
            rotate_left
            · show Act.put _ (some 23) _ = _
              simp only [Act.put, List.setIfInBounds_toArray, List.set_cons_zero, List.set_cons_succ, i64_w, i32_w]
              rfl
            refine last_ (i := 7) (N := none) #[true, true, true, true, true, true, true, true] rfl rfl (by kernel_rfl) (by decide) (fun K hK => ?_)
            (have hq_0 := (blk_cell hbox.out 0).trans (show (#[(.int .u64 0 : Value), (.int .i64 0 : Value), (.slice none 0 0 : Value)] : Array Value)[0]? = some (.int .u64 0) from rfl); have hqf_0 := blk_frozen hbox.out 0; have hq_1 := (blk_cell hbox.out 1).trans (show (#[(.int .u64 0 : Value), (.int .i64 0 : Value), (.slice none 0 0 : Value)] : Array Value)[1]? = some (.int .i64 0) from rfl); have hqf_1 := blk_frozen hbox.out 1; have hq_2 := (blk_cell hbox.out 2).trans (show (#[(.int .u64 0 : Value), (.int .i64 0 : Value), (.slice none 0 0 : Value)] : Array Value)[2]? = some (.slice none 0 0) from rfl); have hqf_2 := blk_frozen hbox.out 2)
            refine skip_ (w1 := ?_) (by rfl) rfl ?_ ?_
            rotate_left
            · go_simp
              rfl
            refine hK.out _ _ ?_
            clear hK K
            refine done_ (by kernel_rfl) ?_
            go_wp2_with fail
            go_meet
            have b1 := blk_set hbox.out 0 (.int .u64 1)
            have b2 := blk_set b1 1 (.int .i64 0)
            have b3 := blk_set b2 2 (.slice A5 1 c5)
            have r1 := Kd.R_set (Kd.R_set (Kd.R_set HR5.out hbox.out HT.out 0 (.int .u64 1)) b1 HT.out 1 (.int .i64 0)) b2 HT.out 2 (.slice A5 1 c5)
            exact ⟨g4, A5, c5, rfl, ⟨blk_far (blk_far (blk_far BK1.out hn14 _) hn14 _) hn14 _⟩, ⟨blk_far (blk_far (blk_far BK2.out hn24 _) hn24 _) hn24 _⟩, ⟨blk_far (blk_far (blk_far BK3.out hn34 _) hn34 _) hn34 _⟩, ⟨b3⟩, ⟨(reads1' r1).2⟩, HRc, ⟨hn24⟩, HG4, ⟨below_set (below_set (below_set HB.out HG4.out) HG4.out) HG4.out⟩⟩
        · skip
          refine box_step (by rfl) (N := 4) (by rfl) (cs := #[.int .u64 0, .int .i64 0, .slice none 0 0]) (t := 33) ?hr ?_
          case hr => first | (go_simp; done) | (go_simp; rfl)
          intro g4 hg w6 hbox hb6
          have HG4 := Aside0.mk (show w.heap.size ≤ g4 by rw [hg]; exact HB.out.size)
          have hn14 : g1 ≠ g4 := (by have h1 := blk_lt BK1.out; rw [hg]; omega)
          have hn24 : g2 ≠ g4 := (by have h1 := blk_lt BK2.out; rw [hg]; omega)
          have hn34 : g3 ≠ g4 := (by have h1 := blk_lt BK3.out; rw [hg]; omega)
          replace HB := Aside0.mk (below_then HB.out HB.out.size hb6)
          replace BK1 := Aside0.mk (cells_below BK1.out hb6)
          replace BK2 := Aside0.mk (cells_below BK2.out hb6)
          replace BK3 := Aside0.mk (cells_below BK3.out hb6)
          try replace HL := Aside0.mk (Kd.C_below HL.out hb6)
          try replace HR5 := Aside0.mk (Kd.R_below HR5.out hb6)
          replace hbox := Aside0.mk hbox
          clear hg
          refine hK.out _ _ ⟨(pw_cell_below hb6 hHeld.1), (pw_cell_below hb6 hHeld.2)⟩ (fun hHeld => ?_)
          clear hK K
          refine norm_ (a' := ?_) ?_ ?_
          rotate_left
          · show Act.put _ (some 4) _ = _
            simp only [Act.put, List.setIfInBounds_toArray, List.set_cons_zero, List.set_cons_succ, i64_w, i32_w]
            rfl
          refine one_ (i := 3) (N := some 21) #[true, true, true, true, false, false, true, false] rfl rfl (by kernel_rfl) (by decide) (fun K hK => ?_)
          refine lit1_step Kd.string 9 (by rfl) (N := 21) (by rfl) (x := strB) (v := .string strB) ?hr (Reps.one (show Kd.M Kd.string _ _ _ strB [.string strB] from rfl) (Reps.none _ _)) ?_
          case hr => first | (go_simp; done) | (go_simp; rfl)
          intro A9 c9 w9 hC9 hc9 hb9
          replace HB := Aside0.mk (below_then HB.out HB.out.size hb9)
          replace BK1 := Aside0.mk (cells_below BK1.out hb9)
          replace BK2 := Aside0.mk (cells_below BK2.out hb9)
          replace BK3 := Aside0.mk (cells_below BK3.out hb9)
          replace HL := Aside0.mk hC9
          try replace hbox := Aside0.mk (cells_below hbox.out hb9)
          have HLc := Aside0.mk hc9
          clear hC9 hc9
          refine hK.out _ _ ⟨(pw_cell_below hb9 hHeld.1), (pw_cell_below hb9 hHeld.2)⟩ (fun hHeld => ?_)
          clear hK K
          refine norm_ (a' := ?_) ?_ ?_
          rotate_left
          · show Act.put _ (some 21) _ = _
            simp only [Act.put, List.setIfInBounds_toArray, List.set_cons_zero, List.set_cons_succ, i64_w, i32_w]
            rfl
          refine pure_ (i := 4) (N := some 22) (v := ?_) (a' := ?_) #[true, true, true, true, true, false, true, false] rfl rfl (by kernel_rfl) (fun _ _ _ h => h) (Or.inl ⟨by rfl, ?_⟩) ?_ ?_
          rotate_left
          · intro w'
            go_simp
            with_reducible rfl
          rotate_left
          · simp only [Act.put, List.setIfInBounds_toArray, List.set_cons_zero, List.set_cons_succ, i64_w, i32_w]
            rfl
          refine one_ (i := 5) (N := some 23) #[true, true, true, true, true, true, true, false] rfl rfl (by kernel_rfl) (by decide) (fun K hK => ?_)
          refine goes_ Try.func19 (by kernel_rfl) rfl #[.agg #[.int .i64 5, .int .i64 0], .agg #[.int .u64 0, .int .i64 0, .slice A3 0 c3], .agg #[.int .i64 0, .slice A9 1 c9, .slice none 0 0], .int .u64 1] (by rfl) rfl rfl (by simp only [List.map_toArray, List.map_cons, List.map_nil]; rfl) ?_
          with_reducible refine (addText strB 1 1 0 [strB] A3 A9 c3 c9 _ HL.out HLc.out aw3).mono ?_
          rintro e w5 ⟨v5, rfl, ho5, hb5⟩
          refine ⟨_, rfl, ?_⟩
          obtain ⟨A5, c5, rfl, hc5, hC5⟩ := reads1 ho5
          replace HB := Aside0.mk (below_then HB.out HB.out.size hb5)
          replace BK1 := Aside0.mk (cells_below BK1.out hb5)
          replace BK2 := Aside0.mk (cells_below BK2.out hb5)
          replace BK3 := Aside0.mk (cells_below BK3.out hb5)
          try replace hbox := Aside0.mk (cells_below hbox.out hb5)
          have HR5 := Aside0.mk ho5
          have HRc := Aside0.mk hc5
          clear ho5 hc5 hC5
          refine hK.out _ _ ⟨(pw_cell_below hb5 hHeld.1), (pw_cell_below hb5 hHeld.2)⟩ (fun hHeld => ?_)
          clear hK K
          refine norm_ (a' := ?_) ?_ ?_
          rotate_left
          · show Act.put _ (some 23) _ = _
            simp only [Act.put, List.setIfInBounds_toArray, List.set_cons_zero, List.set_cons_succ, i64_w, i32_w]
            rfl
          refine last_ (i := 7) (N := none) #[true, true, true, true, true, true, true, true] rfl rfl (by kernel_rfl) (by decide) (fun K hK => ?_)
          (have hq_0 := (blk_cell hbox.out 0).trans (show (#[(.int .u64 0 : Value), (.int .i64 0 : Value), (.slice none 0 0 : Value)] : Array Value)[0]? = some (.int .u64 0) from rfl); have hqf_0 := blk_frozen hbox.out 0; have hq_1 := (blk_cell hbox.out 1).trans (show (#[(.int .u64 0 : Value), (.int .i64 0 : Value), (.slice none 0 0 : Value)] : Array Value)[1]? = some (.int .i64 0) from rfl); have hqf_1 := blk_frozen hbox.out 1; have hq_2 := (blk_cell hbox.out 2).trans (show (#[(.int .u64 0 : Value), (.int .i64 0 : Value), (.slice none 0 0 : Value)] : Array Value)[2]? = some (.slice none 0 0) from rfl); have hqf_2 := blk_frozen hbox.out 2)
          refine skip_ (w1 := ?_) (by rfl) rfl ?_ ?_
          rotate_left
          · go_simp
            rfl
          refine hK.out _ _ ?_
          clear hK K
          refine done_ (by kernel_rfl) ?_
          go_wp2_with fail
          go_meet
          have b1 := blk_set hbox.out 0 (.int .u64 1)
          have b2 := blk_set b1 1 (.int .i64 0)
          have b3 := blk_set b2 2 (.slice A5 1 c5)
          have r1 := Kd.R_set (Kd.R_set (Kd.R_set HR5.out hbox.out HT.out 0 (.int .u64 1)) b1 HT.out 1 (.int .i64 0)) b2 HT.out 2 (.slice A5 1 c5)
          exact ⟨g4, A5, c5, rfl, ⟨blk_far (blk_far (blk_far BK1.out hn14 _) hn14 _) hn14 _⟩, ⟨blk_far (blk_far (blk_far BK2.out hn24 _) hn24 _) hn24 _⟩, ⟨blk_far (blk_far (blk_far BK3.out hn34 _) hn34 _) hn34 _⟩, ⟨b3⟩, ⟨(reads1' r1).2⟩, HRc, ⟨hn24⟩, HG4, ⟨below_set (below_set (below_set HB.out HG4.out) HG4.out) HG4.out⟩⟩
      · skip
        refine lit1_step Kd.string 9 (by rfl) (N := 21) (by rfl) (x := strB) (v := .string strB) ?hr (Reps.one (show Kd.M Kd.string _ _ _ strB [.string strB] from rfl) (Reps.none _ _)) ?_
        case hr => first | (go_simp; done) | (go_simp; rfl)
        intro A9 c9 w9 hC9 hc9 hb9
        replace HB := Aside0.mk (below_then HB.out HB.out.size hb9)
        replace BK1 := Aside0.mk (cells_below BK1.out hb9)
        replace BK2 := Aside0.mk (cells_below BK2.out hb9)
        replace BK3 := Aside0.mk (cells_below BK3.out hb9)
        replace HL := Aside0.mk hC9
        try replace hbox := Aside0.mk (cells_below hbox.out hb9)
        have HLc := Aside0.mk hc9
        clear hC9 hc9
        refine hK.out _ _ ⟨(pw_cell_below hb9 hHeld.1), (pw_cell_below hb9 hHeld.2)⟩ (fun hHeld => ?_)
        clear hK K
        refine norm_ (a' := ?_) ?_ ?_
        rotate_left
        · show Act.put _ (some 21) _ = _
          simp only [Act.put, List.setIfInBounds_toArray, List.set_cons_zero, List.set_cons_succ, i64_w, i32_w]
          rfl
        refine pure_ (i := 4) (N := some 22) (v := ?_) (a' := ?_) #[true, true, false, true, true, false, false, false] rfl rfl (by kernel_rfl) (fun _ _ _ h => h) (Or.inl ⟨by rfl, ?_⟩) ?_ ?_
        rotate_left
        · intro w'
          go_simp
          with_reducible rfl
        rotate_left
        · simp only [Act.put, List.setIfInBounds_toArray, List.set_cons_zero, List.set_cons_succ, i64_w, i32_w]
          rfl
        refine two_ (i := 2) (j := 6) (Ni := some 20) (Nj := some 4) #[true, true, true, true, true, false, false, false] #[true, true, false, true, true, false, true, false] rfl rfl rfl rfl (by kernel_rfl) (by decide) (by decide) (fun K hK => ?_) (fun K hK => ?_)
        · skip
          refine goes_ Try.func18 (by kernel_rfl) rfl #[.agg #[.int .i64 5, .int .i64 0]] (by rfl) rfl rfl (by simp only [List.map_toArray, List.map_cons, List.map_nil]; rfl) ?_
          with_reducible refine (start0 5 0 _).mono ?_
          rintro e w3 ⟨A3, c3, rfl, hb3⟩
          refine ⟨_, rfl, ?_⟩
          replace HB := Aside0.mk (below_then HB.out HB.out.size hb3)
          replace BK1 := Aside0.mk (cells_below BK1.out hb3)
          replace BK2 := Aside0.mk (cells_below BK2.out hb3)
          replace BK3 := Aside0.mk (cells_below BK3.out hb3)
          try replace HL := Aside0.mk (Kd.C_below HL.out hb3)
          try replace hbox := Aside0.mk (cells_below hbox.out hb3)
          refine hK.out _ _ ⟨(pw_cell_below hb3 hHeld.1), (pw_cell_below hb3 hHeld.2)⟩ (fun hHeld => ?_)
          clear hK K
          refine norm_ (a' := ?_) ?_ ?_
          rotate_left
          · show Act.put _ (some 20) _ = _
            simp only [Act.put, List.setIfInBounds_toArray, List.set_cons_zero, List.set_cons_succ, i64_w, i32_w]
            rfl
          refine two_ (i := 5) (j := 6) (Ni := some 23) (Nj := some 4) #[true, true, true, true, true, true, false, false] #[true, true, true, true, true, false, true, false] rfl rfl rfl rfl (by kernel_rfl) (by decide) (by decide) (fun K hK => ?_) (fun K hK => ?_)
          · skip
            refine goes_ Try.func19 (by kernel_rfl) rfl #[.agg #[.int .i64 5, .int .i64 0], .agg #[.int .u64 0, .int .i64 0, .slice A3 0 c3], .agg #[.int .i64 0, .slice A9 1 c9, .slice none 0 0], .int .u64 1] (by rfl) rfl rfl (by simp only [List.map_toArray, List.map_cons, List.map_nil]; rfl) ?_
            with_reducible refine (addText strB 1 1 0 [strB] A3 A9 c3 c9 _ HL.out HLc.out aw3).mono ?_
            rintro e w5 ⟨v5, rfl, ho5, hb5⟩
            refine ⟨_, rfl, ?_⟩
            obtain ⟨A5, c5, rfl, hc5, hC5⟩ := reads1 ho5
            replace HB := Aside0.mk (below_then HB.out HB.out.size hb5)
            replace BK1 := Aside0.mk (cells_below BK1.out hb5)
            replace BK2 := Aside0.mk (cells_below BK2.out hb5)
            replace BK3 := Aside0.mk (cells_below BK3.out hb5)
            try replace hbox := Aside0.mk (cells_below hbox.out hb5)
            have HR5 := Aside0.mk ho5
            have HRc := Aside0.mk hc5
            clear ho5 hc5 hC5
            refine hK.out _ _ ⟨(pw_cell_below hb5 hHeld.1), (pw_cell_below hb5 hHeld.2)⟩ (fun hHeld => ?_)
            clear hK K
            refine norm_ (a' := ?_) ?_ ?_
            rotate_left
            · show Act.put _ (some 23) _ = _
              simp only [Act.put, List.setIfInBounds_toArray, List.set_cons_zero, List.set_cons_succ, i64_w, i32_w]
              rfl
            refine one_ (i := 6) (N := some 4) #[true, true, true, true, true, true, true, false] rfl rfl (by kernel_rfl) (by decide) (fun K hK => ?_)
            refine box_step (by rfl) (N := 4) (by rfl) (cs := #[.int .u64 0, .int .i64 0, .slice none 0 0]) (t := 33) ?hr ?_
            case hr => first | (go_simp; done) | (go_simp; rfl)
            intro g4 hg w6 hbox hb6
            have HG4 := Aside0.mk (show w.heap.size ≤ g4 by rw [hg]; exact HB.out.size)
            have hn14 : g1 ≠ g4 := (by have h1 := blk_lt BK1.out; rw [hg]; omega)
            have hn24 : g2 ≠ g4 := (by have h1 := blk_lt BK2.out; rw [hg]; omega)
            have hn34 : g3 ≠ g4 := (by have h1 := blk_lt BK3.out; rw [hg]; omega)
            replace HB := Aside0.mk (below_then HB.out HB.out.size hb6)
            replace BK1 := Aside0.mk (cells_below BK1.out hb6)
            replace BK2 := Aside0.mk (cells_below BK2.out hb6)
            replace BK3 := Aside0.mk (cells_below BK3.out hb6)
            try replace HL := Aside0.mk (Kd.C_below HL.out hb6)
            try replace HR5 := Aside0.mk (Kd.R_below HR5.out hb6)
            replace hbox := Aside0.mk hbox
            clear hg
            refine hK.out _ _ ⟨(pw_cell_below hb6 hHeld.1), (pw_cell_below hb6 hHeld.2)⟩ (fun hHeld => ?_)
            clear hK K
            refine norm_ (a' := ?_) ?_ ?_
            rotate_left
            · show Act.put _ (some 4) _ = _
              simp only [Act.put, List.setIfInBounds_toArray, List.set_cons_zero, List.set_cons_succ, i64_w, i32_w]
              rfl
            refine last_ (i := 7) (N := none) #[true, true, true, true, true, true, true, true] rfl rfl (by kernel_rfl) (by decide) (fun K hK => ?_)
            (have hq_0 := (blk_cell hbox.out 0).trans (show (#[(.int .u64 0 : Value), (.int .i64 0 : Value), (.slice none 0 0 : Value)] : Array Value)[0]? = some (.int .u64 0) from rfl); have hqf_0 := blk_frozen hbox.out 0; have hq_1 := (blk_cell hbox.out 1).trans (show (#[(.int .u64 0 : Value), (.int .i64 0 : Value), (.slice none 0 0 : Value)] : Array Value)[1]? = some (.int .i64 0) from rfl); have hqf_1 := blk_frozen hbox.out 1; have hq_2 := (blk_cell hbox.out 2).trans (show (#[(.int .u64 0 : Value), (.int .i64 0 : Value), (.slice none 0 0 : Value)] : Array Value)[2]? = some (.slice none 0 0) from rfl); have hqf_2 := blk_frozen hbox.out 2)
            refine skip_ (w1 := ?_) (by rfl) rfl ?_ ?_
            rotate_left
            · go_simp
              rfl
            refine hK.out _ _ ?_
            clear hK K
            refine done_ (by kernel_rfl) ?_
            go_wp2_with fail
            go_meet
            have b1 := blk_set hbox.out 0 (.int .u64 1)
            have b2 := blk_set b1 1 (.int .i64 0)
            have b3 := blk_set b2 2 (.slice A5 1 c5)
            have r1 := Kd.R_set (Kd.R_set (Kd.R_set HR5.out hbox.out HT.out 0 (.int .u64 1)) b1 HT.out 1 (.int .i64 0)) b2 HT.out 2 (.slice A5 1 c5)
            exact ⟨g4, A5, c5, rfl, ⟨blk_far (blk_far (blk_far BK1.out hn14 _) hn14 _) hn14 _⟩, ⟨blk_far (blk_far (blk_far BK2.out hn24 _) hn24 _) hn24 _⟩, ⟨blk_far (blk_far (blk_far BK3.out hn34 _) hn34 _) hn34 _⟩, ⟨b3⟩, ⟨(reads1' r1).2⟩, HRc, ⟨hn24⟩, HG4, ⟨below_set (below_set (below_set HB.out HG4.out) HG4.out) HG4.out⟩⟩
          · skip
            refine box_step (by rfl) (N := 4) (by rfl) (cs := #[.int .u64 0, .int .i64 0, .slice none 0 0]) (t := 33) ?hr ?_
            case hr => first | (go_simp; done) | (go_simp; rfl)
            intro g4 hg w6 hbox hb6
            have HG4 := Aside0.mk (show w.heap.size ≤ g4 by rw [hg]; exact HB.out.size)
            have hn14 : g1 ≠ g4 := (by have h1 := blk_lt BK1.out; rw [hg]; omega)
            have hn24 : g2 ≠ g4 := (by have h1 := blk_lt BK2.out; rw [hg]; omega)
            have hn34 : g3 ≠ g4 := (by have h1 := blk_lt BK3.out; rw [hg]; omega)
            replace HB := Aside0.mk (below_then HB.out HB.out.size hb6)
            replace BK1 := Aside0.mk (cells_below BK1.out hb6)
            replace BK2 := Aside0.mk (cells_below BK2.out hb6)
            replace BK3 := Aside0.mk (cells_below BK3.out hb6)
            try replace HL := Aside0.mk (Kd.C_below HL.out hb6)
            try replace HR5 := Aside0.mk (Kd.R_below HR5.out hb6)
            replace hbox := Aside0.mk hbox
            clear hg
            refine hK.out _ _ ⟨(pw_cell_below hb6 hHeld.1), (pw_cell_below hb6 hHeld.2)⟩ (fun hHeld => ?_)
            clear hK K
            refine norm_ (a' := ?_) ?_ ?_
            rotate_left
            · show Act.put _ (some 4) _ = _
              simp only [Act.put, List.setIfInBounds_toArray, List.set_cons_zero, List.set_cons_succ, i64_w, i32_w]
              rfl
            refine one_ (i := 5) (N := some 23) #[true, true, true, true, true, true, true, false] rfl rfl (by kernel_rfl) (by decide) (fun K hK => ?_)
            refine goes_ Try.func19 (by kernel_rfl) rfl #[.agg #[.int .i64 5, .int .i64 0], .agg #[.int .u64 0, .int .i64 0, .slice A3 0 c3], .agg #[.int .i64 0, .slice A9 1 c9, .slice none 0 0], .int .u64 1] (by rfl) rfl rfl (by simp only [List.map_toArray, List.map_cons, List.map_nil]; rfl) ?_
            with_reducible refine (addText strB 1 1 0 [strB] A3 A9 c3 c9 _ HL.out HLc.out aw3).mono ?_
            rintro e w5 ⟨v5, rfl, ho5, hb5⟩
            refine ⟨_, rfl, ?_⟩
            obtain ⟨A5, c5, rfl, hc5, hC5⟩ := reads1 ho5
            replace HB := Aside0.mk (below_then HB.out HB.out.size hb5)
            replace BK1 := Aside0.mk (cells_below BK1.out hb5)
            replace BK2 := Aside0.mk (cells_below BK2.out hb5)
            replace BK3 := Aside0.mk (cells_below BK3.out hb5)
            try replace hbox := Aside0.mk (cells_below hbox.out hb5)
            have HR5 := Aside0.mk ho5
            have HRc := Aside0.mk hc5
            clear ho5 hc5 hC5
            refine hK.out _ _ ⟨(pw_cell_below hb5 hHeld.1), (pw_cell_below hb5 hHeld.2)⟩ (fun hHeld => ?_)
            clear hK K
            refine norm_ (a' := ?_) ?_ ?_
            rotate_left
            · show Act.put _ (some 23) _ = _
              simp only [Act.put, List.setIfInBounds_toArray, List.set_cons_zero, List.set_cons_succ, i64_w, i32_w]
              rfl
            refine last_ (i := 7) (N := none) #[true, true, true, true, true, true, true, true] rfl rfl (by kernel_rfl) (by decide) (fun K hK => ?_)
            (have hq_0 := (blk_cell hbox.out 0).trans (show (#[(.int .u64 0 : Value), (.int .i64 0 : Value), (.slice none 0 0 : Value)] : Array Value)[0]? = some (.int .u64 0) from rfl); have hqf_0 := blk_frozen hbox.out 0; have hq_1 := (blk_cell hbox.out 1).trans (show (#[(.int .u64 0 : Value), (.int .i64 0 : Value), (.slice none 0 0 : Value)] : Array Value)[1]? = some (.int .i64 0) from rfl); have hqf_1 := blk_frozen hbox.out 1; have hq_2 := (blk_cell hbox.out 2).trans (show (#[(.int .u64 0 : Value), (.int .i64 0 : Value), (.slice none 0 0 : Value)] : Array Value)[2]? = some (.slice none 0 0) from rfl); have hqf_2 := blk_frozen hbox.out 2)
            refine skip_ (w1 := ?_) (by rfl) rfl ?_ ?_
            rotate_left
            · go_simp
              rfl
            refine hK.out _ _ ?_
            clear hK K
            refine done_ (by kernel_rfl) ?_
            go_wp2_with fail
            go_meet
            have b1 := blk_set hbox.out 0 (.int .u64 1)
            have b2 := blk_set b1 1 (.int .i64 0)
            have b3 := blk_set b2 2 (.slice A5 1 c5)
            have r1 := Kd.R_set (Kd.R_set (Kd.R_set HR5.out hbox.out HT.out 0 (.int .u64 1)) b1 HT.out 1 (.int .i64 0)) b2 HT.out 2 (.slice A5 1 c5)
            exact ⟨g4, A5, c5, rfl, ⟨blk_far (blk_far (blk_far BK1.out hn14 _) hn14 _) hn14 _⟩, ⟨blk_far (blk_far (blk_far BK2.out hn24 _) hn24 _) hn24 _⟩, ⟨blk_far (blk_far (blk_far BK3.out hn34 _) hn34 _) hn34 _⟩, ⟨b3⟩, ⟨(reads1' r1).2⟩, HRc, ⟨hn24⟩, HG4, ⟨below_set (below_set (below_set HB.out HG4.out) HG4.out) HG4.out⟩⟩
        · skip
          refine box_step (by rfl) (N := 4) (by rfl) (cs := #[.int .u64 0, .int .i64 0, .slice none 0 0]) (t := 33) ?hr ?_
          case hr => first | (go_simp; done) | (go_simp; rfl)
          intro g4 hg w6 hbox hb6
          have HG4 := Aside0.mk (show w.heap.size ≤ g4 by rw [hg]; exact HB.out.size)
          have hn14 : g1 ≠ g4 := (by have h1 := blk_lt BK1.out; rw [hg]; omega)
          have hn24 : g2 ≠ g4 := (by have h1 := blk_lt BK2.out; rw [hg]; omega)
          have hn34 : g3 ≠ g4 := (by have h1 := blk_lt BK3.out; rw [hg]; omega)
          replace HB := Aside0.mk (below_then HB.out HB.out.size hb6)
          replace BK1 := Aside0.mk (cells_below BK1.out hb6)
          replace BK2 := Aside0.mk (cells_below BK2.out hb6)
          replace BK3 := Aside0.mk (cells_below BK3.out hb6)
          try replace HL := Aside0.mk (Kd.C_below HL.out hb6)
          try replace HR5 := Aside0.mk (Kd.R_below HR5.out hb6)
          replace hbox := Aside0.mk hbox
          clear hg
          refine hK.out _ _ ⟨(pw_cell_below hb6 hHeld.1), (pw_cell_below hb6 hHeld.2)⟩ (fun hHeld => ?_)
          clear hK K
          refine norm_ (a' := ?_) ?_ ?_
          rotate_left
          · show Act.put _ (some 4) _ = _
            simp only [Act.put, List.setIfInBounds_toArray, List.set_cons_zero, List.set_cons_succ, i64_w, i32_w]
            rfl
          refine one_ (i := 2) (N := some 20) #[true, true, true, true, true, false, true, false] rfl rfl (by kernel_rfl) (by decide) (fun K hK => ?_)
          refine goes_ Try.func18 (by kernel_rfl) rfl #[.agg #[.int .i64 5, .int .i64 0]] (by rfl) rfl rfl (by simp only [List.map_toArray, List.map_cons, List.map_nil]; rfl) ?_
          with_reducible refine (start0 5 0 _).mono ?_
          rintro e w3 ⟨A3, c3, rfl, hb3⟩
          refine ⟨_, rfl, ?_⟩
          replace HB := Aside0.mk (below_then HB.out HB.out.size hb3)
          replace BK1 := Aside0.mk (cells_below BK1.out hb3)
          replace BK2 := Aside0.mk (cells_below BK2.out hb3)
          replace BK3 := Aside0.mk (cells_below BK3.out hb3)
          try replace HL := Aside0.mk (Kd.C_below HL.out hb3)
          try replace hbox := Aside0.mk (cells_below hbox.out hb3)
          refine hK.out _ _ ⟨(pw_cell_below hb3 hHeld.1), (pw_cell_below hb3 hHeld.2)⟩ (fun hHeld => ?_)
          clear hK K
          refine norm_ (a' := ?_) ?_ ?_
          rotate_left
          · show Act.put _ (some 20) _ = _
            simp only [Act.put, List.setIfInBounds_toArray, List.set_cons_zero, List.set_cons_succ, i64_w, i32_w]
            rfl
          refine one_ (i := 5) (N := some 23) #[true, true, true, true, true, true, true, false] rfl rfl (by kernel_rfl) (by decide) (fun K hK => ?_)
          refine goes_ Try.func19 (by kernel_rfl) rfl #[.agg #[.int .i64 5, .int .i64 0], .agg #[.int .u64 0, .int .i64 0, .slice A3 0 c3], .agg #[.int .i64 0, .slice A9 1 c9, .slice none 0 0], .int .u64 1] (by rfl) rfl rfl (by simp only [List.map_toArray, List.map_cons, List.map_nil]; rfl) ?_
          with_reducible refine (addText strB 1 1 0 [strB] A3 A9 c3 c9 _ HL.out HLc.out aw3).mono ?_
          rintro e w5 ⟨v5, rfl, ho5, hb5⟩
          refine ⟨_, rfl, ?_⟩
          obtain ⟨A5, c5, rfl, hc5, hC5⟩ := reads1 ho5
          replace HB := Aside0.mk (below_then HB.out HB.out.size hb5)
          replace BK1 := Aside0.mk (cells_below BK1.out hb5)
          replace BK2 := Aside0.mk (cells_below BK2.out hb5)
          replace BK3 := Aside0.mk (cells_below BK3.out hb5)
          try replace hbox := Aside0.mk (cells_below hbox.out hb5)
          have HR5 := Aside0.mk ho5
          have HRc := Aside0.mk hc5
          clear ho5 hc5 hC5
          refine hK.out _ _ ⟨(pw_cell_below hb5 hHeld.1), (pw_cell_below hb5 hHeld.2)⟩ (fun hHeld => ?_)
          clear hK K
          refine norm_ (a' := ?_) ?_ ?_
          rotate_left
          · show Act.put _ (some 23) _ = _
            simp only [Act.put, List.setIfInBounds_toArray, List.set_cons_zero, List.set_cons_succ, i64_w, i32_w]
            rfl
          refine last_ (i := 7) (N := none) #[true, true, true, true, true, true, true, true] rfl rfl (by kernel_rfl) (by decide) (fun K hK => ?_)
          (have hq_0 := (blk_cell hbox.out 0).trans (show (#[(.int .u64 0 : Value), (.int .i64 0 : Value), (.slice none 0 0 : Value)] : Array Value)[0]? = some (.int .u64 0) from rfl); have hqf_0 := blk_frozen hbox.out 0; have hq_1 := (blk_cell hbox.out 1).trans (show (#[(.int .u64 0 : Value), (.int .i64 0 : Value), (.slice none 0 0 : Value)] : Array Value)[1]? = some (.int .i64 0) from rfl); have hqf_1 := blk_frozen hbox.out 1; have hq_2 := (blk_cell hbox.out 2).trans (show (#[(.int .u64 0 : Value), (.int .i64 0 : Value), (.slice none 0 0 : Value)] : Array Value)[2]? = some (.slice none 0 0) from rfl); have hqf_2 := blk_frozen hbox.out 2)
          refine skip_ (w1 := ?_) (by rfl) rfl ?_ ?_
          rotate_left
          · go_simp
            rfl
          refine hK.out _ _ ?_
          clear hK K
          refine done_ (by kernel_rfl) ?_
          go_wp2_with fail
          go_meet
          have b1 := blk_set hbox.out 0 (.int .u64 1)
          have b2 := blk_set b1 1 (.int .i64 0)
          have b3 := blk_set b2 2 (.slice A5 1 c5)
          have r1 := Kd.R_set (Kd.R_set (Kd.R_set HR5.out hbox.out HT.out 0 (.int .u64 1)) b1 HT.out 1 (.int .i64 0)) b2 HT.out 2 (.slice A5 1 c5)
          exact ⟨g4, A5, c5, rfl, ⟨blk_far (blk_far (blk_far BK1.out hn14 _) hn14 _) hn14 _⟩, ⟨blk_far (blk_far (blk_far BK2.out hn24 _) hn24 _) hn24 _⟩, ⟨blk_far (blk_far (blk_far BK3.out hn34 _) hn34 _) hn34 _⟩, ⟨b3⟩, ⟨(reads1' r1).2⟩, HRc, ⟨hn24⟩, HG4, ⟨below_set (below_set (below_set HB.out HG4.out) HG4.out) HG4.out⟩⟩
      · skip
        refine box_step (by rfl) (N := 4) (by rfl) (cs := #[.int .u64 0, .int .i64 0, .slice none 0 0]) (t := 33) ?hr ?_
        case hr => first | (go_simp; done) | (go_simp; rfl)
        intro g4 hg w6 hbox hb6
        have HG4 := Aside0.mk (show w.heap.size ≤ g4 by rw [hg]; exact HB.out.size)
        have hn14 : g1 ≠ g4 := (by have h1 := blk_lt BK1.out; rw [hg]; omega)
        have hn24 : g2 ≠ g4 := (by have h1 := blk_lt BK2.out; rw [hg]; omega)
        have hn34 : g3 ≠ g4 := (by have h1 := blk_lt BK3.out; rw [hg]; omega)
        replace HB := Aside0.mk (below_then HB.out HB.out.size hb6)
        replace BK1 := Aside0.mk (cells_below BK1.out hb6)
        replace BK2 := Aside0.mk (cells_below BK2.out hb6)
        replace BK3 := Aside0.mk (cells_below BK3.out hb6)
        try replace HL := Aside0.mk (Kd.C_below HL.out hb6)
        try replace HR5 := Aside0.mk (Kd.R_below HR5.out hb6)
        replace hbox := Aside0.mk hbox
        clear hg
        refine hK.out _ _ ⟨(pw_cell_below hb6 hHeld.1), (pw_cell_below hb6 hHeld.2)⟩ (fun hHeld => ?_)
        clear hK K
        refine norm_ (a' := ?_) ?_ ?_
        rotate_left
        · show Act.put _ (some 4) _ = _
          simp only [Act.put, List.setIfInBounds_toArray, List.set_cons_zero, List.set_cons_succ, i64_w, i32_w]
          rfl
        refine two_ (i := 2) (j := 3) (Ni := some 20) (Nj := some 21) #[true, true, true, false, false, false, true, false] #[true, true, false, true, false, false, true, false] rfl rfl rfl rfl (by kernel_rfl) (by decide) (by decide) (fun K hK => ?_) (fun K hK => ?_)
        · skip
          refine goes_ Try.func18 (by kernel_rfl) rfl #[.agg #[.int .i64 5, .int .i64 0]] (by rfl) rfl rfl (by simp only [List.map_toArray, List.map_cons, List.map_nil]; rfl) ?_
          with_reducible refine (start0 5 0 _).mono ?_
          rintro e w3 ⟨A3, c3, rfl, hb3⟩
          refine ⟨_, rfl, ?_⟩
          replace HB := Aside0.mk (below_then HB.out HB.out.size hb3)
          replace BK1 := Aside0.mk (cells_below BK1.out hb3)
          replace BK2 := Aside0.mk (cells_below BK2.out hb3)
          replace BK3 := Aside0.mk (cells_below BK3.out hb3)
          try replace HL := Aside0.mk (Kd.C_below HL.out hb3)
          try replace hbox := Aside0.mk (cells_below hbox.out hb3)
          refine hK.out _ _ ⟨(pw_cell_below hb3 hHeld.1), (pw_cell_below hb3 hHeld.2)⟩ (fun hHeld => ?_)
          clear hK K
          refine norm_ (a' := ?_) ?_ ?_
          rotate_left
          · show Act.put _ (some 20) _ = _
            simp only [Act.put, List.setIfInBounds_toArray, List.set_cons_zero, List.set_cons_succ, i64_w, i32_w]
            rfl
          refine one_ (i := 3) (N := some 21) #[true, true, true, true, false, false, true, false] rfl rfl (by kernel_rfl) (by decide) (fun K hK => ?_)
          refine lit1_step Kd.string 9 (by rfl) (N := 21) (by rfl) (x := strB) (v := .string strB) ?hr (Reps.one (show Kd.M Kd.string _ _ _ strB [.string strB] from rfl) (Reps.none _ _)) ?_
          case hr => first | (go_simp; done) | (go_simp; rfl)
          intro A9 c9 w9 hC9 hc9 hb9
          replace HB := Aside0.mk (below_then HB.out HB.out.size hb9)
          replace BK1 := Aside0.mk (cells_below BK1.out hb9)
          replace BK2 := Aside0.mk (cells_below BK2.out hb9)
          replace BK3 := Aside0.mk (cells_below BK3.out hb9)
          replace HL := Aside0.mk hC9
          try replace hbox := Aside0.mk (cells_below hbox.out hb9)
          have HLc := Aside0.mk hc9
          clear hC9 hc9
          refine hK.out _ _ ⟨(pw_cell_below hb9 hHeld.1), (pw_cell_below hb9 hHeld.2)⟩ (fun hHeld => ?_)
          clear hK K
          refine norm_ (a' := ?_) ?_ ?_
          rotate_left
          · show Act.put _ (some 21) _ = _
            simp only [Act.put, List.setIfInBounds_toArray, List.set_cons_zero, List.set_cons_succ, i64_w, i32_w]
            rfl
          refine pure_ (i := 4) (N := some 22) (v := ?_) (a' := ?_) #[true, true, true, true, true, false, true, false] rfl rfl (by kernel_rfl) (fun _ _ _ h => h) (Or.inl ⟨by rfl, ?_⟩) ?_ ?_
          rotate_left
          · intro w'
            go_simp
            with_reducible rfl
          rotate_left
          · simp only [Act.put, List.setIfInBounds_toArray, List.set_cons_zero, List.set_cons_succ, i64_w, i32_w]
            rfl
          refine one_ (i := 5) (N := some 23) #[true, true, true, true, true, true, true, false] rfl rfl (by kernel_rfl) (by decide) (fun K hK => ?_)
          refine goes_ Try.func19 (by kernel_rfl) rfl #[.agg #[.int .i64 5, .int .i64 0], .agg #[.int .u64 0, .int .i64 0, .slice A3 0 c3], .agg #[.int .i64 0, .slice A9 1 c9, .slice none 0 0], .int .u64 1] (by rfl) rfl rfl (by simp only [List.map_toArray, List.map_cons, List.map_nil]; rfl) ?_
          with_reducible refine (addText strB 1 1 0 [strB] A3 A9 c3 c9 _ HL.out HLc.out aw3).mono ?_
          rintro e w5 ⟨v5, rfl, ho5, hb5⟩
          refine ⟨_, rfl, ?_⟩
          obtain ⟨A5, c5, rfl, hc5, hC5⟩ := reads1 ho5
          replace HB := Aside0.mk (below_then HB.out HB.out.size hb5)
          replace BK1 := Aside0.mk (cells_below BK1.out hb5)
          replace BK2 := Aside0.mk (cells_below BK2.out hb5)
          replace BK3 := Aside0.mk (cells_below BK3.out hb5)
          try replace hbox := Aside0.mk (cells_below hbox.out hb5)
          have HR5 := Aside0.mk ho5
          have HRc := Aside0.mk hc5
          clear ho5 hc5 hC5
          refine hK.out _ _ ⟨(pw_cell_below hb5 hHeld.1), (pw_cell_below hb5 hHeld.2)⟩ (fun hHeld => ?_)
          clear hK K
          refine norm_ (a' := ?_) ?_ ?_
          rotate_left
          · show Act.put _ (some 23) _ = _
            simp only [Act.put, List.setIfInBounds_toArray, List.set_cons_zero, List.set_cons_succ, i64_w, i32_w]
            rfl
          refine last_ (i := 7) (N := none) #[true, true, true, true, true, true, true, true] rfl rfl (by kernel_rfl) (by decide) (fun K hK => ?_)
          (have hq_0 := (blk_cell hbox.out 0).trans (show (#[(.int .u64 0 : Value), (.int .i64 0 : Value), (.slice none 0 0 : Value)] : Array Value)[0]? = some (.int .u64 0) from rfl); have hqf_0 := blk_frozen hbox.out 0; have hq_1 := (blk_cell hbox.out 1).trans (show (#[(.int .u64 0 : Value), (.int .i64 0 : Value), (.slice none 0 0 : Value)] : Array Value)[1]? = some (.int .i64 0) from rfl); have hqf_1 := blk_frozen hbox.out 1; have hq_2 := (blk_cell hbox.out 2).trans (show (#[(.int .u64 0 : Value), (.int .i64 0 : Value), (.slice none 0 0 : Value)] : Array Value)[2]? = some (.slice none 0 0) from rfl); have hqf_2 := blk_frozen hbox.out 2)
          refine skip_ (w1 := ?_) (by rfl) rfl ?_ ?_
          rotate_left
          · go_simp
            rfl
          refine hK.out _ _ ?_
          clear hK K
          refine done_ (by kernel_rfl) ?_
          go_wp2_with fail
          go_meet
          have b1 := blk_set hbox.out 0 (.int .u64 1)
          have b2 := blk_set b1 1 (.int .i64 0)
          have b3 := blk_set b2 2 (.slice A5 1 c5)
          have r1 := Kd.R_set (Kd.R_set (Kd.R_set HR5.out hbox.out HT.out 0 (.int .u64 1)) b1 HT.out 1 (.int .i64 0)) b2 HT.out 2 (.slice A5 1 c5)
          exact ⟨g4, A5, c5, rfl, ⟨blk_far (blk_far (blk_far BK1.out hn14 _) hn14 _) hn14 _⟩, ⟨blk_far (blk_far (blk_far BK2.out hn24 _) hn24 _) hn24 _⟩, ⟨blk_far (blk_far (blk_far BK3.out hn34 _) hn34 _) hn34 _⟩, ⟨b3⟩, ⟨(reads1' r1).2⟩, HRc, ⟨hn24⟩, HG4, ⟨below_set (below_set (below_set HB.out HG4.out) HG4.out) HG4.out⟩⟩
        · skip
          refine lit1_step Kd.string 9 (by rfl) (N := 21) (by rfl) (x := strB) (v := .string strB) ?hr (Reps.one (show Kd.M Kd.string _ _ _ strB [.string strB] from rfl) (Reps.none _ _)) ?_
          case hr => first | (go_simp; done) | (go_simp; rfl)
          intro A9 c9 w9 hC9 hc9 hb9
          replace HB := Aside0.mk (below_then HB.out HB.out.size hb9)
          replace BK1 := Aside0.mk (cells_below BK1.out hb9)
          replace BK2 := Aside0.mk (cells_below BK2.out hb9)
          replace BK3 := Aside0.mk (cells_below BK3.out hb9)
          replace HL := Aside0.mk hC9
          try replace hbox := Aside0.mk (cells_below hbox.out hb9)
          have HLc := Aside0.mk hc9
          clear hC9 hc9
          refine hK.out _ _ ⟨(pw_cell_below hb9 hHeld.1), (pw_cell_below hb9 hHeld.2)⟩ (fun hHeld => ?_)
          clear hK K
          refine norm_ (a' := ?_) ?_ ?_
          rotate_left
          · show Act.put _ (some 21) _ = _
            simp only [Act.put, List.setIfInBounds_toArray, List.set_cons_zero, List.set_cons_succ, i64_w, i32_w]
            rfl
          refine pure_ (i := 4) (N := some 22) (v := ?_) (a' := ?_) #[true, true, false, true, true, false, true, false] rfl rfl (by kernel_rfl) (fun _ _ _ h => h) (Or.inl ⟨by rfl, ?_⟩) ?_ ?_
          rotate_left
          · intro w'
            go_simp
            with_reducible rfl
          rotate_left
          · simp only [Act.put, List.setIfInBounds_toArray, List.set_cons_zero, List.set_cons_succ, i64_w, i32_w]
            rfl
          refine one_ (i := 2) (N := some 20) #[true, true, true, true, true, false, true, false] rfl rfl (by kernel_rfl) (by decide) (fun K hK => ?_)
          refine goes_ Try.func18 (by kernel_rfl) rfl #[.agg #[.int .i64 5, .int .i64 0]] (by rfl) rfl rfl (by simp only [List.map_toArray, List.map_cons, List.map_nil]; rfl) ?_
          with_reducible refine (start0 5 0 _).mono ?_
          rintro e w3 ⟨A3, c3, rfl, hb3⟩
          refine ⟨_, rfl, ?_⟩
          replace HB := Aside0.mk (below_then HB.out HB.out.size hb3)
          replace BK1 := Aside0.mk (cells_below BK1.out hb3)
          replace BK2 := Aside0.mk (cells_below BK2.out hb3)
          replace BK3 := Aside0.mk (cells_below BK3.out hb3)
          try replace HL := Aside0.mk (Kd.C_below HL.out hb3)
          try replace hbox := Aside0.mk (cells_below hbox.out hb3)
          refine hK.out _ _ ⟨(pw_cell_below hb3 hHeld.1), (pw_cell_below hb3 hHeld.2)⟩ (fun hHeld => ?_)
          clear hK K
          refine norm_ (a' := ?_) ?_ ?_
          rotate_left
          · show Act.put _ (some 20) _ = _
            simp only [Act.put, List.setIfInBounds_toArray, List.set_cons_zero, List.set_cons_succ, i64_w, i32_w]
            rfl
          refine one_ (i := 5) (N := some 23) #[true, true, true, true, true, true, true, false] rfl rfl (by kernel_rfl) (by decide) (fun K hK => ?_)
          refine goes_ Try.func19 (by kernel_rfl) rfl #[.agg #[.int .i64 5, .int .i64 0], .agg #[.int .u64 0, .int .i64 0, .slice A3 0 c3], .agg #[.int .i64 0, .slice A9 1 c9, .slice none 0 0], .int .u64 1] (by rfl) rfl rfl (by simp only [List.map_toArray, List.map_cons, List.map_nil]; rfl) ?_
          with_reducible refine (addText strB 1 1 0 [strB] A3 A9 c3 c9 _ HL.out HLc.out aw3).mono ?_
          rintro e w5 ⟨v5, rfl, ho5, hb5⟩
          refine ⟨_, rfl, ?_⟩
          obtain ⟨A5, c5, rfl, hc5, hC5⟩ := reads1 ho5
          replace HB := Aside0.mk (below_then HB.out HB.out.size hb5)
          replace BK1 := Aside0.mk (cells_below BK1.out hb5)
          replace BK2 := Aside0.mk (cells_below BK2.out hb5)
          replace BK3 := Aside0.mk (cells_below BK3.out hb5)
          try replace hbox := Aside0.mk (cells_below hbox.out hb5)
          have HR5 := Aside0.mk ho5
          have HRc := Aside0.mk hc5
          clear ho5 hc5 hC5
          refine hK.out _ _ ⟨(pw_cell_below hb5 hHeld.1), (pw_cell_below hb5 hHeld.2)⟩ (fun hHeld => ?_)
          clear hK K
          refine norm_ (a' := ?_) ?_ ?_
          rotate_left
          · show Act.put _ (some 23) _ = _
            simp only [Act.put, List.setIfInBounds_toArray, List.set_cons_zero, List.set_cons_succ, i64_w, i32_w]
            rfl
          refine last_ (i := 7) (N := none) #[true, true, true, true, true, true, true, true] rfl rfl (by kernel_rfl) (by decide) (fun K hK => ?_)
          (have hq_0 := (blk_cell hbox.out 0).trans (show (#[(.int .u64 0 : Value), (.int .i64 0 : Value), (.slice none 0 0 : Value)] : Array Value)[0]? = some (.int .u64 0) from rfl); have hqf_0 := blk_frozen hbox.out 0; have hq_1 := (blk_cell hbox.out 1).trans (show (#[(.int .u64 0 : Value), (.int .i64 0 : Value), (.slice none 0 0 : Value)] : Array Value)[1]? = some (.int .i64 0) from rfl); have hqf_1 := blk_frozen hbox.out 1; have hq_2 := (blk_cell hbox.out 2).trans (show (#[(.int .u64 0 : Value), (.int .i64 0 : Value), (.slice none 0 0 : Value)] : Array Value)[2]? = some (.slice none 0 0) from rfl); have hqf_2 := blk_frozen hbox.out 2)
          refine skip_ (w1 := ?_) (by rfl) rfl ?_ ?_
          rotate_left
          · go_simp
            rfl
          refine hK.out _ _ ?_
          clear hK K
          refine done_ (by kernel_rfl) ?_
          go_wp2_with fail
          go_meet
          have b1 := blk_set hbox.out 0 (.int .u64 1)
          have b2 := blk_set b1 1 (.int .i64 0)
          have b3 := blk_set b2 2 (.slice A5 1 c5)
          have r1 := Kd.R_set (Kd.R_set (Kd.R_set HR5.out hbox.out HT.out 0 (.int .u64 1)) b1 HT.out 1 (.int .i64 0)) b2 HT.out 2 (.slice A5 1 c5)
          exact ⟨g4, A5, c5, rfl, ⟨blk_far (blk_far (blk_far BK1.out hn14 _) hn14 _) hn14 _⟩, ⟨blk_far (blk_far (blk_far BK2.out hn24 _) hn24 _) hn24 _⟩, ⟨blk_far (blk_far (blk_far BK3.out hn34 _) hn34 _) hn34 _⟩, ⟨b3⟩, ⟨(reads1' r1).2⟩, HRc, ⟨hn24⟩, HG4, ⟨below_set (below_set (below_set HB.out HG4.out) HG4.out) HG4.out⟩⟩
    case rest =>
      obtain ⟨g4, A4, c4, rfl, BK1, BK2, BK3, BK4, HC4, HRc4, HN24, HG4, HB⟩ := hcut
      have hn24 := HN24.out
      have c0 : wc.cell? ⟨g3, 0, none⟩ = some (.int .i64 5) := (blk_cell BK3.out 0).trans rfl
      have c1 : wc.cell? ⟨g3, 1, none⟩ = some (.int .i64 0) := (blk_cell BK3.out 1).trans rfl
      have c2' : wc.cell? ⟨g4, 0, none⟩ = some (.int .u64 1) := (blk_cell BK4.out 0).trans rfl
      have c3' : wc.cell? ⟨g4, 1, none⟩ = some (.int .i64 0) := (blk_cell BK4.out 1).trans rfl
      have c4' : wc.cell? ⟨g4, 2, none⟩ = some (.slice A4 1 c4) := (blk_cell BK4.out 2).trans rfl
      replace HB := Aside0.mk (below_drew HB.out)
      replace BK1 := Aside0.mk (blk_drew BK1.out)
      replace BK2 := Aside0.mk (blk_drew BK2.out)
      replace BK3 := Aside0.mk (blk_drew BK3.out)
      replace BK4 := Aside0.mk (blk_drew BK4.out)
      replace HC4 := Aside0.mk (Kd.C_drew HC4.out)
      have hn14 := blk_ne BK1.out BK4.out (by decide)
      have hn34 := blk_ne BK3.out BK4.out (by decide)
      go_upto_region 6 with (fail)
      go_cut [] (fun wx => ∃ (A8 : Option Addr) (c8 : Nat), Aside0 (wx.heap[g1]? = some (.cells #[.int .i64 2, .int .i64 0] 23 (0, 0))) ∧ Aside0 (wx.heap[g2]? = some (.cells #[.int .u64 3, .int .i64 5, .slice A5 0 c5] 33 (0, 0))) ∧ Aside0 (wx.heap[g3]? = some (.cells #[.int .i64 5, .int .i64 0] 23 (0, 0))) ∧ Aside0 (wx.heap[g4]? = some (.cells #[.int .u64 2, .int .i64 0, .slice A8 2 c8] 33 (0, 0))) ∧ Aside0 (Kd.C Kd.string wx A8 2 [strA, strB]) ∧ Aside0 (2 ≤ c8) ∧ Aside0 (Below w.heap.size w wx))
      case first =>
        have HL := Aside0.mk trivial
        refine start_ (n := 10) (S := fun w' => w'.cell? ⟨g3, 0, none⟩ = some (.int .i64 5) ∧ w'.cell? ⟨g3, 1, none⟩ = some (.int .i64 0) ∧ w'.cell? ⟨g4, 0, none⟩ = some (.int .u64 1) ∧ w'.cell? ⟨g4, 1, none⟩ = some (.int .i64 0) ∧ w'.cell? ⟨g4, 2, none⟩ = some (.slice A4 1 c4)) (ds := [9]) #[false, false, false, false, false, false, false, false, false, false] (by kernel_rfl) rfl rfl ⟨c0, c1, c2', c3', c4'⟩ (fun hHeld => ?_)
        refine take_ (i := 0) (N := some 24) (v := ?_) (a' := ?_) #[true, false, false, false, false, false, false, false, false, false] rfl rfl (by kernel_rfl) (fun _ _ _ h => h) (Or.inl ⟨by rfl, ?_⟩) hHeld ?_ ?_
        rotate_left
        · rintro w' ⟨s0, s1, s2, s3, s4⟩
          go_simp
          with_reducible rfl
        rotate_left
        · simp only [Act.put, List.setIfInBounds_toArray, List.set_cons_zero, List.set_cons_succ, i64_w, i32_w]
          rfl
        refine take_ (i := 1) (N := some 25) (v := ?_) (a' := ?_) #[true, true, false, false, false, false, false, false, false, false] rfl rfl (by kernel_rfl) (fun _ _ _ h => h) (Or.inl ⟨by rfl, ?_⟩) hHeld ?_ ?_
        rotate_left
        · rintro w' ⟨s0, s1, s2, s3, s4⟩
          go_simp
          with_reducible rfl
        rotate_left
        · simp only [Act.put, List.setIfInBounds_toArray, List.set_cons_zero, List.set_cons_succ, i64_w, i32_w]
          rfl
        refine take_ (i := 2) (N := some 26) (v := ?_) (a' := ?_) #[true, true, true, false, false, false, false, false, false, false] rfl rfl (by kernel_rfl) (fun _ _ _ h => h) (Or.inl ⟨by rfl, ?_⟩) hHeld ?_ ?_
        rotate_left
        · rintro w' ⟨s0, s1, s2, s3, s4⟩
          go_simp
          with_reducible rfl
        rotate_left
        · simp only [Act.put, List.setIfInBounds_toArray, List.set_cons_zero, List.set_cons_succ, i64_w, i32_w]
          rfl
        refine take_ (i := 3) (N := some 27) (v := ?_) (a' := ?_) #[true, true, true, true, false, false, false, false, false, false] rfl rfl (by kernel_rfl) (fun _ _ _ h => h) (Or.inl ⟨by rfl, ?_⟩) hHeld ?_ ?_
        rotate_left
        · rintro w' ⟨s0, s1, s2, s3, s4⟩
          go_simp
          with_reducible rfl
        rotate_left
        · simp only [Act.put, List.setIfInBounds_toArray, List.set_cons_zero, List.set_cons_succ, i64_w, i32_w]
          rfl
        refine two_ (i := 4) (j := 5) (Ni := some 28) (Nj := some 29) #[true, true, true, true, true, false, false, false, false, false] #[true, true, true, true, false, true, false, false, false, false] rfl rfl rfl rfl (by kernel_rfl) (by decide) (by decide) (fun K hK => ?_) (fun K hK => ?_)
        · skip
          refine goes_ Try.func18 (by kernel_rfl) rfl #[.agg #[.int .i64 5, .int .i64 0]] (by rfl) rfl rfl (by simp only [List.map_toArray, List.map_cons, List.map_nil]; rfl) ?_
          with_reducible refine (start0 5 0 _).mono ?_
          rintro e w3 ⟨A3, c3, rfl, hb3⟩
          refine ⟨_, rfl, ?_⟩
          replace HB := Aside0.mk (below_then HB.out HB.out.size hb3)
          replace BK1 := Aside0.mk (cells_below BK1.out hb3)
          replace BK2 := Aside0.mk (cells_below BK2.out hb3)
          replace BK3 := Aside0.mk (cells_below BK3.out hb3)
          replace BK4 := Aside0.mk (cells_below BK4.out hb3)
          replace HC4 := Aside0.mk (Kd.C_below HC4.out hb3)
          try replace HL := Aside0.mk (Kd.C_below HL.out hb3)
          try replace HC7 := Aside0.mk (Kd.C_below HC7.out hb3)
          refine hK.out _ _ ⟨(pw_cell_below hb3 hHeld.1), (pw_cell_below hb3 hHeld.2.1), (pw_cell_below hb3 hHeld.2.2.1), (pw_cell_below hb3 hHeld.2.2.2.1), (pw_cell_below hb3 hHeld.2.2.2.2)⟩ (fun hHeld => ?_)
          clear hK K
          refine norm_ (a' := ?_) ?_ ?_
          rotate_left
          · show Act.put _ (some 28) _ = _
            simp only [Act.put, List.setIfInBounds_toArray, List.set_cons_zero, List.set_cons_succ, i64_w, i32_w]
            rfl
          refine one_ (i := 5) (N := some 29) #[true, true, true, true, true, true, false, false, false, false] rfl rfl (by kernel_rfl) (by decide) (fun K hK => ?_)
          refine lit1_step Kd.string 9 (by rfl) (N := 29) (by rfl) (x := strA) (v := .string strA) ?hr (Reps.one (show Kd.M Kd.string _ _ _ strA [.string strA] from rfl) (Reps.none _ _)) ?_
          case hr => first | (go_simp; done) | (go_simp; rfl)
          intro A9 c9 w9 hC9 hc9 hb9
          replace HB := Aside0.mk (below_then HB.out HB.out.size hb9)
          replace BK1 := Aside0.mk (cells_below BK1.out hb9)
          replace BK2 := Aside0.mk (cells_below BK2.out hb9)
          replace BK3 := Aside0.mk (cells_below BK3.out hb9)
          replace BK4 := Aside0.mk (cells_below BK4.out hb9)
          replace HC4 := Aside0.mk (Kd.C_below HC4.out hb9)
          try replace HL := Aside0.mk (Kd.C_below HL.out hb9)
          try replace HC7 := Aside0.mk (Kd.C_below HC7.out hb9)
          replace HL := Aside0.mk hC9
          have HLc := Aside0.mk hc9
          clear hC9 hc9
          refine hK.out _ _ ⟨(pw_cell_below hb9 hHeld.1), (pw_cell_below hb9 hHeld.2.1), (pw_cell_below hb9 hHeld.2.2.1), (pw_cell_below hb9 hHeld.2.2.2.1), (pw_cell_below hb9 hHeld.2.2.2.2)⟩ (fun hHeld => ?_)
          clear hK K
          refine norm_ (a' := ?_) ?_ ?_
          rotate_left
          · show Act.put _ (some 29) _ = _
            simp only [Act.put, List.setIfInBounds_toArray, List.set_cons_zero, List.set_cons_succ, i64_w, i32_w]
            rfl
          refine pure_ (i := 6) (N := some 30) (v := ?_) (a' := ?_) #[true, true, true, true, true, true, true, false, false, false] rfl rfl (by kernel_rfl) (fun _ _ _ h => h) (Or.inl ⟨by rfl, ?_⟩) ?_ ?_
          rotate_left
          · intro w'
            go_simp
            with_reducible rfl
          rotate_left
          · simp only [Act.put, List.setIfInBounds_toArray, List.set_cons_zero, List.set_cons_succ, i64_w, i32_w]
            rfl
          refine one_ (i := 7) (N := some 31) #[true, true, true, true, true, true, true, true, false, false] rfl rfl (by kernel_rfl) (by decide) (fun K hK => ?_)
          refine goes_ Try.func19 (by kernel_rfl) rfl #[.agg #[.int .i64 5, .int .i64 0], .agg #[.int .u64 0, .int .i64 0, .slice A3 0 c3], .agg #[.int .i64 0, .slice A9 1 c9, .slice none 0 0], .int .u64 1] (by rfl) rfl rfl (by simp only [List.map_toArray, List.map_cons, List.map_nil]; rfl) ?_
          with_reducible refine (addText strA 1 1 0 [strA] A3 A9 c3 c9 _ HL.out HLc.out aw4).mono ?_
          rintro e w5 ⟨v5, rfl, ho5, hb5⟩
          refine ⟨_, rfl, ?_⟩
          obtain ⟨A7, c7, rfl, hc7, hC7⟩ := reads1 ho5
          replace HB := Aside0.mk (below_then HB.out HB.out.size hb5)
          replace BK1 := Aside0.mk (cells_below BK1.out hb5)
          replace BK2 := Aside0.mk (cells_below BK2.out hb5)
          replace BK3 := Aside0.mk (cells_below BK3.out hb5)
          replace BK4 := Aside0.mk (cells_below BK4.out hb5)
          replace HC4 := Aside0.mk (Kd.C_below HC4.out hb5)
          try replace HL := Aside0.mk (Kd.C_below HL.out hb5)
          try replace HC7 := Aside0.mk (Kd.C_below HC7.out hb5)
          have HC7 := Aside0.mk hC7
          have HRc7 := Aside0.mk hc7
          clear ho5 hc7 hC7
          refine hK.out _ _ ⟨(pw_cell_below hb5 hHeld.1), (pw_cell_below hb5 hHeld.2.1), (pw_cell_below hb5 hHeld.2.2.1), (pw_cell_below hb5 hHeld.2.2.2.1), (pw_cell_below hb5 hHeld.2.2.2.2)⟩ (fun hHeld => ?_)
          clear hK K
          refine norm_ (a' := ?_) ?_ ?_
          rotate_left
          · show Act.put _ (some 31) _ = _
            simp only [Act.put, List.setIfInBounds_toArray, List.set_cons_zero, List.set_cons_succ, i64_w, i32_w]
            rfl
          refine one_ (i := 8) (N := some 32) #[true, true, true, true, true, true, true, true, true, false] rfl rfl (by kernel_rfl) (by decide) (fun K hK => ?_)
          refine goes_ Try.func17 (by kernel_rfl) rfl #[.agg #[.int .i64 5, .int .i64 0], .agg #[.int .u64 1, .int .i64 0, .slice A4 1 c4], .agg #[.int .u64 1, .int .i64 0, .slice A7 1 c7]] (by rfl) rfl rfl (by simp only [List.map_toArray, List.map_cons, List.map_nil]; rfl) ?_
          with_reducible refine (mergeTexts strB strA 2 0 [strA, strB] A4 A7 c4 c7 _ HC4.out HRc4.out HC7.out HRc7.out aw5).mono ?_
          rintro e w8 ⟨v8, rfl, ho8, hb8⟩
          refine ⟨_, rfl, ?_⟩
          obtain ⟨A8, c8, rfl, hc8, hC8⟩ := reads2 ho8
          replace HB := Aside0.mk (below_then HB.out HB.out.size hb8)
          replace BK1 := Aside0.mk (cells_below BK1.out hb8)
          replace BK2 := Aside0.mk (cells_below BK2.out hb8)
          replace BK3 := Aside0.mk (cells_below BK3.out hb8)
          replace BK4 := Aside0.mk (cells_below BK4.out hb8)
          replace HC4 := Aside0.mk (Kd.C_below HC4.out hb8)
          try replace HL := Aside0.mk (Kd.C_below HL.out hb8)
          try replace HC7 := Aside0.mk (Kd.C_below HC7.out hb8)
          have HR8 := Aside0.mk ho8
          have HRc8 := Aside0.mk hc8
          clear ho8 hc8 hC8
          refine hK.out _ _ ⟨(pw_cell_below hb8 hHeld.1), (pw_cell_below hb8 hHeld.2.1), (pw_cell_below hb8 hHeld.2.2.1), (pw_cell_below hb8 hHeld.2.2.2.1), (pw_cell_below hb8 hHeld.2.2.2.2)⟩ (fun hHeld => ?_)
          clear hK K
          refine norm_ (a' := ?_) ?_ ?_
          rotate_left
          · show Act.put _ (some 32) _ = _
            simp only [Act.put, List.setIfInBounds_toArray, List.set_cons_zero, List.set_cons_succ, i64_w, i32_w]
            rfl
          refine last_ (i := 9) (N := none) #[true, true, true, true, true, true, true, true, true, true] rfl rfl (by kernel_rfl) (by decide) (fun K hK => ?_)
          (have hq_0 := (blk_cell BK4.out 0).trans (show (#[(.int .u64 1 : Value), (.int .i64 0 : Value), (.slice A4 1 c4 : Value)] : Array Value)[0]? = some (.int .u64 1) from rfl); have hqf_0 := blk_frozen BK4.out 0; have hq_1 := (blk_cell BK4.out 1).trans (show (#[(.int .u64 1 : Value), (.int .i64 0 : Value), (.slice A4 1 c4 : Value)] : Array Value)[1]? = some (.int .i64 0) from rfl); have hqf_1 := blk_frozen BK4.out 1; have hq_2 := (blk_cell BK4.out 2).trans (show (#[(.int .u64 1 : Value), (.int .i64 0 : Value), (.slice A4 1 c4 : Value)] : Array Value)[2]? = some (.slice A4 1 c4) from rfl); have hqf_2 := blk_frozen BK4.out 2)
          refine skip_ (w1 := ?_) (by rfl) rfl ?_ ?_
          rotate_left
          · go_simp
            rfl
          refine hK.out _ _ ?_
          clear hK K
          refine done_ (by kernel_rfl) ?_
          go_wp2_with fail
          go_meet
          have b1 := blk_set BK4.out 0 (.int .u64 2)
          have b2 := blk_set b1 1 (.int .i64 0)
          have b3 := blk_set b2 2 (.slice A8 2 c8)
          have r1 := Kd.R_set (Kd.R_set (Kd.R_set HR8.out BK4.out HT.out 0 (.int .u64 2)) b1 HT.out 1 (.int .i64 0)) b2 HT.out 2 (.slice A8 2 c8)
          exact ⟨A8, c8, ⟨blk_far (blk_far (blk_far BK1.out hn14 _) hn14 _) hn14 _⟩, ⟨blk_far (blk_far (blk_far BK2.out hn24 _) hn24 _) hn24 _⟩, ⟨blk_far (blk_far (blk_far BK3.out hn34 _) hn34 _) hn34 _⟩, ⟨b3⟩, ⟨(Kd.R_reads' r1).2.2⟩, HRc8, ⟨below_set (below_set (below_set HB.out HG4.out) HG4.out) HG4.out⟩⟩
        · skip
          refine lit1_step Kd.string 9 (by rfl) (N := 29) (by rfl) (x := strA) (v := .string strA) ?hr (Reps.one (show Kd.M Kd.string _ _ _ strA [.string strA] from rfl) (Reps.none _ _)) ?_
          case hr => first | (go_simp; done) | (go_simp; rfl)
          intro A9 c9 w9 hC9 hc9 hb9
          replace HB := Aside0.mk (below_then HB.out HB.out.size hb9)
          replace BK1 := Aside0.mk (cells_below BK1.out hb9)
          replace BK2 := Aside0.mk (cells_below BK2.out hb9)
          replace BK3 := Aside0.mk (cells_below BK3.out hb9)
          replace BK4 := Aside0.mk (cells_below BK4.out hb9)
          replace HC4 := Aside0.mk (Kd.C_below HC4.out hb9)
          try replace HL := Aside0.mk (Kd.C_below HL.out hb9)
          try replace HC7 := Aside0.mk (Kd.C_below HC7.out hb9)
          replace HL := Aside0.mk hC9
          have HLc := Aside0.mk hc9
          clear hC9 hc9
          refine hK.out _ _ ⟨(pw_cell_below hb9 hHeld.1), (pw_cell_below hb9 hHeld.2.1), (pw_cell_below hb9 hHeld.2.2.1), (pw_cell_below hb9 hHeld.2.2.2.1), (pw_cell_below hb9 hHeld.2.2.2.2)⟩ (fun hHeld => ?_)
          clear hK K
          refine norm_ (a' := ?_) ?_ ?_
          rotate_left
          · show Act.put _ (some 29) _ = _
            simp only [Act.put, List.setIfInBounds_toArray, List.set_cons_zero, List.set_cons_succ, i64_w, i32_w]
            rfl
          refine pure_ (i := 6) (N := some 30) (v := ?_) (a' := ?_) #[true, true, true, true, false, true, true, false, false, false] rfl rfl (by kernel_rfl) (fun _ _ _ h => h) (Or.inl ⟨by rfl, ?_⟩) ?_ ?_
          rotate_left
          · intro w'
            go_simp
            with_reducible rfl
          rotate_left
          · simp only [Act.put, List.setIfInBounds_toArray, List.set_cons_zero, List.set_cons_succ, i64_w, i32_w]
            rfl
          refine one_ (i := 4) (N := some 28) #[true, true, true, true, true, true, true, false, false, false] rfl rfl (by kernel_rfl) (by decide) (fun K hK => ?_)
          refine goes_ Try.func18 (by kernel_rfl) rfl #[.agg #[.int .i64 5, .int .i64 0]] (by rfl) rfl rfl (by simp only [List.map_toArray, List.map_cons, List.map_nil]; rfl) ?_
          with_reducible refine (start0 5 0 _).mono ?_
          rintro e w3 ⟨A3, c3, rfl, hb3⟩
          refine ⟨_, rfl, ?_⟩
          replace HB := Aside0.mk (below_then HB.out HB.out.size hb3)
          replace BK1 := Aside0.mk (cells_below BK1.out hb3)
          replace BK2 := Aside0.mk (cells_below BK2.out hb3)
          replace BK3 := Aside0.mk (cells_below BK3.out hb3)
          replace BK4 := Aside0.mk (cells_below BK4.out hb3)
          replace HC4 := Aside0.mk (Kd.C_below HC4.out hb3)
          try replace HL := Aside0.mk (Kd.C_below HL.out hb3)
          try replace HC7 := Aside0.mk (Kd.C_below HC7.out hb3)
          refine hK.out _ _ ⟨(pw_cell_below hb3 hHeld.1), (pw_cell_below hb3 hHeld.2.1), (pw_cell_below hb3 hHeld.2.2.1), (pw_cell_below hb3 hHeld.2.2.2.1), (pw_cell_below hb3 hHeld.2.2.2.2)⟩ (fun hHeld => ?_)
          clear hK K
          refine norm_ (a' := ?_) ?_ ?_
          rotate_left
          · show Act.put _ (some 28) _ = _
            simp only [Act.put, List.setIfInBounds_toArray, List.set_cons_zero, List.set_cons_succ, i64_w, i32_w]
            rfl
          refine one_ (i := 7) (N := some 31) #[true, true, true, true, true, true, true, true, false, false] rfl rfl (by kernel_rfl) (by decide) (fun K hK => ?_)
          refine goes_ Try.func19 (by kernel_rfl) rfl #[.agg #[.int .i64 5, .int .i64 0], .agg #[.int .u64 0, .int .i64 0, .slice A3 0 c3], .agg #[.int .i64 0, .slice A9 1 c9, .slice none 0 0], .int .u64 1] (by rfl) rfl rfl (by simp only [List.map_toArray, List.map_cons, List.map_nil]; rfl) ?_
          with_reducible refine (addText strA 1 1 0 [strA] A3 A9 c3 c9 _ HL.out HLc.out aw4).mono ?_
          rintro e w5 ⟨v5, rfl, ho5, hb5⟩
          refine ⟨_, rfl, ?_⟩
          obtain ⟨A7, c7, rfl, hc7, hC7⟩ := reads1 ho5
          replace HB := Aside0.mk (below_then HB.out HB.out.size hb5)
          replace BK1 := Aside0.mk (cells_below BK1.out hb5)
          replace BK2 := Aside0.mk (cells_below BK2.out hb5)
          replace BK3 := Aside0.mk (cells_below BK3.out hb5)
          replace BK4 := Aside0.mk (cells_below BK4.out hb5)
          replace HC4 := Aside0.mk (Kd.C_below HC4.out hb5)
          try replace HL := Aside0.mk (Kd.C_below HL.out hb5)
          try replace HC7 := Aside0.mk (Kd.C_below HC7.out hb5)
          have HC7 := Aside0.mk hC7
          have HRc7 := Aside0.mk hc7
          clear ho5 hc7 hC7
          refine hK.out _ _ ⟨(pw_cell_below hb5 hHeld.1), (pw_cell_below hb5 hHeld.2.1), (pw_cell_below hb5 hHeld.2.2.1), (pw_cell_below hb5 hHeld.2.2.2.1), (pw_cell_below hb5 hHeld.2.2.2.2)⟩ (fun hHeld => ?_)
          clear hK K
          refine norm_ (a' := ?_) ?_ ?_
          rotate_left
          · show Act.put _ (some 31) _ = _
            simp only [Act.put, List.setIfInBounds_toArray, List.set_cons_zero, List.set_cons_succ, i64_w, i32_w]
            rfl
          refine one_ (i := 8) (N := some 32) #[true, true, true, true, true, true, true, true, true, false] rfl rfl (by kernel_rfl) (by decide) (fun K hK => ?_)
          refine goes_ Try.func17 (by kernel_rfl) rfl #[.agg #[.int .i64 5, .int .i64 0], .agg #[.int .u64 1, .int .i64 0, .slice A4 1 c4], .agg #[.int .u64 1, .int .i64 0, .slice A7 1 c7]] (by rfl) rfl rfl (by simp only [List.map_toArray, List.map_cons, List.map_nil]; rfl) ?_
          with_reducible refine (mergeTexts strB strA 2 0 [strA, strB] A4 A7 c4 c7 _ HC4.out HRc4.out HC7.out HRc7.out aw5).mono ?_
          rintro e w8 ⟨v8, rfl, ho8, hb8⟩
          refine ⟨_, rfl, ?_⟩
          obtain ⟨A8, c8, rfl, hc8, hC8⟩ := reads2 ho8
          replace HB := Aside0.mk (below_then HB.out HB.out.size hb8)
          replace BK1 := Aside0.mk (cells_below BK1.out hb8)
          replace BK2 := Aside0.mk (cells_below BK2.out hb8)
          replace BK3 := Aside0.mk (cells_below BK3.out hb8)
          replace BK4 := Aside0.mk (cells_below BK4.out hb8)
          replace HC4 := Aside0.mk (Kd.C_below HC4.out hb8)
          try replace HL := Aside0.mk (Kd.C_below HL.out hb8)
          try replace HC7 := Aside0.mk (Kd.C_below HC7.out hb8)
          have HR8 := Aside0.mk ho8
          have HRc8 := Aside0.mk hc8
          clear ho8 hc8 hC8
          refine hK.out _ _ ⟨(pw_cell_below hb8 hHeld.1), (pw_cell_below hb8 hHeld.2.1), (pw_cell_below hb8 hHeld.2.2.1), (pw_cell_below hb8 hHeld.2.2.2.1), (pw_cell_below hb8 hHeld.2.2.2.2)⟩ (fun hHeld => ?_)
          clear hK K
          refine norm_ (a' := ?_) ?_ ?_
          rotate_left
          · show Act.put _ (some 32) _ = _
            simp only [Act.put, List.setIfInBounds_toArray, List.set_cons_zero, List.set_cons_succ, i64_w, i32_w]
            rfl
          refine last_ (i := 9) (N := none) #[true, true, true, true, true, true, true, true, true, true] rfl rfl (by kernel_rfl) (by decide) (fun K hK => ?_)
          (have hq_0 := (blk_cell BK4.out 0).trans (show (#[(.int .u64 1 : Value), (.int .i64 0 : Value), (.slice A4 1 c4 : Value)] : Array Value)[0]? = some (.int .u64 1) from rfl); have hqf_0 := blk_frozen BK4.out 0; have hq_1 := (blk_cell BK4.out 1).trans (show (#[(.int .u64 1 : Value), (.int .i64 0 : Value), (.slice A4 1 c4 : Value)] : Array Value)[1]? = some (.int .i64 0) from rfl); have hqf_1 := blk_frozen BK4.out 1; have hq_2 := (blk_cell BK4.out 2).trans (show (#[(.int .u64 1 : Value), (.int .i64 0 : Value), (.slice A4 1 c4 : Value)] : Array Value)[2]? = some (.slice A4 1 c4) from rfl); have hqf_2 := blk_frozen BK4.out 2)
          refine skip_ (w1 := ?_) (by rfl) rfl ?_ ?_
          rotate_left
          · go_simp
            rfl
          refine hK.out _ _ ?_
          clear hK K
          refine done_ (by kernel_rfl) ?_
          go_wp2_with fail
          go_meet
          have b1 := blk_set BK4.out 0 (.int .u64 2)
          have b2 := blk_set b1 1 (.int .i64 0)
          have b3 := blk_set b2 2 (.slice A8 2 c8)
          have r1 := Kd.R_set (Kd.R_set (Kd.R_set HR8.out BK4.out HT.out 0 (.int .u64 2)) b1 HT.out 1 (.int .i64 0)) b2 HT.out 2 (.slice A8 2 c8)
          exact ⟨A8, c8, ⟨blk_far (blk_far (blk_far BK1.out hn14 _) hn14 _) hn14 _⟩, ⟨blk_far (blk_far (blk_far BK2.out hn24 _) hn24 _) hn24 _⟩, ⟨blk_far (blk_far (blk_far BK3.out hn34 _) hn34 _) hn34 _⟩, ⟨b3⟩, ⟨(Kd.R_reads' r1).2.2⟩, HRc8, ⟨below_set (below_set (below_set HB.out HG4.out) HG4.out) HG4.out⟩⟩
      case rest =>
        obtain ⟨A8, c8, BK1, BK2, BK3, BK4, HC8, HRc8, HB⟩ := hcut
        (have hq1_0 := (blk_cell BK1.out 0).trans (show (#[(.int .i64 2 : Value), (.int .i64 0 : Value)] : Array Value)[0]? = some (.int .i64 2) from rfl); have hqf1_0 := blk_frozen BK1.out 0; have hq1_1 := (blk_cell BK1.out 1).trans (show (#[(.int .i64 2 : Value), (.int .i64 0 : Value)] : Array Value)[1]? = some (.int .i64 0) from rfl); have hqf1_1 := blk_frozen BK1.out 1)
        (have hq2_0 := (blk_cell BK2.out 0).trans (show (#[(.int .u64 3 : Value), (.int .i64 5 : Value), (.slice A5 0 c5 : Value)] : Array Value)[0]? = some (.int .u64 3) from rfl); have hqf2_0 := blk_frozen BK2.out 0; have hq2_1 := (blk_cell BK2.out 1).trans (show (#[(.int .u64 3 : Value), (.int .i64 5 : Value), (.slice A5 0 c5 : Value)] : Array Value)[1]? = some (.int .i64 5) from rfl); have hqf2_1 := blk_frozen BK2.out 1; have hq2_2 := (blk_cell BK2.out 2).trans (show (#[(.int .u64 3 : Value), (.int .i64 5 : Value), (.slice A5 0 c5 : Value)] : Array Value)[2]? = some (.slice A5 0 c5) from rfl); have hqf2_2 := blk_frozen BK2.out 2)
        (have hq3_0 := (blk_cell BK3.out 0).trans (show (#[(.int .i64 5 : Value), (.int .i64 0 : Value)] : Array Value)[0]? = some (.int .i64 5) from rfl); have hqf3_0 := blk_frozen BK3.out 0; have hq3_1 := (blk_cell BK3.out 1).trans (show (#[(.int .i64 5 : Value), (.int .i64 0 : Value)] : Array Value)[1]? = some (.int .i64 0) from rfl); have hqf3_1 := blk_frozen BK3.out 1)
        (have hq4_0 := (blk_cell BK4.out 0).trans (show (#[(.int .u64 2 : Value), (.int .i64 0 : Value), (.slice A8 2 c8 : Value)] : Array Value)[0]? = some (.int .u64 2) from rfl); have hqf4_0 := blk_frozen BK4.out 0; have hq4_1 := (blk_cell BK4.out 1).trans (show (#[(.int .u64 2 : Value), (.int .i64 0 : Value), (.slice A8 2 c8 : Value)] : Array Value)[1]? = some (.int .i64 0) from rfl); have hqf4_1 := blk_frozen BK4.out 1; have hq4_2 := (blk_cell BK4.out 2).trans (show (#[(.int .u64 2 : Value), (.int .i64 0 : Value), (.slice A8 2 c8 : Value)] : Array Value)[2]? = some (.slice A8 2 c8) from rfl); have hqf4_2 := blk_frozen BK4.out 2)
        go_wp2_with fail
        refine (value0 2 3 5 5 A5 c5 _ val1).mono ?_
        rintro e w6 ⟨rfl, hb6⟩
        replace HB := Aside0.mk (below_then HB.out HB.out.size hb6)
        replace BK1 := Aside0.mk (cells_below BK1.out hb6)
        replace BK2 := Aside0.mk (cells_below BK2.out hb6)
        replace BK3 := Aside0.mk (cells_below BK3.out hb6)
        replace BK4 := Aside0.mk (cells_below BK4.out hb6)
        replace HC8 := Aside0.mk (Kd.C_below HC8.out hb6)
        clear hq1_0 hqf1_0 hq1_1 hqf1_1 hq2_0 hqf2_0 hq2_1 hqf2_1 hq2_2 hqf2_2 hq3_0 hqf3_0 hq3_1 hqf3_1 hq4_0 hqf4_0 hq4_1 hqf4_1 hq4_2 hqf4_2
        (have hq1_0 := (blk_cell BK1.out 0).trans (show (#[(.int .i64 2 : Value), (.int .i64 0 : Value)] : Array Value)[0]? = some (.int .i64 2) from rfl); have hqf1_0 := blk_frozen BK1.out 0; have hq1_1 := (blk_cell BK1.out 1).trans (show (#[(.int .i64 2 : Value), (.int .i64 0 : Value)] : Array Value)[1]? = some (.int .i64 0) from rfl); have hqf1_1 := blk_frozen BK1.out 1)
        (have hq2_0 := (blk_cell BK2.out 0).trans (show (#[(.int .u64 3 : Value), (.int .i64 5 : Value), (.slice A5 0 c5 : Value)] : Array Value)[0]? = some (.int .u64 3) from rfl); have hqf2_0 := blk_frozen BK2.out 0; have hq2_1 := (blk_cell BK2.out 1).trans (show (#[(.int .u64 3 : Value), (.int .i64 5 : Value), (.slice A5 0 c5 : Value)] : Array Value)[1]? = some (.int .i64 5) from rfl); have hqf2_1 := blk_frozen BK2.out 1; have hq2_2 := (blk_cell BK2.out 2).trans (show (#[(.int .u64 3 : Value), (.int .i64 5 : Value), (.slice A5 0 c5 : Value)] : Array Value)[2]? = some (.slice A5 0 c5) from rfl); have hqf2_2 := blk_frozen BK2.out 2)
        (have hq3_0 := (blk_cell BK3.out 0).trans (show (#[(.int .i64 5 : Value), (.int .i64 0 : Value)] : Array Value)[0]? = some (.int .i64 5) from rfl); have hqf3_0 := blk_frozen BK3.out 0; have hq3_1 := (blk_cell BK3.out 1).trans (show (#[(.int .i64 5 : Value), (.int .i64 0 : Value)] : Array Value)[1]? = some (.int .i64 0) from rfl); have hqf3_1 := blk_frozen BK3.out 1)
        (have hq4_0 := (blk_cell BK4.out 0).trans (show (#[(.int .u64 2 : Value), (.int .i64 0 : Value), (.slice A8 2 c8 : Value)] : Array Value)[0]? = some (.int .u64 2) from rfl); have hqf4_0 := blk_frozen BK4.out 0; have hq4_1 := (blk_cell BK4.out 1).trans (show (#[(.int .u64 2 : Value), (.int .i64 0 : Value), (.slice A8 2 c8 : Value)] : Array Value)[1]? = some (.int .i64 0) from rfl); have hqf4_1 := blk_frozen BK4.out 1; have hq4_2 := (blk_cell BK4.out 2).trans (show (#[(.int .u64 2 : Value), (.int .i64 0 : Value), (.slice A8 2 c8 : Value)] : Array Value)[2]? = some (.slice A8 2 c8) from rfl); have hqf4_2 := blk_frozen BK4.out 2)
        clear hb6
        go_wp2_with fail
        refine (value2 5 2 0 2 strA strB A8 c8 _ HC8.out HRc8.out val2).mono ?_
        rintro e w7 ⟨rfl, hb7⟩
        replace HB := Aside0.mk (below_then HB.out HB.out.size hb7)
        replace BK1 := Aside0.mk (cells_below BK1.out hb7)
        replace BK2 := Aside0.mk (cells_below BK2.out hb7)
        replace BK3 := Aside0.mk (cells_below BK3.out hb7)
        replace BK4 := Aside0.mk (cells_below BK4.out hb7)
        replace HC8 := Aside0.mk (Kd.C_below HC8.out hb7)
        clear hq1_0 hqf1_0 hq1_1 hqf1_1 hq2_0 hqf2_0 hq2_1 hqf2_1 hq2_2 hqf2_2 hq3_0 hqf3_0 hq3_1 hqf3_1 hq4_0 hqf4_0 hq4_1 hqf4_1 hq4_2 hqf4_2
        (have hq1_0 := (blk_cell BK1.out 0).trans (show (#[(.int .i64 2 : Value), (.int .i64 0 : Value)] : Array Value)[0]? = some (.int .i64 2) from rfl); have hqf1_0 := blk_frozen BK1.out 0; have hq1_1 := (blk_cell BK1.out 1).trans (show (#[(.int .i64 2 : Value), (.int .i64 0 : Value)] : Array Value)[1]? = some (.int .i64 0) from rfl); have hqf1_1 := blk_frozen BK1.out 1)
        (have hq2_0 := (blk_cell BK2.out 0).trans (show (#[(.int .u64 3 : Value), (.int .i64 5 : Value), (.slice A5 0 c5 : Value)] : Array Value)[0]? = some (.int .u64 3) from rfl); have hqf2_0 := blk_frozen BK2.out 0; have hq2_1 := (blk_cell BK2.out 1).trans (show (#[(.int .u64 3 : Value), (.int .i64 5 : Value), (.slice A5 0 c5 : Value)] : Array Value)[1]? = some (.int .i64 5) from rfl); have hqf2_1 := blk_frozen BK2.out 1; have hq2_2 := (blk_cell BK2.out 2).trans (show (#[(.int .u64 3 : Value), (.int .i64 5 : Value), (.slice A5 0 c5 : Value)] : Array Value)[2]? = some (.slice A5 0 c5) from rfl); have hqf2_2 := blk_frozen BK2.out 2)
        (have hq3_0 := (blk_cell BK3.out 0).trans (show (#[(.int .i64 5 : Value), (.int .i64 0 : Value)] : Array Value)[0]? = some (.int .i64 5) from rfl); have hqf3_0 := blk_frozen BK3.out 0; have hq3_1 := (blk_cell BK3.out 1).trans (show (#[(.int .i64 5 : Value), (.int .i64 0 : Value)] : Array Value)[1]? = some (.int .i64 0) from rfl); have hqf3_1 := blk_frozen BK3.out 1)
        (have hq4_0 := (blk_cell BK4.out 0).trans (show (#[(.int .u64 2 : Value), (.int .i64 0 : Value), (.slice A8 2 c8 : Value)] : Array Value)[0]? = some (.int .u64 2) from rfl); have hqf4_0 := blk_frozen BK4.out 0; have hq4_1 := (blk_cell BK4.out 1).trans (show (#[(.int .u64 2 : Value), (.int .i64 0 : Value), (.slice A8 2 c8 : Value)] : Array Value)[1]? = some (.int .i64 0) from rfl); have hqf4_1 := blk_frozen BK4.out 1; have hq4_2 := (blk_cell BK4.out 2).trans (show (#[(.int .u64 2 : Value), (.int .i64 0 : Value), (.slice A8 2 c8 : Value)] : Array Value)[2]? = some (.slice A8 2 c8) from rfl); have hqf4_2 := blk_frozen BK4.out 2)
        clear hb7
        go_wp2_with fail
        refine (check1 0 0 2 0 1 _ _ (C_agg1 (heap_alloc_new _ (.cells #[.int .i64 2, .int .i64 0] 23))) chk).mono ?_
        rintro e w8 ⟨rfl, hb8⟩
        replace HB := Aside0.mk (below_then (below_alloc' HB.out (.cells #[.int .i64 2, .int .i64 0] 23)) (below_alloc' HB.out (.cells #[.int .i64 2, .int .i64 0] 23)).size hb8)
        clear hb8
        go_wp2_with fail
        go_ret
        exact ⟨rfl, HB.out⟩
def gristmilllaw06_awake.f : Option Bool := some true
theorem gristmilllaw06_awake.calls (r : Bool) (w : World) (h : gristmilllaw06_awake.f = some r) : Calls Try.prog 10 #[] w fun e w' => e = .returned (.bool r) ∧ Below w.heap.size w w' := by
  injection h with h
  subst h
  exact gristmilllaw06_awake.calls0 w
end Go.Proofs.Ytmjhgeinhhhodaa.P
end

section
namespace Go.Proofs.Ytmjhgeinhhhodaa.P
open Go.RowKit Go.Proofs.YtmjhgeinhhhodaaW.PrintWords Go.Proofs.YtmjhgeinhhhodaaW.PrintLast Go.Proofs.YtmjhgeinhhhodaaW.PrintMore
attribute [local go_sem] max2_int min2_int max_two min_two max_three min_three max_four min_four   -- for this text's walks alone
set_option linter.unusedVariables false
set_option linter.unusedSimpArgs false
open Go.Proofs.Ytmjhgeinhhhodaa.Ext (q1_ q2_ q3_ bk_ bw_ sz_ ne_ bx_)
attribute [local go_sem high] Go.Proofs.Ytmjhgeinhhhodaa.Ext.gtr_str Go.Proofs.Ytmjhgeinhhhodaa.Ext.leq_str Go.Proofs.Ytmjhgeinhhhodaa.Ext.geq_str
mutual
def gristmilllaw06_AggBags.l0 : Nat → List (S44) → List (S44) → Int → Int → Int → Option (Bool)
 | 0, _, _, _, _, _ => none
 | k + 1, x8, x9, x10, x532000, x532001 => if x10 < (x8.length : Int) then (gristmilllaw06_AggBags.l1 k x8 x9 x10 0 x532000 x532001) else ((gristmilllaw06_of.f k x532000 x532001 x9).bind fun bt537 => ((gristmillref04_Own.f k x9).bind fun t542 => ((gristmilllaw06_of.f k x532000 x532001 t542).bind fun bt545 => ((gristmillref06_Same.f k bt537.1 bt537.2.1 bt537.2.2 bt545.1 bt545.2.1 bt545.2.2).bind fun t550 => (some t550)))))
def gristmilllaw06_AggBags.l1 : Nat → List (S44) → List (S44) → Int → Int → Int → Int → Option (Bool)
 | 0, _, _, _, _, _, _ => none
 | k + 1, x8, x9, x10, x11, x532000, x532001 => if 0 ≤ x10 then (if x10 < (x8.length : Int) then (if x11 < (Int.tmod ((rd_T44 x8 x10).f1) 5) then (if x9.length < 2199023255552 then (gristmilllaw06_AggBags.l1 k x8 (x9 ++ [(⟨(⟨(rd_T44 x8 x10).f0.f0, (rd_T44 x8 x10).f0.f1, (rd_T44 x8 x10).f0.f2⟩ : S42), 1⟩ : S44)]) x10 (IntKind.u64.wrap (x11 + 1)) x532000 x532001) else (none)) else (gristmilllaw06_AggBags.l0 k x8 x9 (wrap64 (x10 + 1)) x532000 x532001)) else (none)) else (none)
end
def gristmilllaw06_AggBags.f (k : Nat) (a0_0 : Int) (a0_1 : Int) (l1 : List (S44)) : Option (Bool) := (gristmilllaw06_awake.f).bind fun t522 => (if t522 = true then ((gristmilllaw06_right.f k a0_0 a0_1 l1).bind fun bt523 => (gristmilllaw06_AggBags.l0 k bt523.2.2.2.2 ([] : List (S44)) 0 bt523.2.2.1 bt523.2.2.2.1)) else (some false))
def gristmilllaw06_AggBags.T13 : Bool × List (List Nat × List Nat) := (true, [([], []), ([], []), ([0, 1], [0, 1]), ([], []), ([], []), ([4, 2], [4]), ([3, 5, 5], [3, 5]), ([2, 6, 6], [2, 6]), ([7, 7, 0, 1, 2, 3, 4, 5, 6, 7], [7])])
def gristmilllaw06_AggBags.B13 : List Nat := [0, 0, 3, 0, 0, 23, 63, 127, 255]
theorem gristmilllaw06_AggBags.tab13 : rtab .any (opsOf Try.f7 13) = gristmilllaw06_AggBags.T13 := by kernel_rfl
theorem gristmilllaw06_AggBags.bits13 : waitsOk gristmilllaw06_AggBags.T13.2 gristmilllaw06_AggBags.B13 = true := by kernel_rfl
set_option maxHeartbeats 8000000 in
set_option maxRecDepth 100000 in
theorem gristmilllaw06_AggBags.calls (k : Nat) (a0_0 : Int) (a0_1 : Int) (A1 : Option Addr) (c1 : Nat) (l1 : List (S44)) (r : Bool) (w : World) (hr1 : Kd.C k44 w A1 l1.length l1) (hc1 : l1.length ≤ c1) (h : gristmilllaw06_AggBags.f k a0_0 a0_1 l1 = some r) :
  Calls Try.prog 7 #[.agg #[.int .i64 a0_0, .int .i64 a0_1], .slice A1 l1.length c1] w fun e w' => e = .returned (.bool r) ∧ Below w.heap.size w w' := by
 have hu23 := Try.underlying23
 have hu27 := Try.underlying27
 have hu42 := Try.underlying42
 have hu44 := Try.underlying44
 have HR1 := Aside0.mk hr1
 have HC1 := Aside0.mk hc1
 clear hr1 hc1
 have HB := Aside0.mk (Below.refl w.heap.size w)
 have H : ((gristmilllaw06_awake.f).bind fun t522 => (if t522 = true then ((gristmilllaw06_right.f k a0_0 a0_1 l1).bind fun bt523 => (gristmilllaw06_AggBags.l0 k bt523.2.2.2.2 ([] : List (S44)) 0 bt523.2.2.1 bt523.2.2.2.1)) else (some false))) = some r := h
 clear h
 replace H := Option.bind_eq_some_iff.mp H
 obtain ⟨t522, A30, H⟩ := H
 replace H : (if t522 = true then ((gristmilllaw06_right.f k a0_0 a0_1 l1).bind fun bt523 => (gristmilllaw06_AggBags.l0 k bt523.2.2.2.2 ([] : List (S44)) 0 bt523.2.2.1 bt523.2.2.2.1)) else (some false)) = some r := H
 have A3 := Aside0.mk A30
 clear A30
 by_cases c4 : t522 = true
 ·subst c4
  have H1 : ((gristmilllaw06_right.f k a0_0 a0_1 l1).bind fun bt523 => (gristmilllaw06_AggBags.l0 k bt523.2.2.2.2 ([] : List (S44)) 0 bt523.2.2.1 bt523.2.2.2.1)) = some r := by rw [if_pos rfl] at H; exact H
  clear H
  have H := H1
  clear H1
  replace H := Option.bind_eq_some_iff.mp H
  obtain ⟨⟨t523, t524, t525, t526, t527⟩, A50, H⟩ := H
  replace H : (gristmilllaw06_AggBags.l0 k t527 ([] : List (S44)) 0 t525 t526) = some r := H
  have A5 := Aside0.mk A50
  clear A50
  have H' := Aside0.mk H
  clear H
  go_enter Try.func7, Try.ntmps7
  go_wp2_with (first | ((with_reducible refine gate_dst (N := 2) rfl ?_); refine bx_ (N := 2) (cs := #[.int .i64 a0_0, .int .i64 a0_1]) (t := 23) ?_; intro gb521 hg w6 hbox hb; have n0_ := Aside0.mk (below_step (bw_ HB.out) hb); have n1_ := Aside0.mk (hbox); have n2_ := Aside0.mk (sz_ hg (bw_ HB.out)); have n3_ := n2_; clear HB; have HB := n0_; have BK521 := n1_; have GW521 := n2_; have GE521 := n3_; clear n0_ n1_ n2_ n3_; clear hb hbox hg) | ((with_reducible refine gate_callee (f := 10) rfl ?_); refine goesL_ (some 12) rfl rfl Try.func10 (by kernel_rfl) rfl #[] rfl (by (try simp only [List.map_toArray, List.map_cons, List.map_nil]); first | done | rfl | (simp only [List.length_drop, List.length_take]; rfl)) ?_; (with_reducible refine (gristmilllaw06_awake.calls  true _ A3.out).mono ?_); rintro e w7 ⟨rfl, hb⟩; refine ⟨_, rfl, ?_⟩; have n0_ := Aside0.mk (blk_below (bk_ BK521.out) hb); have n1_ := Aside0.mk (below_step (bw_ HB.out) hb); clear BK521 HB; have BK521 := n0_; have HB := n1_; clear n0_ n1_; (try clear hb); (try clear hb2); (try clear hk); (try clear hi); have hcz8_0 : w7.cell? ⟨gb521, 0, none⟩ = some (.int .i64 a0_0) := (blk_cell BK521.out 0).trans rfl; have hcz8_1 : w7.cell? ⟨gb521, 1, none⟩ = some (.int .i64 a0_1) := (blk_cell BK521.out 1).trans rfl; have hfz8_0 := blk_frozen BK521.out 0; have hfz8_1 := blk_frozen BK521.out 1) | ((with_reducible refine gate_callee (f := 11) rfl ?_); refine goesL_ (some 18) rfl rfl Try.func11 (by kernel_rfl) rfl #[.agg #[.int .i64 a0_0, .int .i64 a0_1], .slice A1 l1.length c1] rfl (by (try simp only [List.map_toArray, List.map_cons, List.map_nil]); first | done | rfl | (simp only [List.length_drop, List.length_take]; rfl)) ?_; (with_reducible refine (gristmilllaw06_right.calls k a0_0 a0_1 _ _ l1 t523 t524 t525 t526 t527 _ ?side1 ?side2 A5.out).mono ?_); (case side1 => repeat (first | exact (Kd.C_below HR1.out HB.out) | (with_reducible refine Kd.C_alloc ?_ _) | (with_reducible refine Kd.C_drewN ?_ _) | (with_reducible refine Kd.C_drew ?_))); (case side2 => exact HC1.out); rintro e w9 ⟨v528, rfl, ho0, hb⟩; refine ⟨_, rfl, ?_⟩; have n0_ := Aside0.mk (Kd.N_lower (Kd.N_mono (ok' := fun k_ => k_ ≠ gb521) (Kd.S_N (Kd.S_bound ho0)) (fun k_ hk_ => (Kd.freshB (g := gb521) (o := .cells #[.int .i64 a0_0, .int .i64 a0_1] 23 (0, 0)) (bk_ BK521.out) k_ hk_.2.1))) (below_size (bw_ HB.out))); have n1_ := Aside0.mk (blk_below (bk_ BK521.out) hb); have n2_ := Aside0.mk (below_step (bw_ HB.out) hb); clear BK521 HB; have HO529 := n0_; have BK521 := n1_; have HB := n2_; clear n0_ n1_ n2_; (try clear hb); (try clear hb2); (try clear hk); (try clear hi); (try clear ho0)) | ((with_reducible refine gate_dst (N := 6) rfl ?_); refine bx_ (N := 6) (cs := #[.int .i64 0, .int .i64 0]) (t := 27) ?_; intro gb530 hg w10 hbox hb; have n0_ := Aside0.mk (Kd.N_below (Kd.N_elderB (by (with_reducible repeat (first | apply Kd.N_alloc | apply Kd.N_drewN | apply Kd.N_drew)); exact HO529.out) gb530 (Nat.le_of_eq hg.symm)) hb); have n1_ := Aside0.mk (blk_below (bk_ BK521.out) hb); have n2_ := Aside0.mk (below_step (bw_ HB.out) hb); have n3_ := Aside0.mk (hbox); have n4_ := Aside0.mk (sz_ hg (bw_ HB.out)); have n5_ := n4_; have n6_ := Aside0.mk (ne_ hg (blk_lt (bk_ BK521.out))); have n7_ := Aside0.mk n6_.out.symm; clear HO529 BK521 HB; have HO529 := n0_; have BK521 := n1_; have HB := n2_; have BK530 := n3_; have GW530 := n4_; have GE530 := n5_; have NB521_530 := n6_; have NB530_521 := n7_; clear n0_ n1_ n2_ n3_ n4_ n5_ n6_ n7_; clear hb hbox hg) | ((with_reducible refine gate_dst (N := 7) rfl ?_); refine bx_ (N := 7) (cs := #[.int .i64 0, .int .i64 0]) (t := 23) ?_; intro gb531 hg w11 hbox hb; have n0_ := Aside0.mk (Kd.N_below (Kd.N_elderB (by (with_reducible repeat (first | apply Kd.N_alloc | apply Kd.N_drewN | apply Kd.N_drew)); exact HO529.out) gb531 (Nat.le_of_eq hg.symm)) hb); have n1_ := Aside0.mk (blk_below (bk_ BK521.out) hb); have n2_ := Aside0.mk (blk_below (bk_ BK530.out) hb); have n3_ := Aside0.mk (below_step (bw_ HB.out) hb); have n4_ := Aside0.mk (hbox); have n5_ := Aside0.mk (sz_ hg (bw_ HB.out)); have n6_ := n5_; have n7_ := Aside0.mk (ne_ hg (blk_lt (bk_ BK521.out))); have n8_ := Aside0.mk n7_.out.symm; have n9_ := Aside0.mk (ne_ hg (blk_lt (bk_ BK530.out))); have n10_ := Aside0.mk n9_.out.symm; clear HO529 BK521 BK530 HB; have HO529 := n0_; have BK521 := n1_; have BK530 := n2_; have HB := n3_; have BK531 := n4_; have GW531 := n5_; have GE531 := n6_; have NB521_531 := n7_; have NB531_521 := n8_; have NB530_531 := n9_; have NB531_530 := n10_; clear n0_ n1_ n2_ n3_ n4_ n5_ n6_ n7_ n8_ n9_ n10_; clear hb hbox hg; have hnb12 := NB530_521.out; have hnc12 := NB521_530.out; have hnb13 := NB530_531.out; have hnc13 := NB531_530.out; have hcz14_0 : w11.cell? ⟨gb530, 0, none⟩ = some (.int .i64 0) := (blk_cell BK530.out 0).trans rfl; have hcz14_1 : w11.cell? ⟨gb530, 1, none⟩ = some (.int .i64 0) := (blk_cell BK530.out 1).trans rfl; have hfz14_0 := blk_frozen BK530.out 0; have hfz14_1 := blk_frozen BK530.out 1; have hnb15 := NB531_521.out; have hnc15 := NB521_531.out; have hcz16_0 : w11.cell? ⟨gb531, 0, none⟩ = some (.int .i64 0) := (blk_cell BK531.out 0).trans rfl; have hcz16_1 : w11.cell? ⟨gb531, 1, none⟩ = some (.int .i64 0) := (blk_cell BK531.out 1).trans rfl; have hfz16_0 := blk_frozen BK531.out 0; have hfz16_1 := blk_frozen BK531.out 1))
  go_loopg [9, 10] k (fun kq v9 v10 w' => ∃ (x9_1 : List (S44)) (x10_1 : Int), v10 = .int .i64 x10_1 ∧ Aside0 (gristmilllaw06_AggBags.l0 kq t527 x9_1 x10_1 t525 t526 = some r) ∧ Aside0 (kq ≤ k) ∧ Aside0 (Kd.N k44 44 w' w.heap.size (fun k_ => some k_ ≠ (v9 : Value).ownBlock ∧ k_ ≠ gb521 ∧ k_ ≠ gb530 ∧ k_ ≠ gb531) v528 t527) ∧ Aside0 (Kd.N k44 44 w' w.heap.size (fun k_ => some k_ ≠ (v528 : Value).ownBlock ∧ k_ ≠ gb521 ∧ k_ ≠ gb530 ∧ k_ ≠ gb531) v9 x9_1) ∧ Aside0 (w'.heap[gb521]? = some (.cells #[.int .i64 a0_0, .int .i64 a0_1] 23 (0, 0))) ∧ Aside0 (w'.heap[gb530]? = some (.cells #[.int .i64 t523, .int .i64 t524] 27 (0, 0))) ∧ Aside0 (w'.heap[gb531]? = some (.cells #[.int .i64 t525, .int .i64 t526] 23 (0, 0))) ∧ Aside0 (Below w.heap.size w w'))
  case atStart => exact ⟨(([] : List (S44))), (0), (by first | rfl | (simp; done) | (simp [*]; done)), H', ⟨Nat.le_refl _⟩, ⟨by (with_reducible repeat (first | apply Kd.N_alloc | apply Kd.N_drewN | apply Kd.N_drew)); exact Kd.N_mono (Kd.N_far (p := ⟨gb531, 1, none⟩) (Kd.N_far (p := ⟨gb531, 0, none⟩) (Kd.N_far (p := ⟨gb530, 1, none⟩) (Kd.N_far (p := ⟨gb530, 0, none⟩) (Kd.N_mono (Kd.N_mono HO529.out (fun k_ hk => (⟨hk, hk.1.2⟩ : _ ∧ k_ ≠ gb530))) (fun k_ hk => (⟨hk, hk.1.2⟩ : _ ∧ k_ ≠ gb531))) (fun _ hk => hk.1.2) (.int .i64 t523)) (fun _ hk => hk.1.2) (.int .i64 t524)) (fun _ hk => hk.2) (.int .i64 t525)) (fun _ hk => hk.2) (.int .i64 t526)) (fun _ hk => ⟨(by simp [Value.ownBlock]), ⟨hk.1.1.1.1, ⟨hk.1.1.1.2, hk.1.1.2⟩⟩⟩)⟩, ⟨by first | exact Kd.S_nil _ _ _ _ _ | exact Kd.N_nil _ _ _ _ _ | exact Kd.V_nil _ _ _ _ _ | exact Kd.Q_nil _ _ _ _ _ | exact Kd.R_nil _ _ _ _ _⟩, ⟨by (with_reducible repeat (first | refine blk_drewN ?_ _ | refine blk_drew ?_ | refine blk_alloc ?_ _)); refine blk_far ?_ NB521_531.out _; (with_reducible repeat (first | refine blk_drewN ?_ _ | refine blk_drew ?_ | refine blk_alloc ?_ _)); refine blk_far ?_ NB521_531.out _; (with_reducible repeat (first | refine blk_drewN ?_ _ | refine blk_drew ?_ | refine blk_alloc ?_ _)); refine blk_far ?_ NB521_530.out _; (with_reducible repeat (first | refine blk_drewN ?_ _ | refine blk_drew ?_ | refine blk_alloc ?_ _)); refine blk_far ?_ NB521_530.out _; (with_reducible repeat (first | refine blk_drewN ?_ _ | refine blk_drew ?_ | refine blk_alloc ?_ _)); exact BK521.out⟩, ⟨by (with_reducible repeat (first | refine blk_drewN ?_ _ | refine blk_drew ?_ | refine blk_alloc ?_ _)); refine blk_far ?_ NB530_531.out _; (with_reducible repeat (first | refine blk_drewN ?_ _ | refine blk_drew ?_ | refine blk_alloc ?_ _)); refine blk_far ?_ NB530_531.out _; (with_reducible repeat (first | refine blk_drewN ?_ _ | refine blk_drew ?_ | refine blk_alloc ?_ _)); refine blk_put (cs := #[.int .i64 t523, .int .i64 0]) ?_ 1 _ rfl; (with_reducible repeat (first | refine blk_drewN ?_ _ | refine blk_drew ?_ | refine blk_alloc ?_ _)); refine blk_put (cs := #[.int .i64 0, .int .i64 0]) ?_ 0 _ rfl; (with_reducible repeat (first | refine blk_drewN ?_ _ | refine blk_drew ?_ | refine blk_alloc ?_ _)); exact BK530.out⟩, ⟨by (with_reducible repeat (first | refine blk_drewN ?_ _ | refine blk_drew ?_ | refine blk_alloc ?_ _)); refine blk_put (cs := #[.int .i64 t525, .int .i64 0]) ?_ 1 _ rfl; (with_reducible repeat (first | refine blk_drewN ?_ _ | refine blk_drew ?_ | refine blk_alloc ?_ _)); refine blk_put (cs := #[.int .i64 0, .int .i64 0]) ?_ 0 _ rfl; (with_reducible repeat (first | refine blk_drewN ?_ _ | refine blk_drew ?_ | refine blk_alloc ?_ _)); refine blk_far ?_ NB531_530.out _; (with_reducible repeat (first | refine blk_drewN ?_ _ | refine blk_drew ?_ | refine blk_alloc ?_ _)); refine blk_far ?_ NB531_530.out _; (with_reducible repeat (first | refine blk_drewN ?_ _ | refine blk_drew ?_ | refine blk_alloc ?_ _)); exact BK531.out⟩, ⟨by repeat (first | (with_reducible first | exact HB.out | apply below_alloc | apply pw_below_drewN | apply below_drew1 | refine below_set ?_ GE521.out | refine below_set ?_ GE530.out | refine below_set ?_ GE531.out) | exact HB.out)⟩⟩
  case round =>
   clear H'
   try clear c1
   try clear p2
   try clear c4
   try clear c7
   try clear c10
   try clear c11
   try clear c12
   try clear c13
   try clear c15
   try clear hcz14_0
   try clear hcz14_1
   try clear hcz16_0
   try clear hcz16_1
   try clear hcz8_0
   try clear hcz8_1
   try clear hfz14_0
   try clear hfz14_1
   try clear hfz16_0
   try clear hfz16_1
   try clear hfz8_0
   try clear hfz8_1
   obtain ⟨x9_1, x10_1, rfl, HA, HK1, HO_8, HO_9, BK521, BK530, BK531, HB⟩ := hrel
   cases gk with
   | zero => exact absurd HA.out (by simp [gristmilllaw06_AggBags.l0])
   | succ k1 =>
    have H := HA.out
    clear HA
    simp only [gristmilllaw06_AggBags.l0] at H
    by_cases c17 : x10_1 < (t527.length : Int)
    ·rw [if_pos c17] at H
     have c17b0 : decide (x10_1 < (t527.length : Int)) = true := decide_eq_true c17
     clear c17
     have H' := Aside0.mk H
     clear H
     obtain ⟨Ao18, co18, eo18⟩ := Kd.N_slice HO_8.out
     subst eo18
     go_wp2
     go_loopg [9, 11] k1 (fun kq v9 v11 w' => ∃ (x9_2 : List (S44)) (x11_2 : Int), v11 = .int .u64 x11_2 ∧ Aside0 (gristmilllaw06_AggBags.l1 kq t527 x9_2 x10_1 x11_2 t525 t526 = some r) ∧ Aside0 (kq ≤ k1) ∧ Aside0 (Kd.N k44 44 w' w.heap.size (fun k_ => some k_ ≠ (v9 : Value).ownBlock ∧ k_ ≠ gb521 ∧ k_ ≠ gb530 ∧ k_ ≠ gb531) (.slice Ao18 t527.length co18) t527) ∧ Aside0 (Kd.N k44 44 w' w.heap.size (fun k_ => some k_ ≠ ((.slice Ao18 t527.length co18) : Value).ownBlock ∧ k_ ≠ gb521 ∧ k_ ≠ gb530 ∧ k_ ≠ gb531) v9 x9_2) ∧ Aside0 (w'.heap[gb521]? = some (.cells #[.int .i64 a0_0, .int .i64 a0_1] 23 (0, 0))) ∧ Aside0 (w'.heap[gb530]? = some (.cells #[.int .i64 t523, .int .i64 t524] 27 (0, 0))) ∧ Aside0 (w'.heap[gb531]? = some (.cells #[.int .i64 t525, .int .i64 t526] 23 (0, 0))) ∧ Aside0 (Below w.heap.size w w'))
     case atStart => exact ⟨(x9_1), (0), (by first | rfl | (simp; done) | (simp [*]; done)), H', ⟨Nat.le_refl _⟩, ⟨by (with_reducible repeat (first | apply Kd.N_alloc | apply Kd.N_drewN | apply Kd.N_drew)); exact HO_8.out⟩, ⟨by (with_reducible repeat (first | apply Kd.N_alloc | apply Kd.N_drewN | apply Kd.N_drew)); exact HO_9.out⟩, ⟨by (with_reducible repeat (first | refine blk_drewN ?_ _ | refine blk_drew ?_ | refine blk_alloc ?_ _)); exact BK521.out⟩, ⟨by (with_reducible repeat (first | refine blk_drewN ?_ _ | refine blk_drew ?_ | refine blk_alloc ?_ _)); exact BK530.out⟩, ⟨by (with_reducible repeat (first | refine blk_drewN ?_ _ | refine blk_drew ?_ | refine blk_alloc ?_ _)); exact BK531.out⟩, ⟨by repeat (first | (with_reducible first | exact HB.out | apply below_alloc | apply pw_below_drewN | apply below_drew1 | refine below_set ?_ GE521.out | refine below_set ?_ GE530.out | refine below_set ?_ GE531.out) | exact HB.out)⟩⟩
     case round =>
      clear H'
      try clear c1
      try clear p2
      try clear c4
      try clear c7
      try clear c10
      try clear c11
      try clear c12
      try clear c13
      try clear c15
      try clear c17
      try clear c17b0
      try clear hcz14_0
      try clear hcz14_1
      try clear hcz16_0
      try clear hcz16_1
      try clear hcz8_0
      try clear hcz8_1
      try clear hfz14_0
      try clear hfz14_1
      try clear hfz16_0
      try clear hfz16_1
      try clear hfz8_0
      try clear hfz8_1
      try clear p2
      obtain ⟨x9_2, x11_2, rfl, HA, HK2, HO_8, HO_9, BK521, BK530, BK531, HB⟩ := hrel
      cases gk with
      | zero => exact absurd HA.out (by simp [gristmilllaw06_AggBags.l1])
      | succ k2 =>
       have H := HA.out
       clear HA
       simp only [gristmilllaw06_AggBags.l1] at H
       by_cases c19 : 0 ≤ x10_1
       ·rw [if_pos c19] at H
        have c19b0 : decide (0 ≤ x10_1) = true := decide_eq_true c19
        clear c19
        by_cases c20 : x10_1 < (t527.length : Int)
        ·rw [if_pos c20] at H
         have c20b0 : decide (x10_1 < (t527.length : Int)) = true := decide_eq_true c20
         clear c20
         by_cases c21 : x11_2 < (Int.tmod ((rd_T44 t527 x10_1).f1) 5)
         ·rw [if_pos c21] at H
          have c21b0 : decide (x11_2 < (Int.tmod ((rd_T44 t527 x10_1).f1) 5)) = true := decide_eq_true c21
          clear c21
          by_cases c22 : x9_2.length < 2199023255552
          ·rw [if_pos c22] at H
           have LMc22 := Aside0.mk c22
           clear c22
           obtain ⟨y534, hy534⟩ : ∃ y_ : List (S44), y_ = (x9_2 ++ [(⟨(⟨(rd_T44 t527 x10_1).f0.f0, (rd_T44 t527 x10_1).f0.f1, (rd_T44 t527 x10_1).f0.f2⟩ : S42), 1⟩ : S44)]) := ⟨_, rfl⟩
           replace H : (gristmilllaw06_AggBags.l1 k2 t527 y534 x10_1 (IntKind.u64.wrap (x11_2 + 1)) t525 t526) = some r := by first | (rw [hy534]; with_reducible exact H) | (have H2_ := (Option.bind_some _ _).symm.trans H; rw [hy534]; with_reducible exact H2_) | (have H2_ := (Option.bind_some _ _).symm.trans H; with_reducible exact H2_) | with_reducible exact H | (rw [hy534]; exact H) | exact H
           have Ny534 := Aside0.mk hy534
           clear hy534
           have H' := Aside0.mk H
           clear H
           have p532 : 0 ≤ (x10_1 : Int) := of_decide_eq_true (by assumption)
           have q532 : x10_1 < (t527.length : Int) := of_decide_eq_true (by assumption)
           obtain ⟨ad532, A532_1, c532_1, A532_2, c532_2, e532, hx532_0, hx532_1, hx532_2, hx532_3, hl532_1, hi532_1, hl532_2, hi532_2⟩ := at_T44 (Kd.N_reads' HO_8.out).2.2 x10_1 p532 q532
           cases e532
           obtain ⟨ce532, hce532, hMe532, hcc532⟩ := Kd.N_get HO_8.out z44 x10_1 p532 (by first | exact q532 | exact of_decide_eq_true (by assumption) | (have e_ := (Kd.N_reads' HO_8.out).1; omega))
           obtain ⟨ua532_1, uc532_1, ua532_2, uc532_2, rfl, ul532_1, ge532_1, ul532_2, ge532_2⟩ := k44_openF hMe532
           have hv532_1 := hcc532 1 _ rfl
           rw [add_field _ _ 1 (by omega)] at hv532_1
           replace hv532_1 := Option.some.inj (hv532_1.symm.trans hx532_1)
           injection hv532_1 with hva_ hvn_ hvc_
           rw [hva_] at ge532_1
           rw [hvc_] at ul532_1
           have HL532_1 := Aside0.mk (show Kd.V Kd.string 9 _ w.heap.size _ _ ((rd_T44 t527 x10_1).f0.f1) from Kd.V_mk ul532_1 ge532_1)
           clear hva_ hvn_ hvc_ ge532_1 ul532_1
           have hv532_2 := hcc532 2 _ rfl
           rw [add_field _ _ 2 (by omega)] at hv532_2
           replace hv532_2 := Option.some.inj (hv532_2.symm.trans hx532_2)
           injection hv532_2 with hva_ hvn_ hvc_
           rw [hva_] at ge532_2
           rw [hvc_] at ul532_2
           have HL532_2 := Aside0.mk (show Kd.V (Kd.int .i64) 2 _ w.heap.size _ _ ((rd_T44 t527 x10_1).f0.f2) from Kd.V_mk ul532_2 ge532_2)
           clear hva_ hvn_ hvc_ ge532_2 ul532_2
           clear hcc532 hce532
           have HR532_1 := Aside0.mk hi532_1
           have HC532_1 := Aside0.mk hl532_1
           clear hi532_1 hl532_1
           have HR532_2 := Aside0.mk hi532_2
           have HC532_2 := Aside0.mk hl532_2
           clear hi532_2 hl532_2
           replace p532 := eq_true p532
           replace q532 := eq_true q532
           have p533 : 0 ≤ (x10_1 : Int) := of_decide_eq_true (by assumption)
           have q533 : x10_1 < (t527.length : Int) := of_decide_eq_true (by assumption)
           obtain ⟨ad533, A533_1, c533_1, A533_2, c533_2, e533, hx533_0, hx533_1, hx533_2, hx533_3, hl533_1, hi533_1, hl533_2, hi533_2⟩ := at_T44 (Kd.N_reads' HO_8.out).2.2 x10_1 p533 q533
           obtain rfl : ad532 = ad533 := (by injection e533)
           obtain ⟨ce533, hce533, hMe533, hcc533⟩ := Kd.N_get HO_8.out z44 x10_1 p533 (by first | exact q533 | exact of_decide_eq_true (by assumption) | (have e_ := (Kd.N_reads' HO_8.out).1; omega))
           obtain ⟨ua533_1, uc533_1, ua533_2, uc533_2, rfl, ul533_1, ge533_1, ul533_2, ge533_2⟩ := k44_openF hMe533
           have hv533_1 := hcc533 1 _ rfl
           rw [add_field _ _ 1 (by omega)] at hv533_1
           replace hv533_1 := Option.some.inj (hv533_1.symm.trans hx533_1)
           injection hv533_1 with hva_ hvn_ hvc_
           rw [hva_] at ge533_1
           rw [hvc_] at ul533_1
           have HL533_1 := Aside0.mk (show Kd.V Kd.string 9 _ w.heap.size _ _ ((rd_T44 t527 x10_1).f0.f1) from Kd.V_mk ul533_1 ge533_1)
           clear hva_ hvn_ hvc_ ge533_1 ul533_1
           have hv533_2 := hcc533 2 _ rfl
           rw [add_field _ _ 2 (by omega)] at hv533_2
           replace hv533_2 := Option.some.inj (hv533_2.symm.trans hx533_2)
           injection hv533_2 with hva_ hvn_ hvc_
           rw [hva_] at ge533_2
           rw [hvc_] at ul533_2
           have HL533_2 := Aside0.mk (show Kd.V (Kd.int .i64) 2 _ w.heap.size _ _ ((rd_T44 t527 x10_1).f0.f2) from Kd.V_mk ul533_2 ge533_2)
           clear hva_ hvn_ hvc_ ge533_2 ul533_2
           clear hcc533 hce533
           have HR533_1 := Aside0.mk hi533_1
           have HC533_1 := Aside0.mk hl533_1
           clear hi533_1 hl533_1
           have HR533_2 := Aside0.mk hi533_2
           have HC533_2 := Aside0.mk hl533_2
           clear hi533_2 hl533_2
           replace p533 := eq_true p533
           replace q533 := eq_true q533
           have ea_ := Option.some.inj (hx532_1.symm.trans hx533_1)
           injection ea_ with ea_ en_ ec_
           subst ea_
           subst ec_
           clear en_
           have ea_ := Option.some.inj (hx532_2.symm.trans hx533_2)
           injection ea_ with ea_ en_ ec_
           subst ea_
           subst ec_
           clear en_
           go_wp2_with (first | ((with_reducible refine gate_builtin (b := .append) (xs := #[.tmp 38, .tmp 45]) rfl ?_); at_builtin; refine Kd.N_append k44 (w0 := w) w.heap.size rfl (.tmp 38) (.tmp 45) 24 44 (.agg #[(.int .i64 0), (.slice none 0 0), (.slice none 0 0), (.int .u64 0)]) 64 rfl Try.underlying24 info44 rfl (by decide) (by omega) u9 x9_2 (⟨(⟨(rd_T44 t527 x10_1).f0.f0, (rd_T44 t527 x10_1).f0.f1, (rd_T44 t527 x10_1).f0.f2⟩ : S42), 1⟩ : S44) [.int .i64 ((rd_T44 t527 x10_1).f0.f0), .slice A532_1 ((rd_T44 t527 x10_1).f0.f1).length c532_1, .slice A532_2 ((rd_T44 t527 x10_1).f0.f2).length c532_2, .int .u64 1] (fun k_ => some k_ ≠ (.slice (some ad532) t527.length co18 : Value).ownBlock ∧ k_ ≠ gb521 ∧ k_ ≠ gb530 ∧ k_ ≠ gb531) (fun k_ => ((fun k_ => some k_ ≠ (.slice (some ad532) t527.length co18 : Value).ownBlock ∧ k_ ≠ gb521 ∧ k_ ≠ gb530 ∧ k_ ≠ gb531)) k_ ∧ some k_ ≠ (u9 : Value).ownBlock) rfl rfl ?aP (fun _ hk => hk) ?aF ?aO ?aB ?aS ?aL ?_; (case aP => exact (k44_mkF _ _ (⟨(⟨(rd_T44 t527 x10_1).f0.f0, (rd_T44 t527 x10_1).f0.f1, (rd_T44 t527 x10_1).f0.f2⟩ : S42), 1⟩ : S44) (Kd.V_reads' (Kd.V_mono (ok' := (fun k_ => ((fun k_ => some k_ ≠ (.slice (some ad532) t527.length co18 : Value).ownBlock ∧ k_ ≠ gb521 ∧ k_ ≠ gb530 ∧ k_ ≠ gb531)) k_ ∧ some k_ ≠ (u9 : Value).ownBlock)) (HL533_1.out) (fun k_ hk => ⟨⟨hk.2, ⟨hk.1.2.1, ⟨hk.1.2.2.1, hk.1.2.2.2⟩⟩⟩, hk.1.1⟩))).2.1 (Kd.V_F (Kd.V_mono (ok' := (fun k_ => ((fun k_ => some k_ ≠ (.slice (some ad532) t527.length co18 : Value).ownBlock ∧ k_ ≠ gb521 ∧ k_ ≠ gb530 ∧ k_ ≠ gb531)) k_ ∧ some k_ ≠ (u9 : Value).ownBlock)) (HL533_1.out) (fun k_ hk => ⟨⟨hk.2, ⟨hk.1.2.1, ⟨hk.1.2.2.1, hk.1.2.2.2⟩⟩⟩, hk.1.1⟩))) (Kd.V_reads' (Kd.V_mono (ok' := (fun k_ => ((fun k_ => some k_ ≠ (.slice (some ad532) t527.length co18 : Value).ownBlock ∧ k_ ≠ gb521 ∧ k_ ≠ gb530 ∧ k_ ≠ gb531)) k_ ∧ some k_ ≠ (u9 : Value).ownBlock)) (HL533_2.out) (fun k_ hk => ⟨⟨hk.2, ⟨hk.1.2.1, ⟨hk.1.2.2.1, hk.1.2.2.2⟩⟩⟩, hk.1.1⟩))).2.1 (Kd.V_F (Kd.V_mono (ok' := (fun k_ => ((fun k_ => some k_ ≠ (.slice (some ad532) t527.length co18 : Value).ownBlock ∧ k_ ≠ gb521 ∧ k_ ≠ gb530 ∧ k_ ≠ gb531)) k_ ∧ some k_ ≠ (u9 : Value).ownBlock)) (HL533_2.out) (fun k_ hk => ⟨⟨hk.2, ⟨hk.1.2.1, ⟨hk.1.2.2.1, hk.1.2.2.2⟩⟩⟩, hk.1.1⟩))))); (case aB => exact (bw_ HB.out)); (case aF => exact (fun k_ hk => ⟨Kd.fresh' (Kd.N_lt (by (with_reducible repeat (first | apply Kd.N_alloc | apply Kd.N_drewN | apply Kd.N_drew)); exact HO_8.out)) k_ hk, Kd.freshB (g := gb521) (o := .cells #[.int .i64 a0_0, .int .i64 a0_1] 23 (0, 0)) (bk_ BK521.out) k_ hk, Kd.freshB (g := gb530) (o := .cells #[.int .i64 t523, .int .i64 t524] 27 (0, 0)) (bk_ BK530.out) k_ hk, Kd.freshB (g := gb531) (o := .cells #[.int .i64 t525, .int .i64 t526] 23 (0, 0)) (bk_ BK531.out) k_ hk⟩)); (case aO => exact (by (with_reducible repeat (first | apply Kd.N_alloc | apply Kd.N_drewN | apply Kd.N_drew)); exact HO_9.out)); (case aS => exact (below_size (bw_ HB.out))); (case aL => have := LMc22.out; omega); intro v535 w23 ho hb hg hat; rw [← Ny534.out] at ho; have n0_ := Aside0.mk (Kd.N_afterv (ok := (fun k_ => k_ ≠ gb521 ∧ k_ ≠ gb530 ∧ k_ ≠ gb531)) (by (with_reducible repeat (first | apply Kd.N_alloc | apply Kd.N_drewN | apply Kd.N_drew)); exact Kd.N_mono HO_8.out (fun _ hk => ⟨⟨hk.2.1, ⟨hk.2.2.1, hk.2.2.2⟩⟩, hk.1⟩)) hg hat); have n1_ := Aside0.mk (blk_grown (g := gb521) (o := .cells #[.int .i64 a0_0, .int .i64 a0_1] 23 (0, 0)) (bk_ BK521.out) hg (Kd.N_ne HO_9.out BK521.out (by decide))); have n2_ := Aside0.mk (blk_grown (g := gb530) (o := .cells #[.int .i64 t523, .int .i64 t524] 27 (0, 0)) (bk_ BK530.out) hg (Kd.N_ne HO_9.out BK530.out (by decide))); have n3_ := Aside0.mk (blk_grown (g := gb531) (o := .cells #[.int .i64 t525, .int .i64 t526] 23 (0, 0)) (bk_ BK531.out) hg (Kd.N_ne HO_9.out BK531.out (by decide))); have n4_ := Aside0.mk (Kd.V_afterv (ok := (fun k_ => some k_ ≠ (.slice (some ad532) t527.length co18 : Value).ownBlock ∧ k_ ≠ gb521 ∧ k_ ≠ gb530 ∧ k_ ≠ gb531)) (by (with_reducible repeat (first | apply Kd.V_alloc | apply Kd.V_drewN | apply Kd.V_drew)); exact Kd.V_mono HL532_1.out (fun _ hk => ⟨⟨hk.2, ⟨hk.1.2.1, ⟨hk.1.2.2.1, hk.1.2.2.2⟩⟩⟩, hk.1.1⟩)) hg hat); have n5_ := Aside0.mk (Kd.V_afterv (ok := (fun k_ => some k_ ≠ (.slice (some ad532) t527.length co18 : Value).ownBlock ∧ k_ ≠ gb521 ∧ k_ ≠ gb530 ∧ k_ ≠ gb531)) (by (with_reducible repeat (first | apply Kd.V_alloc | apply Kd.V_drewN | apply Kd.V_drew)); exact Kd.V_mono HL532_2.out (fun _ hk => ⟨⟨hk.2, ⟨hk.1.2.1, ⟨hk.1.2.2.1, hk.1.2.2.2⟩⟩⟩, hk.1.1⟩)) hg hat); have n6_ := Aside0.mk (Kd.V_afterv (ok := (fun k_ => some k_ ≠ (.slice (some ad532) t527.length co18 : Value).ownBlock ∧ k_ ≠ gb521 ∧ k_ ≠ gb530 ∧ k_ ≠ gb531)) (by (with_reducible repeat (first | apply Kd.V_alloc | apply Kd.V_drewN | apply Kd.V_drew)); exact Kd.V_mono HL533_1.out (fun _ hk => ⟨⟨hk.2, ⟨hk.1.2.1, ⟨hk.1.2.2.1, hk.1.2.2.2⟩⟩⟩, hk.1.1⟩)) hg hat); have n7_ := Aside0.mk (Kd.V_afterv (ok := (fun k_ => some k_ ≠ (.slice (some ad532) t527.length co18 : Value).ownBlock ∧ k_ ≠ gb521 ∧ k_ ≠ gb530 ∧ k_ ≠ gb531)) (by (with_reducible repeat (first | apply Kd.V_alloc | apply Kd.V_drewN | apply Kd.V_drew)); exact Kd.V_mono HL533_2.out (fun _ hk => ⟨⟨hk.2, ⟨hk.1.2.1, ⟨hk.1.2.2.1, hk.1.2.2.2⟩⟩⟩, hk.1.1⟩)) hg hat); have n8_ := Aside0.mk (hb); have n9_ := Aside0.mk (ho); clear HO_8 BK521 BK530 BK531 HL532_1 HL532_2 HL533_1 HL533_2 HB HO_9; have HO_8 := n0_; have BK521 := n1_; have BK530 := n2_; have BK531 := n3_; have HL532_1 := n4_; have HL532_2 := n5_; have HL533_1 := n6_; have HL533_2 := n7_; have HB := n8_; have HO536 := n9_; clear n0_ n1_ n2_ n3_ n4_ n5_ n6_ n7_ n8_ n9_; clear ho hb hg hat))
           go_roundg k2
           case measure => have := HK1.out; have := HK2.out; omega
           case rel => exact ⟨(y534), (IntKind.u64.wrap (x11_2 + 1)), (by first | rfl | (simp; done) | (simp [*]; done)), H', ⟨by have := HK1.out; have := HK2.out; omega⟩, ⟨by (with_reducible repeat (first | apply Kd.N_alloc | apply Kd.N_drewN | apply Kd.N_drew)); exact Kd.N_mono HO_8.out (fun _ hk => ⟨hk.2, ⟨hk.1.1, ⟨hk.1.2.1, hk.1.2.2⟩⟩⟩)⟩, ⟨by (with_reducible repeat (first | apply Kd.N_alloc | apply Kd.N_drewN | apply Kd.N_drew)); exact HO536.out⟩, ⟨by (with_reducible repeat (first | refine blk_drewN ?_ _ | refine blk_drew ?_ | refine blk_alloc ?_ _)); exact BK521.out⟩, ⟨by (with_reducible repeat (first | refine blk_drewN ?_ _ | refine blk_drew ?_ | refine blk_alloc ?_ _)); exact BK530.out⟩, ⟨by (with_reducible repeat (first | refine blk_drewN ?_ _ | refine blk_drew ?_ | refine blk_alloc ?_ _)); exact BK531.out⟩, ⟨by repeat (first | (with_reducible first | exact HB.out | apply below_alloc | apply pw_below_drewN | apply below_drew1 | refine below_set ?_ GE521.out | refine below_set ?_ GE530.out | refine below_set ?_ GE531.out) | exact HB.out)⟩⟩
          ·rw [if_neg c22] at H
           exact absurd H (by simp)
         ·rw [if_neg c21] at H
          have c21b0 : decide (x11_2 < (Int.tmod ((rd_T44 t527 x10_1).f1) 5)) = false := decide_eq_false c21
          clear c21
          have H' := Aside0.mk H
          clear H
          have p532 : 0 ≤ (x10_1 : Int) := of_decide_eq_true (by assumption)
          have q532 : x10_1 < (t527.length : Int) := of_decide_eq_true (by assumption)
          obtain ⟨ad532, A532_1, c532_1, A532_2, c532_2, e532, hx532_0, hx532_1, hx532_2, hx532_3, hl532_1, hi532_1, hl532_2, hi532_2⟩ := at_T44 (Kd.N_reads' HO_8.out).2.2 x10_1 p532 q532
          cases e532
          obtain ⟨ce532, hce532, hMe532, hcc532⟩ := Kd.N_get HO_8.out z44 x10_1 p532 (by first | exact q532 | exact of_decide_eq_true (by assumption) | (have e_ := (Kd.N_reads' HO_8.out).1; omega))
          obtain ⟨ua532_1, uc532_1, ua532_2, uc532_2, rfl, ul532_1, ge532_1, ul532_2, ge532_2⟩ := k44_openF hMe532
          have hv532_1 := hcc532 1 _ rfl
          rw [add_field _ _ 1 (by omega)] at hv532_1
          replace hv532_1 := Option.some.inj (hv532_1.symm.trans hx532_1)
          injection hv532_1 with hva_ hvn_ hvc_
          rw [hva_] at ge532_1
          rw [hvc_] at ul532_1
          have HL532_1 := Aside0.mk (show Kd.V Kd.string 9 _ w.heap.size _ _ ((rd_T44 t527 x10_1).f0.f1) from Kd.V_mk ul532_1 ge532_1)
          clear hva_ hvn_ hvc_ ge532_1 ul532_1
          have hv532_2 := hcc532 2 _ rfl
          rw [add_field _ _ 2 (by omega)] at hv532_2
          replace hv532_2 := Option.some.inj (hv532_2.symm.trans hx532_2)
          injection hv532_2 with hva_ hvn_ hvc_
          rw [hva_] at ge532_2
          rw [hvc_] at ul532_2
          have HL532_2 := Aside0.mk (show Kd.V (Kd.int .i64) 2 _ w.heap.size _ _ ((rd_T44 t527 x10_1).f0.f2) from Kd.V_mk ul532_2 ge532_2)
          clear hva_ hvn_ hvc_ ge532_2 ul532_2
          clear hcc532 hce532
          have HR532_1 := Aside0.mk hi532_1
          have HC532_1 := Aside0.mk hl532_1
          clear hi532_1 hl532_1
          have HR532_2 := Aside0.mk hi532_2
          have HC532_2 := Aside0.mk hl532_2
          clear hi532_2 hl532_2
          replace p532 := eq_true p532
          replace q532 := eq_true q532
          go_wp2
          go_roundg k2
          case measure => have := HK1.out; have := HK2.out; omega
          case rel => exact ⟨(x9_2), (wrap64 (x10_1 + 1)), (by first | rfl | (simp; done) | (simp [*]; done)), H', ⟨by have := HK1.out; have := HK2.out; omega⟩, ⟨by (with_reducible repeat (first | apply Kd.N_alloc | apply Kd.N_drewN | apply Kd.N_drew)); exact HO_8.out⟩, ⟨by (with_reducible repeat (first | apply Kd.N_alloc | apply Kd.N_drewN | apply Kd.N_drew)); exact HO_9.out⟩, ⟨by (with_reducible repeat (first | refine blk_drewN ?_ _ | refine blk_drew ?_ | refine blk_alloc ?_ _)); exact BK521.out⟩, ⟨by (with_reducible repeat (first | refine blk_drewN ?_ _ | refine blk_drew ?_ | refine blk_alloc ?_ _)); exact BK530.out⟩, ⟨by (with_reducible repeat (first | refine blk_drewN ?_ _ | refine blk_drew ?_ | refine blk_alloc ?_ _)); exact BK531.out⟩, ⟨by repeat (first | (with_reducible first | exact HB.out | apply below_alloc | apply pw_below_drewN | apply below_drew1 | refine below_set ?_ GE521.out | refine below_set ?_ GE530.out | refine below_set ?_ GE531.out) | exact HB.out)⟩⟩
        ·rw [if_neg c20] at H
         exact absurd H (by simp)
       ·rw [if_neg c19] at H
        exact absurd H (by simp)
    ·rw [if_neg c17] at H
     have c17b0 : decide (x10_1 < (t527.length : Int)) = false := decide_eq_false c17
     clear c17
     replace H := Option.bind_eq_some_iff.mp H
     obtain ⟨⟨t537, t538, t539⟩, A240, H⟩ := H
     replace H : ((gristmillref04_Own.f k1 x9_1).bind fun t542 => ((gristmilllaw06_of.f k1 t525 t526 t542).bind fun bt545 => ((gristmillref06_Same.f k1 t537 t538 t539 bt545.1 bt545.2.1 bt545.2.2).bind fun t550 => (some t550)))) = some r := H
     have A24 := Aside0.mk A240
     clear A240
     replace H := Option.bind_eq_some_iff.mp H
     obtain ⟨t542, A250, H⟩ := H
     replace H : ((gristmilllaw06_of.f k1 t525 t526 t542).bind fun bt545 => ((gristmillref06_Same.f k1 t537 t538 t539 bt545.1 bt545.2.1 bt545.2.2).bind fun t550 => (some t550))) = some r := H
     have A25 := Aside0.mk A250
     clear A250
     replace H := Option.bind_eq_some_iff.mp H
     obtain ⟨⟨t545, t546, t547⟩, A260, H⟩ := H
     replace H : ((gristmillref06_Same.f k1 t537 t538 t539 t545 t546 t547).bind fun t550 => (some t550)) = some r := H
     have A26 := Aside0.mk A260
     clear A260
     replace H := Option.bind_eq_some_iff.mp H
     obtain ⟨t550, A270, H⟩ := H
     replace H : (some t550) = some r := H
     have A27 := Aside0.mk A270
     clear A270
     obtain rfl := Option.some.inj H
     obtain ⟨Ao28, co28, eo28⟩ := Kd.N_slice HO_8.out
     subst eo28
     try go_wp2
     have n0_ := Aside0.mk (Kd.N_drew HO_8.out)
     have n1_ := Aside0.mk (Kd.N_drew HO_9.out)
     have n2_ := Aside0.mk (blk_drew BK521.out)
     have n3_ := Aside0.mk (blk_drew BK530.out)
     have n4_ := Aside0.mk (blk_drew BK531.out)
     have n5_ := Aside0.mk (below_drew1 HB.out)
     clear HO_8
     clear HO_9
     clear BK521
     clear BK530
     clear BK531
     clear HB
     have HO_8 := n0_
     have HO_9 := n1_
     have BK521 := n2_
     have BK530 := n3_
     have BK531 := n4_
     have HB := n5_
     clear n0_ n1_ n2_ n3_ n4_ n5_
     obtain ⟨Ao30, co30, eo30⟩ := Kd.N_slice HO_9.out
     (first | subst eo30 | (injection eo30 with f1_ f2_ f3_; have f4_ := f1_.symm; have f5_ := f3_.symm; clear f1_ f2_ f3_; subst f4_; subst f5_))
     refine start_ (n := 9) (S := fun w' => w'.cell? ⟨gb531, 0, none⟩ = some (.int .i64 t525) ∧ w'.cell? ⟨gb531, 1, none⟩ = some (.int .i64 t526)) (ds := []) #[false, false, false, false, false, false, false, false, false] (by kernel_rfl) rfl rfl ⟨(blk_cell BK531.out 0).trans rfl, (blk_cell BK531.out 1).trans rfl⟩ (fun hHeld => ?_); refine with_tabW gristmilllaw06_AggBags.tab13 gristmilllaw06_AggBags.bits13 (fun HT_ HW_ => ?_)
     generalize wr.drew = w29 at HO_8 HO_9 BK521 BK530 BK531 HB hHeld ⊢
     refine pure_ (i := 1) (N := some 48) (v := ?_) (a' := ?_) #[false, true, false, false, false, false, false, false, false] rfl rfl (any_of HT_.out (by kernel_rfl)) (fun _ _ _ h => h) (Or.inl ⟨by rfl, ?_⟩) ?_ ?_
     rotate_left
     ·intro w'
      go_simp
      with_reducible rfl
     rotate_left
     ·simp only [Act.put, q1_, q2_, q3_, i64_w, i32_w]
      rfl
     refine pure_ (i := 4) (N := some 51) (v := ?_) (a' := ?_) #[false, true, false, false, true, false, false, false, false] rfl rfl (any_of HT_.out (by kernel_rfl)) (fun _ _ _ h => h) (Or.inl ⟨by rfl, ?_⟩) ?_ ?_
     rotate_left
     ·intro w'
      go_simp
      with_reducible rfl
     rotate_left
     ·simp only [Act.put, q1_, q2_, q3_, i64_w, i32_w]
      rfl
     refine take_ (i := 0) (N := some 47) (v := ?_) (a' := ?_) #[true, true, false, false, true, false, false, false, false] rfl rfl (take_ofW HT_.out HW_.out (by kernel_rfl)) (fun _ _ _ h => h) (Or.inl ⟨by rfl, ?_⟩) hHeld ?_ ?_
     rotate_left
     ·rintro w' ⟨s0, s1⟩
      go_simp
      with_reducible rfl
     rotate_left
     ·simp only [Act.put, q1_, q2_, q3_, i64_w, i32_w]
      rfl
     refine take_ (i := 3) (N := some 50) (v := ?_) (a' := ?_) #[true, true, false, true, true, false, false, false, false] rfl rfl (take_ofW HT_.out HW_.out (by kernel_rfl)) (fun _ _ _ h => h) (Or.inl ⟨by rfl, ?_⟩) hHeld ?_ ?_
     rotate_left
     ·rintro w' ⟨s0, s1⟩
      go_simp
      with_reducible rfl
     rotate_left
     ·simp only [Act.put, q1_, q2_, q3_, i64_w, i32_w]
      rfl
     refine one_ (i := 2) (N := some 49) #[true, true, true, true, true, false, false, false, false] rfl rfl (one_of HT_.out (by kernel_rfl)) (by decide) (fun K hK => ?_)
     refine goes_ Try.func12 (by kernel_rfl) rfl #[.agg #[.int .i64 t525, .int .i64 t526], .slice Ao30 x9_1.length co30] (by rfl) rfl rfl (by (try simp only [List.map_toArray, List.map_cons, List.map_nil]); first | done | rfl | (simp only [List.length_drop, List.length_take]; rfl)) ?_
     with_reducible refine (gristmilllaw06_of.calls k1 t525 t526 _ _ x9_1 t537 t538 t539 _ ?side1 ?side2 A24.out).mono ?_
     (case side1 => repeat (first | exact (Kd.N_reads' HO_9.out).2.2 | (with_reducible refine Kd.C_alloc ?_ _) | (with_reducible refine Kd.C_drewN ?_ _) | (with_reducible refine Kd.C_drew ?_)))
     (case side2 => exact (Kd.N_reads' HO_9.out).2.1)
     rintro e w31 ⟨v540, rfl, ho0, hb⟩
     refine ⟨_, rfl, ?_⟩
     have n0_ := Aside0.mk (Kd.N_elder' (by (with_reducible repeat (first | apply Kd.N_alloc | apply Kd.N_drewN | apply Kd.N_drew)); exact HO_8.out) (Kd.R_base ho0) hb)
     have n1_ := Aside0.mk (Kd.N_elder' (by (with_reducible repeat (first | apply Kd.N_alloc | apply Kd.N_drewN | apply Kd.N_drew)); exact HO_9.out) (Kd.R_base ho0) hb)
     have n2_ := Aside0.mk (Kd.R_lower ho0 (below_size (bw_ HB.out)))
     have n3_ := Aside0.mk (blk_below (bk_ BK521.out) hb)
     have n4_ := Aside0.mk (blk_below (bk_ BK530.out) hb)
     have n5_ := Aside0.mk (blk_below (bk_ BK531.out) hb)
     have n6_ := Aside0.mk (below_step (bw_ HB.out) hb)
     clear HO_8
     clear HO_9
     clear BK521
     clear BK530
     clear BK531
     clear HB
     have HO_8 := n0_
     have HO_9 := n1_
     have HO541 := n2_
     have BK521 := n3_
     have BK530 := n4_
     have BK531 := n5_
     have HB := n6_
     clear n0_ n1_ n2_ n3_ n4_ n5_ n6_
     (try clear hb)
     (try clear hb2)
     (try clear hk)
     (try clear hi)
     (try clear ho0)
     refine hK.out _ _ ⟨(blk_cell BK531.out 0).trans rfl, (blk_cell BK531.out 1).trans rfl⟩ (fun hHeld => ?_)
     clear hK K
     refine norm_ (a' := ?_) ?_ ?_
     rotate_left
     ·show Act.put _ (some 49) _ = _
      simp only [Act.put, q1_, q2_, q3_, i64_w, i32_w]
      rfl
     refine one_ (i := 5) (N := some 52) #[true, true, true, true, true, true, false, false, false] rfl rfl (one_of HT_.out (by kernel_rfl)) (by decide) (fun K hK => ?_)
     refine goes_ Try.func20 (by kernel_rfl) rfl #[.slice Ao30 x9_1.length co30] (by rfl) rfl rfl (by (try simp only [List.map_toArray, List.map_cons, List.map_nil]); first | done | rfl | (simp only [List.length_drop, List.length_take]; rfl)) ?_
     with_reducible refine (gristmillref04_Own.calls k1 (fun k_ => ((some k_ ≠ (.slice Ao28 t527.length co28 : Value).ownBlock ∧ (k_ ≠ gb521 ∧ (k_ ≠ gb530 ∧ k_ ≠ gb531))) ∧ some k_ ≠ (v540 : Value).ownBlock)) _ _ x9_1 t542 _ ?side1 A25.out).mono ?_
     (case side1 => exact Kd.N_V (HO_9.out))
     rintro e w32 ⟨v543, rfl, ho0, hb⟩
     refine ⟨_, rfl, ?_⟩
     have n0_ := Aside0.mk (Kd.N_elder' (by (with_reducible repeat (first | apply Kd.N_alloc | apply Kd.N_drewN | apply Kd.N_drew)); exact HO_8.out) (by first | exact Kd.N_base ho0 | exact Kd.S_base ho0) hb)
     have n1_ := Aside0.mk (Kd.N_elder' (by (with_reducible repeat (first | apply Kd.N_alloc | apply Kd.N_drewN | apply Kd.N_drew)); exact HO_9.out) (by first | exact Kd.N_base ho0 | exact Kd.S_base ho0) hb)
     have n2_ := Aside0.mk (Kd.R_below (by (with_reducible repeat (first | apply Kd.R_alloc | apply Kd.R_drewN | apply Kd.R_drew)); exact HO541.out) hb)
     have n3_ := Aside0.mk (Kd.N_lower (Kd.N_mono (ok' := fun k_ => some k_ ≠ (.slice Ao28 t527.length co28 : Value).ownBlock ∧ some k_ ≠ (v540 : Value).ownBlock ∧ k_ ≠ gb521 ∧ k_ ≠ gb530 ∧ k_ ≠ gb531) ho0 (fun k_ hk_ => ⟨Or.elim hk_ (fun hs_ => hs_.1.1) (fun hn_ => (Kd.fresh' (Kd.N_lt (by (with_reducible repeat (first | apply Kd.N_alloc | apply Kd.N_drewN | apply Kd.N_drew)); exact HO_8.out)) k_ hn_)), Or.elim hk_ (fun hs_ => hs_.2) (fun hn_ => (Kd.fresh' (Kd.R_lt (by (with_reducible repeat (first | apply Kd.R_alloc | apply Kd.R_drewN | apply Kd.R_drew)); exact HO541.out)) k_ hn_)), Or.elim hk_ (fun hs_ => hs_.1.2.1) (fun hn_ => (Kd.freshB (g := gb521) (o := .cells #[.int .i64 a0_0, .int .i64 a0_1] 23 (0, 0)) (bk_ BK521.out) k_ hn_)), Or.elim hk_ (fun hs_ => hs_.1.2.2.1) (fun hn_ => (Kd.freshB (g := gb530) (o := .cells #[.int .i64 t523, .int .i64 t524] 27 (0, 0)) (bk_ BK530.out) k_ hn_)), Or.elim hk_ (fun hs_ => hs_.1.2.2.2) (fun hn_ => (Kd.freshB (g := gb531) (o := .cells #[.int .i64 t525, .int .i64 t526] 23 (0, 0)) (bk_ BK531.out) k_ hn_))⟩)) (below_size (bw_ HB.out)))
     have n4_ := Aside0.mk (blk_below (bk_ BK521.out) hb)
     have n5_ := Aside0.mk (blk_below (bk_ BK530.out) hb)
     have n6_ := Aside0.mk (blk_below (bk_ BK531.out) hb)
     have n7_ := Aside0.mk (below_step (bw_ HB.out) hb)
     clear HO_8
     clear HO_9
     clear HO541
     clear BK521
     clear BK530
     clear BK531
     clear HB
     have HO_8 := n0_
     have HO_9 := n1_
     have HO541 := n2_
     have HO544 := n3_
     have BK521 := n4_
     have BK530 := n5_
     have BK531 := n6_
     have HB := n7_
     clear n0_ n1_ n2_ n3_ n4_ n5_ n6_ n7_
     (try clear hb)
     (try clear hb2)
     (try clear hk)
     (try clear hi)
     (try clear ho0)
     obtain ⟨Ao33, co33, eo33⟩ := Kd.N_slice HO544.out
     (first | subst eo33 | (injection eo33 with f1_ f2_ f3_; have f4_ := f1_.symm; have f5_ := f3_.symm; clear f1_ f2_ f3_; subst f4_; subst f5_))
     refine hK.out _ _ ⟨(blk_cell BK531.out 0).trans rfl, (blk_cell BK531.out 1).trans rfl⟩ (fun hHeld => ?_)
     clear hK K
     refine norm_ (a' := ?_) ?_ ?_
     rotate_left
     ·show Act.put _ (some 52) _ = _
      simp only [Act.put, q1_, q2_, q3_, i64_w, i32_w]
      rfl
     refine one_ (i := 6) (N := some 53) #[true, true, true, true, true, true, true, false, false] rfl rfl (one_of HT_.out (by kernel_rfl)) (by decide) (fun K hK => ?_)
     refine goes_ Try.func12 (by kernel_rfl) rfl #[.agg #[.int .i64 t525, .int .i64 t526], .slice Ao33 t542.length co33] (by rfl) rfl rfl (by (try simp only [List.map_toArray, List.map_cons, List.map_nil]); first | done | rfl | (simp only [List.length_drop, List.length_take]; rfl)) ?_
     with_reducible refine (gristmilllaw06_of.calls k1 t525 t526 _ _ t542 t545 t546 t547 _ ?side1 ?side2 A26.out).mono ?_
     (case side1 => repeat (first | exact (Kd.N_reads' HO544.out).2.2 | (with_reducible refine Kd.C_alloc ?_ _) | (with_reducible refine Kd.C_drewN ?_ _) | (with_reducible refine Kd.C_drew ?_)))
     (case side2 => exact (Kd.N_reads' HO544.out).2.1)
     rintro e w34 ⟨v548, rfl, ho0, hb⟩
     refine ⟨_, rfl, ?_⟩
     have n0_ := Aside0.mk (Kd.N_elder' (by (with_reducible repeat (first | apply Kd.N_alloc | apply Kd.N_drewN | apply Kd.N_drew)); exact HO_8.out) (Kd.R_base ho0) hb)
     have n1_ := Aside0.mk (Kd.N_elder' (by (with_reducible repeat (first | apply Kd.N_alloc | apply Kd.N_drewN | apply Kd.N_drew)); exact HO_9.out) (Kd.R_base ho0) hb)
     have n2_ := Aside0.mk (Kd.R_elder' (by (with_reducible repeat (first | apply Kd.R_alloc | apply Kd.R_drewN | apply Kd.R_drew)); exact HO541.out) (Kd.R_base ho0) hb)
     have n3_ := Aside0.mk (Kd.N_elder' (by (with_reducible repeat (first | apply Kd.N_alloc | apply Kd.N_drewN | apply Kd.N_drew)); exact HO544.out) (Kd.R_base ho0) hb)
     have n4_ := Aside0.mk (Kd.R_lower (Kd.R_new' ho0 (Kd.R_lt (by (with_reducible repeat (first | apply Kd.R_alloc | apply Kd.R_drewN | apply Kd.R_drew)); exact HO541.out))) (below_size (bw_ HB.out)))
     have n5_ := Aside0.mk (blk_below (bk_ BK521.out) hb)
     have n6_ := Aside0.mk (blk_below (bk_ BK530.out) hb)
     have n7_ := Aside0.mk (blk_below (bk_ BK531.out) hb)
     have n8_ := Aside0.mk (below_step (bw_ HB.out) hb)
     clear HO_8
     clear HO_9
     clear HO541
     clear HO544
     clear BK521
     clear BK530
     clear BK531
     clear HB
     have HO_8 := n0_
     have HO_9 := n1_
     have HO541 := n2_
     have HO544 := n3_
     have HO549 := n4_
     have BK521 := n5_
     have BK530 := n6_
     have BK531 := n7_
     have HB := n8_
     clear n0_ n1_ n2_ n3_ n4_ n5_ n6_ n7_ n8_
     (try clear hb)
     (try clear hb2)
     (try clear hk)
     (try clear hi)
     (try clear ho0)
     obtain ⟨Ao35, co35, eo35⟩ := Kd.R_slice HO541.out
     (first | subst eo35 | (injection eo35 with f1_ f2_ f3_; have f4_ := f1_.symm; have f5_ := f3_.symm; clear f1_ f2_ f3_; subst f4_; subst f5_))
     obtain ⟨Ao36, co36, eo36⟩ := Kd.R_slice HO549.out
     (first | subst eo36 | (injection eo36 with f1_ f2_ f3_; have f4_ := f1_.symm; have f5_ := f3_.symm; clear f1_ f2_ f3_; subst f4_; subst f5_))
     refine hK.out _ _ ⟨(blk_cell BK531.out 0).trans rfl, (blk_cell BK531.out 1).trans rfl⟩ (fun hHeld => ?_)
     clear hK K
     refine norm_ (a' := ?_) ?_ ?_
     rotate_left
     ·show Act.put _ (some 53) _ = _
      simp only [Act.put, q1_, q2_, q3_, i64_w, i32_w]
      rfl
     refine one_ (i := 7) (N := some 54) #[true, true, true, true, true, true, true, true, false] rfl rfl (one_of HT_.out (by kernel_rfl)) (by decide) (fun K hK => ?_)
     refine goes_ Try.func14 (by kernel_rfl) rfl #[.agg #[.int .u64 t537, .int .i64 t538, .slice Ao35 t539.length co35], .agg #[.int .u64 t545, .int .i64 t546, .slice Ao36 t547.length co36]] (by rfl) rfl rfl (by (try simp only [List.map_toArray, List.map_cons, List.map_nil]); first | done | rfl | (simp only [List.length_drop, List.length_take]; rfl)) ?_
     with_reducible refine (gristmillref06_Same.calls k1 t537 t538 _ _ t539 t545 t546 _ _ t547 t550 _ ?side1 ?side2 ?side3 ?side4 A27.out).mono ?_
     (case side1 => repeat (first | exact (Kd.R_reads' HO541.out).2.2 | (with_reducible refine Kd.C_alloc ?_ _) | (with_reducible refine Kd.C_drewN ?_ _) | (with_reducible refine Kd.C_drew ?_)))
     (case side2 => exact (Kd.R_reads' HO541.out).2.1)
     (case side3 => repeat (first | exact (Kd.R_reads' HO549.out).2.2 | (with_reducible refine Kd.C_alloc ?_ _) | (with_reducible refine Kd.C_drewN ?_ _) | (with_reducible refine Kd.C_drew ?_)))
     (case side4 => exact (Kd.R_reads' HO549.out).2.1)
     rintro e w37 ⟨rfl, hb⟩
     refine ⟨_, rfl, ?_⟩
     have n0_ := Aside0.mk (Kd.N_below (by (with_reducible repeat (first | apply Kd.N_alloc | apply Kd.N_drewN | apply Kd.N_drew)); exact HO_8.out) hb)
     have n1_ := Aside0.mk (Kd.N_below (by (with_reducible repeat (first | apply Kd.N_alloc | apply Kd.N_drewN | apply Kd.N_drew)); exact HO_9.out) hb)
     have n2_ := Aside0.mk (Kd.R_below (by (with_reducible repeat (first | apply Kd.R_alloc | apply Kd.R_drewN | apply Kd.R_drew)); exact HO541.out) hb)
     have n3_ := Aside0.mk (Kd.N_below (by (with_reducible repeat (first | apply Kd.N_alloc | apply Kd.N_drewN | apply Kd.N_drew)); exact HO544.out) hb)
     have n4_ := Aside0.mk (Kd.R_below (by (with_reducible repeat (first | apply Kd.R_alloc | apply Kd.R_drewN | apply Kd.R_drew)); exact HO549.out) hb)
     have n5_ := Aside0.mk (blk_below (bk_ BK521.out) hb)
     have n6_ := Aside0.mk (blk_below (bk_ BK530.out) hb)
     have n7_ := Aside0.mk (blk_below (bk_ BK531.out) hb)
     have n8_ := Aside0.mk (below_step (bw_ HB.out) hb)
     clear HO_8
     clear HO_9
     clear HO541
     clear HO544
     clear HO549
     clear BK521
     clear BK530
     clear BK531
     clear HB
     have HO_8 := n0_
     have HO_9 := n1_
     have HO541 := n2_
     have HO544 := n3_
     have HO549 := n4_
     have BK521 := n5_
     have BK530 := n6_
     have BK531 := n7_
     have HB := n8_
     clear n0_ n1_ n2_ n3_ n4_ n5_ n6_ n7_ n8_
     (try clear hb)
     (try clear hb2)
     (try clear hk)
     (try clear hi)
     refine hK.out _ _ ⟨(blk_cell BK531.out 0).trans rfl, (blk_cell BK531.out 1).trans rfl⟩ (fun hHeld => ?_)
     clear hK K
     refine norm_ (a' := ?_) ?_ ?_
     rotate_left
     ·show Act.put _ (some 54) _ = _
      simp only [Act.put, q1_, q2_, q3_, i64_w, i32_w]
      rfl
     refine pure_ (i := 8) (N := some 4) (v := ?_) (a' := ?_) #[true, true, true, true, true, true, true, true, true] rfl rfl (any_of HT_.out (by kernel_rfl)) (fun _ _ _ h => h) (Or.inl ⟨by rfl, ?_⟩) ?_ ?_
     rotate_left
     ·intro w'
      go_simp
      with_reducible rfl
     rotate_left
     ·simp only [Act.put, q1_, q2_, q3_, i64_w, i32_w]
      rfl
     refine done_ (done_of HT_.out (by kernel_rfl)) ?_
     try go_wp2
     go_ret
     exact ⟨by first | rfl | (simp [errW_none, errW_some] <;> rfl) | (simp [*, errW_none, errW_some] <;> rfl), by repeat (first | (with_reducible first | exact HB.out | apply below_alloc | apply pw_below_drewN | apply below_drew1 | refine below_set ?_ GE521.out | refine below_set ?_ GE530.out | refine below_set ?_ GE531.out) | exact HB.out)⟩
 ·replace c4 := Bool.eq_false_iff.mpr c4
  subst c4
  have H1 : (some false) = some r := by rw [if_neg (show ¬ (false = true) by decide)] at H; exact H
  clear H
  have H := H1
  clear H1
  obtain rfl := Option.some.inj H
  go_enter Try.func7, Try.ntmps7
  go_wp2_with (first | ((with_reducible refine gate_dst (N := 2) rfl ?_); refine bx_ (N := 2) (cs := #[.int .i64 a0_0, .int .i64 a0_1]) (t := 23) ?_; intro gb521 hg w38 hbox hb; have n0_ := Aside0.mk (below_step (bw_ HB.out) hb); have n1_ := Aside0.mk (hbox); have n2_ := Aside0.mk (sz_ hg (bw_ HB.out)); have n3_ := n2_; clear HB; have HB := n0_; have BK521 := n1_; have GW521 := n2_; have GE521 := n3_; clear n0_ n1_ n2_ n3_; clear hb hbox hg) | ((with_reducible refine gate_callee (f := 10) rfl ?_); refine goesL_ (some 12) rfl rfl Try.func10 (by kernel_rfl) rfl #[] rfl (by (try simp only [List.map_toArray, List.map_cons, List.map_nil]); first | done | rfl | (simp only [List.length_drop, List.length_take]; rfl)) ?_; (with_reducible refine (gristmilllaw06_awake.calls  false _ A3.out).mono ?_); rintro e w39 ⟨rfl, hb⟩; refine ⟨_, rfl, ?_⟩; have n0_ := Aside0.mk (blk_below (bk_ BK521.out) hb); have n1_ := Aside0.mk (below_step (bw_ HB.out) hb); clear BK521 HB; have BK521 := n0_; have HB := n1_; clear n0_ n1_; (try clear hb); (try clear hb2); (try clear hk); (try clear hi)))
  go_ret
  exact ⟨by first | rfl | (simp [errW_none, errW_some] <;> rfl) | (simp [*, errW_none, errW_some] <;> rfl), by repeat (first | (with_reducible first | exact HB.out | apply below_alloc | apply pw_below_drewN | apply below_drew1 | refine below_set ?_ GE521.out) | exact HB.out)⟩
end Go.Proofs.Ytmjhgeinhhhodaa.P
end

section
namespace Go.Proofs.Ytmjhgeinhhhodaa.Ext
set_option linter.unusedVariables false
set_option linter.unusedSimpArgs false
open Go.RowKit Go.Proofs.YtmjhgeinhhhodaaW.PrintWords Go.Proofs.Ytmjhgeinhhhodaa.P Go.Proofs.Ytmjhgeinhhhodaa.Txt
theorem mem_built (a : List ByteArray) (y : ByteArray) : y ∈ builtB a ↔ y ∈ a := by
  unfold builtB strs
  rw [List.mem_map]
  constructor
  · rintro ⟨t, ht, rfl⟩
    rw [built_mem] at ht
    unfold txts at ht
    obtain ⟨z, hz, rfl⟩ := List.mem_map.1 ht
    have e : Txt.bs z.data.toList = z := bs_of z
    rw [e]; exact hz
  · intro h
    exact ⟨y.data.toList, (built_mem _ _).2 (List.mem_map.2 ⟨y, h, rfl⟩), bs_of y⟩
theorem built_ext {a b : List ByteArray} (h : ∀ y, y ∈ a ↔ y ∈ b) : builtB a = builtB b := by
  unfold builtB
  congr 1
  refine rises_same (built_rises _) (built_rises _) (fun y => ?_)
  rw [built_mem, built_mem]
  unfold txts
  rw [List.mem_map, List.mem_map]
  constructor
  · rintro ⟨z, hz, rfl⟩; exact ⟨z, (h z).1 hz, rfl⟩
  · rintro ⟨z, hz, rfl⟩; exact ⟨z, (h z).2 hz, rfl⟩
theorem built_twice (a : List ByteArray) : builtB (builtB a) = builtB a := built_ext (fun y => mem_built a y)
theorem built_left (a b : List ByteArray) : builtB (builtB a ++ b) = builtB (a ++ b) := built_ext (fun y => by simp [mem_built])
theorem built_right (a b : List ByteArray) : builtB (a ++ builtB b) = builtB (a ++ b) := built_ext (fun y => by simp [mem_built])
theorem built_swap (a b : List ByteArray) : builtB (a ++ b) = builtB (b ++ a) := built_ext (fun y => by simp [or_comm])
theorem built_length (a : List ByteArray) : (builtB a).length ≤ a.length := by
  unfold builtB
  rw [strs_length]
  exact Nat.le_trans (built_le _) (by rw [txts_length]; exact Nat.le_refl _)
structure Pt where
  n : Int
  v : Int
  t : List ByteArray
def Pt.z : Pt := ⟨0, 0, []⟩
def mg (c : Int) (p q : Pt) : Pt :=
  if p.n = 0 then (if q.n = 0 then ⟨0, 0, []⟩ else ⟨q.n, q.v, builtB q.t⟩) else if q.n = 0 then ⟨p.n, p.v, builtB p.t⟩ else ⟨IntKind.u64.wrap (p.n + q.n), mergeV c p.v q.v, builtB (p.t ++ q.t)⟩
structure Fit (c : Int) (b : Int) (p : Pt) : Prop where
  lo : 0 ≤ p.n
  hi : p.n ≤ b
  zv : p.n = 0 → p.v = 0
  zt : p.n = 0 → p.t = []
  bt : builtB p.t = p.t
  len : (p.t.length : Int) ≤ p.n
  tx : c ≠ 5 → p.t = []
  vz : c = 1 ∨ c = 5 → p.v = 0
  sz : ∀ s ∈ p.t, s.size ≤ 64
  tn : c = 5 → p.n ≠ 0 → p.t ≠ []
theorem u64_small {n : Int} (h0 : 0 ≤ n) (h : n < 18446744073709551616) : IntKind.u64.wrap n = n := by
  show n % 18446744073709551616 = n
  omega
theorem fit_z (c b : Int) (hb : 0 ≤ b) : Fit c b Pt.z := ⟨Int.le_refl _, hb, fun _ => rfl, fun _ => rfl, builtB_nil, Int.le_refl _, fun _ => rfl, fun _ => rfl, fun s h => (by cases h), fun _ h => absurd rfl h⟩
theorem mg_fit {c b b' : Int} {p q : Pt} (hp : Fit c b p) (hq : Fit c b' q) (hb : b + b' < 4611686018427387904) (hb0 : 0 ≤ b) (hb1 : 0 ≤ b') : Fit c (b + b') (mg c p q) := by
  have h1 := hp.lo; have h2 := hp.hi; have h3 := hq.lo; have h4 := hq.hi
  unfold mg
  by_cases hpz : p.n = 0
  · rw [if_pos hpz]
    by_cases hqz : q.n = 0
    · rw [if_pos hqz]
      exact fit_z c _ (by omega)
    · rw [if_neg hqz, hq.bt]
      exact ⟨h3, by show q.n ≤ _; omega, hq.zv, hq.zt, hq.bt, hq.len, hq.tx, hq.vz, hq.sz, hq.tn⟩
  · rw [if_neg hpz]
    by_cases hqz : q.n = 0
    · rw [if_pos hqz, hp.bt]
      exact ⟨h1, by show p.n ≤ _; omega, hp.zv, hp.zt, hp.bt, hp.len, hp.tx, hp.vz, hp.sz, hp.tn⟩
    · rw [if_neg hqz, u64_small (by omega) (by omega)]
      refine ⟨by show (0 : Int) ≤ p.n + q.n; omega, by show p.n + q.n ≤ _; omega, fun h => ?_, fun h => ?_, built_twice _, ?_, fun h => ?_, fun h => ?_, fun s hs => ?_, fun h5 _ he => ?_⟩
      · have : p.n + q.n = 0 := h
        omega
      · have : p.n + q.n = 0 := h
        omega
      · have := built_length (p.t ++ q.t)
        rw [List.length_append] at this
        have h5 := hp.len
        have h6 := hq.len
        show ((builtB (p.t ++ q.t)).length : Int) ≤ p.n + q.n
        omega
      · show builtB (p.t ++ q.t) = []
        rw [hp.tx h, hq.tx h]
        exact builtB_nil
      · show mergeV c p.v q.v = 0
        rw [hp.vz h, hq.vz h]
        unfold mergeV
        rcases h with rfl | rfl <;> simp
      · have := (mem_built _ _).1 hs
        rcases List.mem_append.1 this with h | h
        · exact hp.sz s h
        · exact hq.sz s h
      · have he' : builtB (p.t ++ q.t) = [] := he
        refine hp.tn h5 hpz (List.eq_nil_iff_forall_not_mem.2 (fun y hy => ?_))
        have := (mem_built (p.t ++ q.t) y).2 (List.mem_append_left _ hy)
        rw [he'] at this
        cases this
theorem mg_zero {c b : Int} {p : Pt} (hp : Fit c b p) : mg c p Pt.z = p := by
  unfold mg Pt.z
  by_cases hpz : p.n = 0
  · rw [if_pos hpz, if_pos rfl]
    have h1 := hp.zv hpz
    have h2 := hp.zt hpz
    cases p
    simp_all
  · rw [if_neg hpz, if_pos rfl, hp.bt]
theorem zero_mg {c b : Int} {p : Pt} (hp : Fit c b p) : mg c Pt.z p = p := by
  unfold mg Pt.z
  rw [if_pos rfl]
  by_cases hpz : p.n = 0
  · rw [if_pos hpz]
    have h1 := hp.zv hpz
    have h2 := hp.zt hpz
    cases p
    simp_all
  · rw [if_neg hpz, hp.bt]
theorem mergeV_comm (c a b : Int) (hc : 1 ≤ c ∧ c ≤ 5) (h : c = 1 ∨ c = 5 → a = 0 ∧ b = 0) : mergeV c a b = mergeV c b a := by
  unfold mergeV
  by_cases h2 : c = 2
  · rw [if_pos h2, if_pos h2, Int.add_comm]
  by_cases h3 : c = 3
  · rw [if_neg h2, if_neg h2, if_pos h3, if_pos h3]; omega
  by_cases h4 : c = 4
  · rw [if_neg h2, if_neg h2, if_neg h3, if_neg h3, if_pos h4, if_pos h4]; omega
  · obtain ⟨rfl, rfl⟩ := h (by omega)
    rfl
theorem mergeV_assoc (c a b d : Int) : mergeV c (mergeV c a b) d = mergeV c a (mergeV c b d) := by
  unfold mergeV
  by_cases h2 : c = 2
  · simp only [if_pos h2]
    unfold wrap64; omega
  by_cases h3 : c = 3
  · simp only [if_neg h2, if_pos h3]; omega
  by_cases h4 : c = 4
  · simp only [if_neg h2, if_neg h3, if_pos h4]; omega
  · simp only [if_neg h2, if_neg h3, if_neg h4]
theorem mg_comm {c b b' : Int} {p q : Pt} (hc : 1 ≤ c ∧ c ≤ 5) (hp : Fit c b p) (hq : Fit c b' q) : mg c p q = mg c q p := by
  unfold mg
  by_cases hpz : p.n = 0
  · by_cases hqz : q.n = 0
    · rw [if_pos hpz, if_pos hqz, if_pos hqz, if_pos hpz]
    · rw [if_pos hpz, if_neg hqz, if_neg hqz, if_pos hpz]
  · by_cases hqz : q.n = 0
    · rw [if_neg hpz, if_pos hqz, if_pos hqz, if_neg hpz]
    · rw [if_neg hpz, if_neg hqz, if_neg hqz, if_neg hpz, Int.add_comm, built_swap, mergeV_comm c _ _ hc (fun h => ⟨hp.vz h, hq.vz h⟩)]
theorem mg_assoc {c b b' b'' : Int} {p q r : Pt} (hp : Fit c b p) (hq : Fit c b' q) (hr : Fit c b'' r) (hb : b + b' + b'' < 4611686018427387904) (hb0 : 0 ≤ b) (hb1 : 0 ≤ b') (hb2 : 0 ≤ b'') :
    mg c (mg c p q) r = mg c p (mg c q r) := by
  by_cases hpz : p.n = 0
  · have e : p = Pt.z := by have h1 := hp.zv hpz; have h2 := hp.zt hpz; cases p; simp_all [Pt.z]
    subst e
    rw [zero_mg hq, zero_mg (mg_fit hq hr (by omega) hb1 hb2)]
  by_cases hqz : q.n = 0
  · have e : q = Pt.z := by have h1 := hq.zv hqz; have h2 := hq.zt hqz; cases q; simp_all [Pt.z]
    subst e
    rw [zero_mg hr, mg_zero hp]
  by_cases hrz : r.n = 0
  · have e : r = Pt.z := by have h1 := hr.zv hrz; have h2 := hr.zt hrz; cases r; simp_all [Pt.z]
    subst e
    rw [mg_zero hq, mg_zero (mg_fit hp hq (by omega) hb0 hb1)]
  have h1 := hp.lo; have h2 := hp.hi; have h3 := hq.lo; have h4 := hq.hi; have h5 := hr.lo; have h6 := hr.hi
  have e1 : mg c p q = ⟨p.n + q.n, mergeV c p.v q.v, builtB (p.t ++ q.t)⟩ := by
    unfold mg; rw [if_neg hpz, if_neg hqz, u64_small (by omega) (by omega)]
  have e2 : mg c q r = ⟨q.n + r.n, mergeV c q.v r.v, builtB (q.t ++ r.t)⟩ := by
    unfold mg; rw [if_neg hqz, if_neg hrz, u64_small (by omega) (by omega)]
  rw [e1, e2]
  unfold mg
  rw [if_neg (show ¬ p.n + q.n = 0 by omega), if_neg hrz, if_neg hpz, if_neg (show ¬ q.n + r.n = 0 by omega)]
  simp only
  rw [mergeV_assoc, built_left, built_right, List.append_assoc, Int.add_assoc]
theorem merge_is {c c1 b b' : Int} {p q : Pt} (hc : 1 ≤ c ∧ c ≤ 5) (hp : Fit c b p) (hq : Fit c b' q) (hl : p.t.length + q.t.length < 8796093022208) : agg_Merge.f c c1 p.n p.v p.t q.n q.v q.t = some ((mg c p q).n, (mg c p q).v, (mg c p q).t) := by
  unfold agg_Merge.f mg mfin
  rw [if_neg (by omega)]
  by_cases hpz : p.n = 0
  · by_cases hqz : q.n = 0
    · simp only [if_pos hpz, if_pos hqz]
    · simp only [if_pos hpz, if_neg hqz]
      rw [if_pos (by omega)]
  · by_cases hqz : q.n = 0
    · simp only [if_neg hpz, if_pos hqz]
      rw [if_pos (by omega)]
    · simp only [if_neg hpz, if_neg hqz]
      rw [if_pos (by rw [List.length_append]; omega)]
structure FitM (m : S44) : Prop where
  n0 : 0 ≤ m.f1
  n1 : m.f1 < 1125899906842624
  d : m.f0.f1.length = 2
  e : m.f0.f2.length = 2
  s : ∀ x ∈ m.f0.f1, x.size ≤ 64
def unit (c c1 : Int) (m : S44) : Pt :=
  if m.f1 = 0 then Pt.z else if c = 1 then ⟨m.f1, 0, []⟩ else if c = 5 then ⟨m.f1, 0, [m.f0.f1.getD c1.toNat ⟨#[]⟩]⟩ else ⟨m.f1, manyV c (rd m.f0.f2 c1) m.f1, []⟩
theorem unit_fit {c c1 : Int} {m : S44} (hc : 1 ≤ c ∧ c ≤ 5) (h1 : 0 ≤ c1 ∧ c1 < 2) (hm : FitM m) : Fit c 1125899906842624 (unit c c1 m) := by
  have h2 := hm.n0; have h3 := hm.n1
  unfold unit
  by_cases hz : m.f1 = 0
  · rw [if_pos hz]; exact fit_z _ _ (by omega)
  rw [if_neg hz]
  by_cases hc1 : c = 1
  · rw [if_pos hc1]
    exact ⟨h2, by show m.f1 ≤ _; omega, fun _ => rfl, fun _ => rfl, builtB_nil, h2, fun _ => rfl, fun _ => rfl, fun s h => (by cases h), fun h _ => by omega⟩
  rw [if_neg hc1]
  by_cases hc5 : c = 5
  · rw [if_pos hc5]
    refine ⟨h2, by show m.f1 ≤ _; omega, fun _ => rfl, fun h => absurd h hz, builtB_one _, by show (1 : Int) ≤ m.f1; omega, fun h => absurd hc5 h, fun _ => rfl, fun s hs => ?_, fun _ _ h => by cases h⟩
    have e := List.mem_singleton.1 hs
    subst e
    have hlt : c1.toNat < m.f0.f1.length := by have := hm.d; omega
    rw [List.getD_eq_getElem?_getD, List.getElem?_eq_getElem hlt]
    exact hm.s _ (List.getElem_mem hlt)
  · rw [if_neg hc5]
    exact ⟨h2, by show m.f1 ≤ _; omega, fun h => absurd h hz, fun _ => rfl, builtB_nil, h2, fun _ => rfl, fun h => (by omega), fun s h => (by cases h), fun h => absurd h hc5⟩
theorem add_is {c c1 b : Int} {p : Pt} {m : S44} (hc : 1 ≤ c ∧ c ≤ 5) (h1 : 0 ≤ c1 ∧ c1 < 2) (hp : Fit c b p) (hm : FitM m) (hl : p.t.length + 1 < 8796093022208) :
    agg_Add.f c c1 p.n p.v p.t m.f0.f0 m.f0.f1 m.f0.f2 m.f1 = some ((mg c p (unit c c1 m)).n, (mg c p (unit c c1 m)).v, (mg c p (unit c c1 m)).t) := by
  have hu := unit_fit hc h1 hm
  have key : agg_Add.f c c1 p.n p.v p.t m.f0.f0 m.f0.f1 m.f0.f2 m.f1 = agg_Merge.f c c1 p.n p.v p.t (unit c c1 m).n (unit c c1 m).v (unit c c1 m).t := by
    have hd := hm.d; have he := hm.e
    unfold agg_Add.f unit
    rw [if_neg (by omega)]
    by_cases hz : m.f1 = 0
    · rw [if_pos hz, if_pos hz]; rfl
    rw [if_neg hz, if_neg hz]
    by_cases hc1 : c = 1
    · rw [if_pos hc1, if_pos hc1]
    rw [if_neg hc1, if_neg hc1]
    by_cases hc5 : c = 5
    · rw [if_pos hc5, if_pos hc5, if_pos (by omega)]
    · rw [if_neg hc5, if_neg hc5, if_pos (by omega)]
  rw [key]
  refine merge_is hc hp hu ?_
  have : (unit c c1 m).t.length ≤ 1 := by
    unfold unit
    split
    · exact Nat.zero_le _
    · split
      · exact Nat.zero_le _
      · split
        · exact Nat.le_refl _
        · exact Nat.zero_le _
  omega
def sp (c c1 : Int) (l : List S44) : Pt := l.foldl (fun p m => mg c p (unit c c1 m)) Pt.z
theorem sp_nil (c c1 : Int) : sp c c1 [] = Pt.z := rfl
theorem sp_snoc (c c1 : Int) (l : List S44) (m : S44) : sp c c1 (l ++ [m]) = mg c (sp c c1 l) (unit c c1 m) := by
  unfold sp; rw [List.foldl_append]; rfl
def FitL (l : List S44) : Prop := ∀ m ∈ l, FitM m
theorem snoc_ind {P : List S44 → Prop} (h0 : P []) (h : ∀ l m, P l → P (l ++ [m])) (l : List S44) : P l := by
  rw [← List.reverse_reverse l]
  induction l.reverse with
  | nil => exact h0
  | cons m r ih => rw [List.reverse_cons]; exact h _ _ ih
theorem sp_fit {c c1 : Int} (hc : 1 ≤ c ∧ c ≤ 5) (h1 : 0 ≤ c1 ∧ c1 < 2) (l : List S44) : FitL l → l.length ≤ 1000 → Fit c (1125899906842624 * (l.length : Int)) (sp c c1 l) := by
  refine snoc_ind (P := fun l => FitL l → l.length ≤ 1000 → Fit c (1125899906842624 * (l.length : Int)) (sp c c1 l)) (fun _ _ => fit_z _ _ (by simp)) (fun l m ih hf hl => ?_) l
  rw [List.length_append, List.length_singleton] at hl ⊢
  rw [sp_snoc]
  have := mg_fit (ih (fun x hx => hf x (by simp [hx])) (by omega)) (unit_fit hc h1 (hf m (by simp))) (by omega) (by omega) (by omega)
  refine ⟨this.lo, Int.le_trans this.hi (by omega), this.zv, this.zt, this.bt, this.len, this.tx, this.vz, this.sz, this.tn⟩
theorem sp_append {c c1 : Int} (hc : 1 ≤ c ∧ c ≤ 5) (h1 : 0 ≤ c1 ∧ c1 < 2) (x y : List S44) : FitL x → FitL y → x.length + y.length ≤ 1000 → sp c c1 (x ++ y) = mg c (sp c c1 x) (sp c c1 y) := by
  refine snoc_ind (P := fun y => FitL x → FitL y → x.length + y.length ≤ 1000 → sp c c1 (x ++ y) = mg c (sp c c1 x) (sp c c1 y)) (fun hx _ hl => ?_) (fun y m ih hx hy hl => ?_) y
  · rw [List.append_nil, sp_nil, mg_zero (sp_fit hc h1 x hx (by simpa using hl))]
  · rw [List.length_append, List.length_singleton] at hl
    have hy' : FitL y := fun z hz => hy z (by simp [hz])
    rw [← List.append_assoc, sp_snoc, sp_snoc, ih hx hy' (by omega), mg_assoc (sp_fit hc h1 x hx (by omega)) (sp_fit hc h1 y hy' (by omega)) (unit_fit hc h1 (hy m (by simp))) (by omega) (by omega) (by omega) (by omega)]
end Go.Proofs.Ytmjhgeinhhhodaa.Ext
end
