/- Texts of this repo, joined, without what this claim does not use: P24, P25, P6, P7, P8, P9, P10, P11, P12, P13, P14, P15, FactCmp, FactOrd, FactBag, Lib, Reg, FSort, FIns, FCmp, FSorted, FClone, P35, FBagP. -/
import Derived.Test.YtfeeahjaeapkoaaDFactSpans1
import Derived.Test.YtfeeahjaeapkoaaDFactSpans2
import Derived.Laws.CopyOwn
import Derived.Lib.SlBytesConst
import Derived.Laws.BitsLemmas
import Derived.WalkSpells
import Derived.Outline
section
namespace Go.Proofs.Ytfeeahjaeapkoaa.P
open Go.RowKit Go.Proofs.YtfeeahjaeapkoaaW.PrintWords Go.Proofs.YtfeeahjaeapkoaaW.PrintLast Go.Proofs.YtfeeahjaeapkoaaW.PrintMore
attribute [local go_sem] max2_int min2_int max_two min_two max_three min_three max_four min_four   -- for this text's walks alone
set_option linter.unusedVariables false
set_option linter.unusedSimpArgs false
open Go.Proofs.Ytfeeahjaeapkoaa.Ext (q1_ q2_ q3_ bk_ bw_ sz_ ne_ bx_)
attribute [local go_sem high] Go.Proofs.Ytfeeahjaeapkoaa.Ext.gtr_str Go.Proofs.Ytfeeahjaeapkoaa.Ext.leq_str Go.Proofs.Ytfeeahjaeapkoaa.Ext.geq_str
mutual
def gristmillref04_Own.l0 : Nat → List (S40) → List (S40) → Int → Option ((List (S40)))
 | 0, _, _, _ => none
 | k + 1, x0, x3, x4 => if x4 < (x0.length : Int) then (if 0 ≤ x4 then ((gristmillref04_Put.f k x3 ((rd_T40 x0 x4).f0.f0) ((rd_T40 x0 x4).f0.f1) ((rd_T40 x0 x4).f0.f2) ((rd_T40 x0 x4).f1)).bind fun t239 => (gristmillref04_Own.l0 k x0 t239 (wrap64 (x4 + 1)))) else (none)) else (gristmillref04_Own.l1 k x3 ([] : List (S40)) 0)
def gristmillref04_Own.l1 : Nat → List (S40) → List (S40) → Int → Option ((List (S40)))
 | 0, _, _, _ => none
 | k + 1, x3, x5, x6 => if x6 < (x3.length : Int) then (if 0 ≤ x6 then (if ((rd_T40 x3 x6).f1) = 0 then (gristmillref04_Own.l1 k x3 x5 (wrap64 (x6 + 1))) else (if x5.length < 2199023255552 then (gristmillref04_Own.l1 k x3 (x5 ++ [(⟨(⟨(rd_T40 x3 x6).f0.f0, (rd_T40 x3 x6).f0.f1, (rd_T40 x3 x6).f0.f2⟩ : S27), (rd_T40 x3 x6).f1⟩ : S40)]) (wrap64 (x6 + 1))) else (none))) else (none)) else (some x5)
end
def gristmillref04_Own.f (k : Nat) (l0 : List (S40)) : Option ((List (S40))) := gristmillref04_Own.l0 k l0 ([] : List (S40)) 0
def gristmillref04_Own.T5 : Bool × List (List Nat × List Nat) := (true, [([], []), ([], []), ([], []), ([1, 2], [1, 2]), ([3], [3]), ([4], [4]), ([], []), ([], []), ([6, 7], [6, 7]), ([8], [8]), ([9], [9]), ([0, 5, 10], [0, 5, 10]), ([11, 11, 0, 1, 2, 3, 4, 5, 6, 7, 8, 9, 10, 11], [0, 11])])
def gristmillref04_Own.B5 : List Nat := [0, 0, 0, 6, 14, 30, 0, 0, 192, 448, 960, 2047, 4095]
theorem gristmillref04_Own.tab5 : rtab .any (opsOf Try.f25 5) = gristmillref04_Own.T5 := by kernel_rfl
theorem gristmillref04_Own.bits5 : waitsOk gristmillref04_Own.T5.2 gristmillref04_Own.B5 = true := by kernel_rfl
set_option maxHeartbeats 8000000 in
set_option maxRecDepth 100000 in
theorem gristmillref04_Own.calls (k : Nat) (P0_ : Nat → Prop) (A0 : Option Addr) (c0 : Nat) (l0 : List (S40)) (r : List (S40)) (w : World) (hs0 : Kd.V k40 40 w w.heap.size (fun k_ => P0_ k_) (.slice A0 l0.length c0) l0) (h : gristmillref04_Own.f k l0 = some r) :
  Calls Try.prog 25 #[.slice A0 l0.length c0] w fun e w' => ∃ v0_ : Value, e = .returned (v0_) ∧ Kd.N k40 40 w' w.heap.size (fun k_ => (P0_ k_ ∨ w.heap.size ≤ k_)) v0_ r ∧ Below w.heap.size w w' := by
 have hu27 := Try.underlying27
 have hu40 := Try.underlying40
 have HO0 := Aside0.mk (show Kd.V k40 40 w w.heap.size (fun k_ => (P0_ k_ ∨ w.heap.size ≤ k_)) (.slice A0 l0.length c0) l0 from Kd.V_mono hs0 (fun k_ hk => .inl hk))
 have HB := Aside0.mk (Below.refl w.heap.size w)
 have H : (gristmillref04_Own.l0 k l0 ([] : List (S40)) 0) = some r := h
 clear h
 have H' := Aside0.mk H
 clear H
 go_enter Try.func25, Try.ntmps25
 go_wp2
 go_loopg [3, 4] k (fun kq v3 v4 w' => ∃ (x3_1 : List (S40)) (x4_1 : Int), v4 = .int .i64 x4_1 ∧ Aside0 (gristmillref04_Own.l0 kq l0 x3_1 x4_1 = some r) ∧ Aside0 (kq ≤ k) ∧ Aside0 (Kd.V k40 40 w' w.heap.size (fun k_ => (P0_ k_ ∨ w.heap.size ≤ k_) ∧ some k_ ≠ (v3 : Value).ownBlock) (.slice A0 l0.length c0) l0) ∧ Aside0 (Kd.N k40 40 w' w.heap.size (fun k_ => (P0_ k_ ∨ w.heap.size ≤ k_)) v3 x3_1) ∧ Aside0 (Below w.heap.size w w'))
 case atStart => exact ⟨(([] : List (S40))), (0), (by first | rfl | (simp; done) | (simp [*]; done)), H', ⟨Nat.le_refl _⟩, ⟨by (with_reducible repeat (first | apply Kd.V_alloc | apply Kd.V_drewN | apply Kd.V_drew)); exact Kd.V_mono HO0.out (fun _ hk => ⟨hk, (by simp [Value.ownBlock])⟩)⟩, ⟨by first | exact Kd.S_nil _ _ _ _ _ | exact Kd.N_nil _ _ _ _ _ | exact Kd.V_nil _ _ _ _ _ | exact Kd.Q_nil _ _ _ _ _ | exact Kd.R_nil _ _ _ _ _⟩, ⟨by repeat (first | (with_reducible first | exact HB.out | apply below_alloc | apply pw_below_drewN | apply below_drew1) | exact HB.out)⟩⟩
 case round =>
  clear H'
  obtain ⟨x3_1, x4_1, rfl, HA, HK1, HO_0, HO_3, HB⟩ := hrel
  cases gk with
  | zero => exact absurd HA.out (by simp [gristmillref04_Own.l0])
  | succ k1 =>
   have H := HA.out
   clear HA
   simp only [gristmillref04_Own.l0] at H
   by_cases c2 : x4_1 < (l0.length : Int)
   ·rw [if_pos c2] at H
    have c2b0 : decide (x4_1 < (l0.length : Int)) = true := decide_eq_true c2
    clear c2
    by_cases c3 : 0 ≤ x4_1
    ·rw [if_pos c3] at H
     have c3b0 : decide (0 ≤ x4_1) = true := decide_eq_true c3
     clear c3
     replace H := Option.bind_eq_some_iff.mp H
     obtain ⟨t239, A40, H⟩ := H
     replace H : (gristmillref04_Own.l0 k1 l0 t239 (wrap64 (x4_1 + 1))) = some r := H
     have A4 := Aside0.mk A40
     clear A40
     have H' := Aside0.mk H
     clear H
     try go_wp2
     have n0_ := Aside0.mk (Kd.V_drew HO_0.out)
     have n1_ := Aside0.mk (Kd.N_drew HO_3.out)
     have n2_ := Aside0.mk (below_drew1 HB.out)
     clear HO_0
     clear HO_3
     clear HB
     have HO_0 := n0_
     have HO_3 := n1_
     have HB := n2_
     clear n0_ n1_ n2_
     have p237 : 0 ≤ (x4_1 : Int) := of_decide_eq_true (by assumption)
     have q237 : x4_1 < (l0.length : Int) := of_decide_eq_true (by assumption)
     obtain ⟨ad237, A237_1, c237_1, A237_2, c237_2, e237, hx237_0, hx237_1, hx237_2, hx237_3, hl237_1, hi237_1, hl237_2, hi237_2⟩ := at_T40 (Kd.V_reads' HO_0.out).2.2 x4_1 p237 q237
     cases e237
     obtain ⟨ce237, hce237, hMe237, hcc237⟩ := Kd.V_get HO_0.out z40 x4_1 p237 (by first | exact q237 | exact of_decide_eq_true (by assumption) | (have e_ := (Kd.V_reads' HO_0.out).1; omega))
     obtain ⟨ua237_1, uc237_1, ua237_2, uc237_2, rfl, ul237_1, ge237_1, ul237_2, ge237_2⟩ := k40_openF hMe237
     have hv237_1 := hcc237 1 _ rfl
     rw [add_field _ _ 1 (by omega)] at hv237_1
     replace hv237_1 := Option.some.inj (hv237_1.symm.trans hx237_1)
     injection hv237_1 with hva_ hvn_ hvc_
     rw [hva_] at ge237_1
     rw [hvc_] at ul237_1
     have HL237_1 := Aside0.mk (show Kd.V Kd.string 9 _ w.heap.size _ _ ((rd_T40 l0 x4_1).f0.f1) from Kd.V_mk ul237_1 ge237_1)
     clear hva_ hvn_ hvc_ ge237_1 ul237_1
     have hv237_2 := hcc237 2 _ rfl
     rw [add_field _ _ 2 (by omega)] at hv237_2
     replace hv237_2 := Option.some.inj (hv237_2.symm.trans hx237_2)
     injection hv237_2 with hva_ hvn_ hvc_
     rw [hva_] at ge237_2
     rw [hvc_] at ul237_2
     have HL237_2 := Aside0.mk (show Kd.V (Kd.int .i64) 2 _ w.heap.size _ _ ((rd_T40 l0 x4_1).f0.f2) from Kd.V_mk ul237_2 ge237_2)
     clear hva_ hvn_ hvc_ ge237_2 ul237_2
     clear hcc237 hce237
     have HR237_1 := Aside0.mk hi237_1
     have HC237_1 := Aside0.mk hl237_1
     clear hi237_1 hl237_1
     have HR237_2 := Aside0.mk hi237_2
     have HC237_2 := Aside0.mk hl237_2
     clear hi237_2 hl237_2
     replace p237 := eq_true p237
     replace q237 := eq_true q237
     have p238 : 0 ≤ (x4_1 : Int) := of_decide_eq_true (by assumption)
     have q238 : x4_1 < (l0.length : Int) := of_decide_eq_true (by assumption)
     obtain ⟨ad238, A238_1, c238_1, A238_2, c238_2, e238, hx238_0, hx238_1, hx238_2, hx238_3, hl238_1, hi238_1, hl238_2, hi238_2⟩ := at_T40 (Kd.V_reads' HO_0.out).2.2 x4_1 p238 q238
     obtain rfl : ad237 = ad238 := (by injection e238)
     obtain ⟨ce238, hce238, hMe238, hcc238⟩ := Kd.V_get HO_0.out z40 x4_1 p238 (by first | exact q238 | exact of_decide_eq_true (by assumption) | (have e_ := (Kd.V_reads' HO_0.out).1; omega))
     obtain ⟨ua238_1, uc238_1, ua238_2, uc238_2, rfl, ul238_1, ge238_1, ul238_2, ge238_2⟩ := k40_openF hMe238
     have hv238_1 := hcc238 1 _ rfl
     rw [add_field _ _ 1 (by omega)] at hv238_1
     replace hv238_1 := Option.some.inj (hv238_1.symm.trans hx238_1)
     injection hv238_1 with hva_ hvn_ hvc_
     rw [hva_] at ge238_1
     rw [hvc_] at ul238_1
     have HL238_1 := Aside0.mk (show Kd.V Kd.string 9 _ w.heap.size _ _ ((rd_T40 l0 x4_1).f0.f1) from Kd.V_mk ul238_1 ge238_1)
     clear hva_ hvn_ hvc_ ge238_1 ul238_1
     have hv238_2 := hcc238 2 _ rfl
     rw [add_field _ _ 2 (by omega)] at hv238_2
     replace hv238_2 := Option.some.inj (hv238_2.symm.trans hx238_2)
     injection hv238_2 with hva_ hvn_ hvc_
     rw [hva_] at ge238_2
     rw [hvc_] at ul238_2
     have HL238_2 := Aside0.mk (show Kd.V (Kd.int .i64) 2 _ w.heap.size _ _ ((rd_T40 l0 x4_1).f0.f2) from Kd.V_mk ul238_2 ge238_2)
     clear hva_ hvn_ hvc_ ge238_2 ul238_2
     clear hcc238 hce238
     have HR238_1 := Aside0.mk hi238_1
     have HC238_1 := Aside0.mk hl238_1
     clear hi238_1 hl238_1
     have HR238_2 := Aside0.mk hi238_2
     have HC238_2 := Aside0.mk hl238_2
     clear hi238_2 hl238_2
     replace p238 := eq_true p238
     replace q238 := eq_true q238
     have ea_ := Option.some.inj (hx237_1.symm.trans hx238_1)
     injection ea_ with ea_ en_ ec_
     subst ea_
     subst ec_
     clear en_
     have ea_ := Option.some.inj (hx237_2.symm.trans hx238_2)
     injection ea_ with ea_ en_ ec_
     subst ea_
     subst ec_
     clear en_
     obtain ⟨Ao6, co6, eo6⟩ := Kd.N_slice HO_3.out
     (first | subst eo6 | (injection eo6 with f1_ f2_ f3_; have f4_ := f1_.symm; have f5_ := f3_.symm; clear f1_ f2_ f3_; subst f4_; subst f5_))
     refine start_ (n := 13) (S := fun w' => w'.cell? (ad237.add ((x4_1).toNat * 4)) = some (.int .i64 ((rd_T40 l0 x4_1).f0.f0)) ∧ w'.cell? ⟨(ad237.add ((x4_1).toNat * 4)).block, (ad237.add ((x4_1).toNat * 4)).off + 1, none⟩ = some (.slice A237_1 ((rd_T40 l0 x4_1).f0.f1).length c237_1) ∧ w'.cell? ⟨(ad237.add ((x4_1).toNat * 4)).block, (ad237.add ((x4_1).toNat * 4)).off + 2, none⟩ = some (.slice A237_2 ((rd_T40 l0 x4_1).f0.f2).length c237_2) ∧ w'.cell? ⟨(ad237.add ((x4_1).toNat * 4)).block, (ad237.add ((x4_1).toNat * 4)).off + 3, none⟩ = some (.int .u64 ((rd_T40 l0 x4_1).f1)) ∧ w'.cell? (ad237.add ((x4_1).toNat * 4)) = some (.int .i64 ((rd_T40 l0 x4_1).f0.f0)) ∧ w'.cell? ⟨(ad237.add ((x4_1).toNat * 4)).block, (ad237.add ((x4_1).toNat * 4)).off + 1, none⟩ = some (.slice A237_1 ((rd_T40 l0 x4_1).f0.f1).length c237_1) ∧ w'.cell? ⟨(ad237.add ((x4_1).toNat * 4)).block, (ad237.add ((x4_1).toNat * 4)).off + 2, none⟩ = some (.slice A237_2 ((rd_T40 l0 x4_1).f0.f2).length c237_2) ∧ w'.cell? ⟨(ad237.add ((x4_1).toNat * 4)).block, (ad237.add ((x4_1).toNat * 4)).off + 3, none⟩ = some (.int .u64 ((rd_T40 l0 x4_1).f1))) (ds := []) #[false, false, false, false, false, false, false, false, false, false, false, false, false] (by kernel_rfl) rfl rfl ⟨hx237_0, hx237_1, hx237_2, hx237_3, hx238_0, hx238_1, hx238_2, hx238_3⟩ (fun hHeld => ?_); refine with_tabW gristmillref04_Own.tab5 gristmillref04_Own.bits5 (fun HT_ HW_ => ?_)
     generalize wr.drew = w5 at HO_0 HO_3 HB HL237_1 HL237_2 HL238_1 HL238_2 HR237_1 HR237_2 HR238_1 HR238_2 hx237_0 hx237_1 hx237_2 hx237_3 hx238_0 hx238_1 hx238_2 hx238_3 hHeld ⊢
     refine pure_ (i := 0) (N := some 13) (v := ?_) (a' := ?_) #[true, false, false, false, false, false, false, false, false, false, false, false, false] rfl rfl (any_of HT_.out (by kernel_rfl)) (fun _ _ _ h => h) (Or.inl ⟨by rfl, ?_⟩) ?_ ?_
     rotate_left
     ·intro w'
      go_simp
      with_reducible rfl
     rotate_left
     ·simp only [Act.put, q1_, q2_, q3_, i64_w, i32_w]
      rfl
     refine pure_ (i := 1) (N := some 14) (v := ?_) (a' := ?_) #[true, true, false, false, false, false, false, false, false, false, false, false, false] rfl rfl (any_of HT_.out (by kernel_rfl)) (fun _ _ _ h => h) (Or.inl ⟨by rfl, ?_⟩) ?_ ?_
     rotate_left
     ·intro w'
      go_simp
      with_reducible rfl
     rotate_left
     ·simp only [Act.put, q1_, q2_, q3_, i64_w, i32_w]
      rfl
     refine pure_ (i := 2) (N := some 15) (v := ?_) (a' := ?_) #[true, true, true, false, false, false, false, false, false, false, false, false, false] rfl rfl (any_of HT_.out (by kernel_rfl)) (fun _ _ _ h => h) (Or.inl ⟨by rfl, ?_⟩) ?_ ?_
     rotate_left
     ·intro w'
      go_simp
      with_reducible rfl
     rotate_left
     ·simp only [Act.put, q1_, q2_, q3_, i64_w, i32_w]
      rfl
     refine pure_ (i := 3) (N := some 16) (v := ?_) (a' := ?_) #[true, true, true, true, false, false, false, false, false, false, false, false, false] rfl rfl (any_of HT_.out (by kernel_rfl)) (fun _ _ _ h => h) (Or.inl ⟨by rfl, ?_⟩) ?_ ?_
     rotate_left
     ·intro w'
      go_simp
      with_reducible rfl
     rotate_left
     ·simp only [Act.put, q1_, q2_, q3_, i64_w, i32_w]
      rfl
     refine pure_ (i := 4) (N := some 17) (v := ?_) (a' := ?_) #[true, true, true, true, true, false, false, false, false, false, false, false, false] rfl rfl (any_of HT_.out (by kernel_rfl)) (fun _ _ _ h => h) (Or.inl ⟨by rfl, ?_⟩) ?_ ?_
     rotate_left
     ·intro w'
      go_simp
      with_reducible rfl
     rotate_left
     ·simp only [Act.put, q1_, q2_, q3_, i64_w, i32_w]
      rfl
     refine pure_ (i := 6) (N := some 19) (v := ?_) (a' := ?_) #[true, true, true, true, true, false, true, false, false, false, false, false, false] rfl rfl (any_of HT_.out (by kernel_rfl)) (fun _ _ _ h => h) (Or.inl ⟨by rfl, ?_⟩) ?_ ?_
     rotate_left
     ·intro w'
      go_simp
      with_reducible rfl
     rotate_left
     ·simp only [Act.put, q1_, q2_, q3_, i64_w, i32_w]
      rfl
     refine pure_ (i := 7) (N := some 20) (v := ?_) (a' := ?_) #[true, true, true, true, true, false, true, true, false, false, false, false, false] rfl rfl (any_of HT_.out (by kernel_rfl)) (fun _ _ _ h => h) (Or.inl ⟨by rfl, ?_⟩) ?_ ?_
     rotate_left
     ·intro w'
      go_simp
      with_reducible rfl
     rotate_left
     ·simp only [Act.put, q1_, q2_, q3_, i64_w, i32_w]
      rfl
     refine pure_ (i := 8) (N := some 21) (v := ?_) (a' := ?_) #[true, true, true, true, true, false, true, true, true, false, false, false, false] rfl rfl (any_of HT_.out (by kernel_rfl)) (fun _ _ _ h => h) (Or.inl ⟨by rfl, ?_⟩) ?_ ?_
     rotate_left
     ·intro w'
      go_simp
      with_reducible rfl
     rotate_left
     ·simp only [Act.put, q1_, q2_, q3_, i64_w, i32_w]
      rfl
     refine pure_ (i := 9) (N := some 22) (v := ?_) (a' := ?_) #[true, true, true, true, true, false, true, true, true, true, false, false, false] rfl rfl (any_of HT_.out (by kernel_rfl)) (fun _ _ _ h => h) (Or.inl ⟨by rfl, ?_⟩) ?_ ?_
     rotate_left
     ·intro w'
      go_simp
      with_reducible rfl
     rotate_left
     ·simp only [Act.put, q1_, q2_, q3_, i64_w, i32_w]
      rfl
     refine take_ (i := 5) (N := some 18) (v := ?_) (a' := ?_) #[true, true, true, true, true, true, true, true, true, true, false, false, false] rfl rfl (take_ofW HT_.out HW_.out (by kernel_rfl)) (fun _ _ _ h => h) (Or.inl ⟨by rfl, ?_⟩) hHeld ?_ ?_
     rotate_left
     ·rintro w' ⟨s0, s1, s2, s3, s4, s5, s6, s7⟩
      go_simp
      with_reducible rfl
     rotate_left
     ·simp only [Act.put, q1_, q2_, q3_, i64_w, i32_w]
      rfl
     refine take_ (i := 10) (N := some 23) (v := ?_) (a' := ?_) #[true, true, true, true, true, true, true, true, true, true, true, false, false] rfl rfl (take_ofW HT_.out HW_.out (by kernel_rfl)) (fun _ _ _ h => h) (Or.inl ⟨by rfl, ?_⟩) hHeld ?_ ?_
     rotate_left
     ·rintro w' ⟨s0, s1, s2, s3, s4, s5, s6, s7⟩
      go_simp
      with_reducible rfl
     rotate_left
     ·simp only [Act.put, q1_, q2_, q3_, i64_w, i32_w]
      rfl
     refine one_ (i := 11) (N := some 24) #[true, true, true, true, true, true, true, true, true, true, true, true, false] rfl rfl (one_of HT_.out (by kernel_rfl)) (by decide) (fun K hK => ?_)
     refine goes_ Try.func38 (by kernel_rfl) rfl #[.slice Ao6 x3_1.length co6, .agg #[.int .i64 ((rd_T40 l0 x4_1).f0.f0), .slice A237_1 ((rd_T40 l0 x4_1).f0.f1).length c237_1, .slice A237_2 ((rd_T40 l0 x4_1).f0.f2).length c237_2], .int .u64 ((rd_T40 l0 x4_1).f1)] (by rfl) rfl rfl (by (try simp only [List.map_toArray, List.map_cons, List.map_nil]); first | done | rfl | (simp only [List.length_drop, List.length_take]; rfl)) ?_
     with_reducible refine (gristmillref04_Put.calls k1 (fun k_ => (P0_ k_ ∨ w.heap.size ≤ k_)) _ _ x3_1 ((rd_T40 l0 x4_1).f0.f0) (fun k_ => ((P0_ k_ ∨ w.heap.size ≤ k_) ∧ some k_ ≠ (.slice Ao6 x3_1.length co6 : Value).ownBlock)) _ _ ((rd_T40 l0 x4_1).f0.f1) (fun k_ => ((P0_ k_ ∨ w.heap.size ≤ k_) ∧ some k_ ≠ (.slice Ao6 x3_1.length co6 : Value).ownBlock)) _ _ ((rd_T40 l0 x4_1).f0.f2) ((rd_T40 l0 x4_1).f1) t239 _ ?side1 ?side2 ?side3 A4.out).mono ?_
     (case side1 => exact Kd.N_V (HO_3.out))
     (case side2 => exact HL237_1.out)
     (case side3 => exact HL237_2.out)
     rintro e w7 ⟨v240, rfl, ho0, hb⟩
     have HS0_ := (hb.cell (World.block_lt_of_cell? _ _ (hHeld.1))).trans (hHeld.1)
     have HS1_ := (hb.cell (World.block_lt_of_cell? _ _ (hHeld.2.1))).trans (hHeld.2.1)
     have HS2_ := (hb.cell (World.block_lt_of_cell? _ _ (hHeld.2.2.1))).trans (hHeld.2.2.1)
     have HS3_ := (hb.cell (World.block_lt_of_cell? _ _ (hHeld.2.2.2.1))).trans (hHeld.2.2.2.1)
     have HS4_ := (hb.cell (World.block_lt_of_cell? _ _ (hHeld.2.2.2.2.1))).trans (hHeld.2.2.2.2.1)
     have HS5_ := (hb.cell (World.block_lt_of_cell? _ _ (hHeld.2.2.2.2.2.1))).trans (hHeld.2.2.2.2.2.1)
     have HS6_ := (hb.cell (World.block_lt_of_cell? _ _ (hHeld.2.2.2.2.2.2.1))).trans (hHeld.2.2.2.2.2.2.1)
     have HS7_ := (hb.cell (World.block_lt_of_cell? _ _ (hHeld.2.2.2.2.2.2.2))).trans (hHeld.2.2.2.2.2.2.2)
     refine ⟨_, rfl, ?_⟩
     have n0_ := Aside0.mk (Kd.V_elder' (by (with_reducible repeat (first | apply Kd.V_alloc | apply Kd.V_drewN | apply Kd.V_drew)); exact HO_0.out) (Kd.N_base ho0) hb)
     have n1_ := Aside0.mk (Kd.N_elder' (by (with_reducible repeat (first | apply Kd.N_alloc | apply Kd.N_drewN | apply Kd.N_drew)); exact HO_3.out) (Kd.N_base ho0) hb)
     have n2_ := Aside0.mk (Kd.V_elder' (by (with_reducible repeat (first | apply Kd.V_alloc | apply Kd.V_drewN | apply Kd.V_drew)); exact HL237_1.out) (Kd.N_base ho0) hb)
     have n3_ := Aside0.mk (Kd.V_elder' (by (with_reducible repeat (first | apply Kd.V_alloc | apply Kd.V_drewN | apply Kd.V_drew)); exact HL237_2.out) (Kd.N_base ho0) hb)
     have n4_ := Aside0.mk (Kd.V_elder' (by (with_reducible repeat (first | apply Kd.V_alloc | apply Kd.V_drewN | apply Kd.V_drew)); exact HL238_1.out) (Kd.N_base ho0) hb)
     have n5_ := Aside0.mk (Kd.V_elder' (by (with_reducible repeat (first | apply Kd.V_alloc | apply Kd.V_drewN | apply Kd.V_drew)); exact HL238_2.out) (Kd.N_base ho0) hb)
     have n6_ := Aside0.mk (Kd.N_lower (Kd.N_mono (ok' := fun k_ => (P0_ k_ ∨ w.heap.size ≤ k_)) ho0 (fun k_ hk_ => Or.elim hk_ (fun hs_ => Or.elim hs_ (fun hs_ => hs_) (fun hs_ => Or.elim hs_ (fun hs_ => hs_.1) (fun hs_ => hs_.1))) (fun hn_ => (.inr (Nat.le_trans (below_size (bw_ HB.out)) hn_))))) (below_size (bw_ HB.out)))
     have n7_ := Aside0.mk (Kd.C_below (by repeat (first | (with_reducible exact HR237_1.out) | (with_reducible refine Kd.C_alloc ?_ _) | (with_reducible refine Kd.C_drewN ?_ _) | (with_reducible refine Kd.C_drew ?_) | exact HR237_1.out)) hb)
     have n8_ := Aside0.mk (Kd.C_below (by repeat (first | (with_reducible exact HR237_2.out) | (with_reducible refine Kd.C_alloc ?_ _) | (with_reducible refine Kd.C_drewN ?_ _) | (with_reducible refine Kd.C_drew ?_) | exact HR237_2.out)) hb)
     have n9_ := Aside0.mk (Kd.C_below (by repeat (first | (with_reducible exact HR238_1.out) | (with_reducible refine Kd.C_alloc ?_ _) | (with_reducible refine Kd.C_drewN ?_ _) | (with_reducible refine Kd.C_drew ?_) | exact HR238_1.out)) hb)
     have n10_ := Aside0.mk (Kd.C_below (by repeat (first | (with_reducible exact HR238_2.out) | (with_reducible refine Kd.C_alloc ?_ _) | (with_reducible refine Kd.C_drewN ?_ _) | (with_reducible refine Kd.C_drew ?_) | exact HR238_2.out)) hb)
     have n11_ := Aside0.mk (below_step (bw_ HB.out) hb)
     clear HO_0
     clear HO_3
     clear HL237_1
     clear HL237_2
     clear HL238_1
     clear HL238_2
     clear HR237_1
     clear HR237_2
     clear HR238_1
     clear HR238_2
     clear HB
     have HO_0 := n0_
     have HO_3 := n1_
     have HL237_1 := n2_
     have HL237_2 := n3_
     have HL238_1 := n4_
     have HL238_2 := n5_
     have HO241 := n6_
     have HR237_1 := n7_
     have HR237_2 := n8_
     have HR238_1 := n9_
     have HR238_2 := n10_
     have HB := n11_
     clear n0_ n1_ n2_ n3_ n4_ n5_ n6_ n7_ n8_ n9_ n10_ n11_
     (try clear hb)
     (try clear hb2)
     (try clear hk)
     (try clear hi)
     (try clear ho0)
     refine hK.out _ _ ⟨HS0_, HS1_, HS2_, HS3_, HS4_, HS5_, HS6_, HS7_⟩ (fun hHeld => ?_)
     clear hK K
     refine norm_ (a' := ?_) ?_ ?_
     rotate_left
     ·show Act.put _ (some 24) _ = _
      simp only [Act.put, q1_, q2_, q3_, i64_w, i32_w]
      rfl
     refine pure_ (i := 12) (N := some 3) (v := ?_) (a' := ?_) #[true, true, true, true, true, true, true, true, true, true, true, true, true] rfl rfl (any_of HT_.out (by kernel_rfl)) (fun _ _ _ h => h) (Or.inl ⟨by rfl, ?_⟩) ?_ ?_
     rotate_left
     ·intro w'
      go_simp
      with_reducible rfl
     rotate_left
     ·simp only [Act.put, q1_, q2_, q3_, i64_w, i32_w]
      rfl
     refine done_ (done_of HT_.out (by kernel_rfl)) ?_
     try go_wp2
     go_roundg k1
     case measure => have := HK1.out; omega
     case rel => exact ⟨(t239), (wrap64 (x4_1 + 1)), (by first | rfl | (simp; done) | (simp [*]; done)), H', ⟨by have := HK1.out; omega⟩, ⟨by (with_reducible repeat (first | apply Kd.V_alloc | apply Kd.V_drewN | apply Kd.V_drew)); exact Kd.V_mono HO_0.out (fun _ hk => ⟨hk.1.1, hk.2⟩)⟩, ⟨by (with_reducible repeat (first | apply Kd.N_alloc | apply Kd.N_drewN | apply Kd.N_drew)); exact HO241.out⟩, ⟨by repeat (first | (with_reducible first | exact HB.out | apply below_alloc | apply pw_below_drewN | apply below_drew1) | exact HB.out)⟩⟩
    ·rw [if_neg c3] at H
     exact absurd H (by simp)
   ·rw [if_neg c2] at H
    have c2b0 : decide (x4_1 < (l0.length : Int)) = false := decide_eq_false c2
    clear c2
    have H' := Aside0.mk H
    clear H
    go_wp2
    go_loopg [5, 6] k1 (fun kq v5 v6 w' => ∃ (x5_2 : List (S40)) (x6_2 : Int), v6 = .int .i64 x6_2 ∧ Aside0 (gristmillref04_Own.l1 kq x3_1 x5_2 x6_2 = some r) ∧ Aside0 (kq ≤ k1) ∧ Aside0 (Kd.N k40 40 w' w.heap.size (fun k_ => (P0_ k_ ∨ w.heap.size ≤ k_) ∧ some k_ ≠ (v5 : Value).ownBlock) u3 x3_1) ∧ Aside0 (Kd.N k40 40 w' w.heap.size (fun k_ => (P0_ k_ ∨ w.heap.size ≤ k_) ∧ some k_ ≠ (u3 : Value).ownBlock) v5 x5_2) ∧ Aside0 (Below w.heap.size w w'))
    case atStart => exact ⟨(([] : List (S40))), (0), (by first | rfl | (simp; done) | (simp [*]; done)), H', ⟨Nat.le_refl _⟩, ⟨by (with_reducible repeat (first | apply Kd.N_alloc | apply Kd.N_drewN | apply Kd.N_drew)); exact Kd.N_mono HO_3.out (fun _ hk => ⟨hk, (by simp [Value.ownBlock])⟩)⟩, ⟨by first | exact Kd.S_nil _ _ _ _ _ | exact Kd.N_nil _ _ _ _ _ | exact Kd.V_nil _ _ _ _ _ | exact Kd.Q_nil _ _ _ _ _ | exact Kd.R_nil _ _ _ _ _⟩, ⟨by repeat (first | (with_reducible first | exact HB.out | apply below_alloc | apply pw_below_drewN | apply below_drew1) | exact HB.out)⟩⟩
    case round =>
     clear H'
     try clear c2
     try clear c2b0
     try clear p2
     try clear q2
     try clear hx2
     try clear c3
     try clear c3b0
     try clear p6
     try clear hx237_0
     try clear hx237_1
     try clear hx237_2
     try clear hx237_3
     try clear hx238_0
     try clear hx238_1
     try clear hx238_2
     try clear hx238_3
     try clear p237
     try clear p238
     try clear q237
     try clear q238
     obtain ⟨x5_2, x6_2, rfl, HA, HK2, HO_3, HO_5, HB⟩ := hrel
     cases gk with
     | zero => exact absurd HA.out (by simp [gristmillref04_Own.l1])
     | succ k2 =>
      have H := HA.out
      clear HA
      simp only [gristmillref04_Own.l1] at H
      by_cases c8 : x6_2 < (x3_1.length : Int)
      ·rw [if_pos c8] at H
       have c8b0 : decide (x6_2 < (x3_1.length : Int)) = true := decide_eq_true c8
       clear c8
       by_cases c9 : 0 ≤ x6_2
       ·rw [if_pos c9] at H
        have c9b0 : decide (0 ≤ x6_2) = true := decide_eq_true c9
        clear c9
        by_cases c10 : ((rd_T40 x3_1 x6_2).f1) = 0
        ·rw [if_pos c10] at H
         have c10b0 : (((rd_T40 x3_1 x6_2).f1) == 0) = true := beq_iff_eq.mpr c10
         have c10b1 : (((rd_T40 x3_1 x6_2).f1) != 0) = false := bne_eq_false_iff_eq.mpr c10
         clear c10
         have H' := Aside0.mk H
         clear H
         obtain ⟨Ao11, co11, eo11⟩ := Kd.N_slice HO_3.out
         subst eo11
         have p242 : 0 ≤ (x6_2 : Int) := of_decide_eq_true (by assumption)
         have q242 : x6_2 < (x3_1.length : Int) := of_decide_eq_true (by assumption)
         obtain ⟨ad242, A242_1, c242_1, A242_2, c242_2, e242, hx242_0, hx242_1, hx242_2, hx242_3, hl242_1, hi242_1, hl242_2, hi242_2⟩ := at_T40 (Kd.N_reads' HO_3.out).2.2 x6_2 p242 q242
         cases e242
         obtain ⟨ce242, hce242, hMe242, hcc242⟩ := Kd.N_get HO_3.out z40 x6_2 p242 (by first | exact q242 | exact of_decide_eq_true (by assumption) | (have e_ := (Kd.N_reads' HO_3.out).1; omega))
         obtain ⟨ua242_1, uc242_1, ua242_2, uc242_2, rfl, ul242_1, ge242_1, ul242_2, ge242_2⟩ := k40_openF hMe242
         have hv242_1 := hcc242 1 _ rfl
         rw [add_field _ _ 1 (by omega)] at hv242_1
         replace hv242_1 := Option.some.inj (hv242_1.symm.trans hx242_1)
         injection hv242_1 with hva_ hvn_ hvc_
         rw [hva_] at ge242_1
         rw [hvc_] at ul242_1
         have HL242_1 := Aside0.mk (show Kd.V Kd.string 9 _ w.heap.size _ _ ((rd_T40 x3_1 x6_2).f0.f1) from Kd.V_mk ul242_1 ge242_1)
         clear hva_ hvn_ hvc_ ge242_1 ul242_1
         have hv242_2 := hcc242 2 _ rfl
         rw [add_field _ _ 2 (by omega)] at hv242_2
         replace hv242_2 := Option.some.inj (hv242_2.symm.trans hx242_2)
         injection hv242_2 with hva_ hvn_ hvc_
         rw [hva_] at ge242_2
         rw [hvc_] at ul242_2
         have HL242_2 := Aside0.mk (show Kd.V (Kd.int .i64) 2 _ w.heap.size _ _ ((rd_T40 x3_1 x6_2).f0.f2) from Kd.V_mk ul242_2 ge242_2)
         clear hva_ hvn_ hvc_ ge242_2 ul242_2
         clear hcc242 hce242
         have HR242_1 := Aside0.mk hi242_1
         have HC242_1 := Aside0.mk hl242_1
         clear hi242_1 hl242_1
         have HR242_2 := Aside0.mk hi242_2
         have HC242_2 := Aside0.mk hl242_2
         clear hi242_2 hl242_2
         replace p242 := eq_true p242
         replace q242 := eq_true q242
         go_wp2
         go_roundg k2
         case measure => have := HK1.out; have := HK2.out; omega
         case rel => exact ⟨(x5_2), (wrap64 (x6_2 + 1)), (by first | rfl | (simp; done) | (simp [*]; done)), H', ⟨by have := HK1.out; have := HK2.out; omega⟩, ⟨by (with_reducible repeat (first | apply Kd.N_alloc | apply Kd.N_drewN | apply Kd.N_drew)); exact HO_3.out⟩, ⟨by (with_reducible repeat (first | apply Kd.N_alloc | apply Kd.N_drewN | apply Kd.N_drew)); exact HO_5.out⟩, ⟨by repeat (first | (with_reducible first | exact HB.out | apply below_alloc | apply pw_below_drewN | apply below_drew1) | exact HB.out)⟩⟩
        ·rw [if_neg c10] at H
         have c10b0 : (((rd_T40 x3_1 x6_2).f1) == 0) = false := beq_eq_false_iff_ne.mpr c10
         have c10b1 : (((rd_T40 x3_1 x6_2).f1) != 0) = true := bne_iff_ne.mpr c10
         by_cases c12 : x5_2.length < 2199023255552
         ·rw [if_pos c12] at H
          have LMc12 := Aside0.mk c12
          clear c12
          obtain ⟨y244, hy244⟩ : ∃ y_ : List (S40), y_ = (x5_2 ++ [(⟨(⟨(rd_T40 x3_1 x6_2).f0.f0, (rd_T40 x3_1 x6_2).f0.f1, (rd_T40 x3_1 x6_2).f0.f2⟩ : S27), (rd_T40 x3_1 x6_2).f1⟩ : S40)]) := ⟨_, rfl⟩
          replace H : (gristmillref04_Own.l1 k2 x3_1 y244 (wrap64 (x6_2 + 1))) = some r := by first | (rw [hy244]; with_reducible exact H) | (have H2_ := (Option.bind_some _ _).symm.trans H; rw [hy244]; with_reducible exact H2_) | (have H2_ := (Option.bind_some _ _).symm.trans H; with_reducible exact H2_) | with_reducible exact H | (rw [hy244]; exact H) | exact H
          have Ny244 := Aside0.mk hy244
          clear hy244
          have H' := Aside0.mk H
          clear H
          obtain ⟨Ao13, co13, eo13⟩ := Kd.N_slice HO_3.out
          subst eo13
          have p242 : 0 ≤ (x6_2 : Int) := of_decide_eq_true (by assumption)
          have q242 : x6_2 < (x3_1.length : Int) := of_decide_eq_true (by assumption)
          obtain ⟨ad242, A242_1, c242_1, A242_2, c242_2, e242, hx242_0, hx242_1, hx242_2, hx242_3, hl242_1, hi242_1, hl242_2, hi242_2⟩ := at_T40 (Kd.N_reads' HO_3.out).2.2 x6_2 p242 q242
          cases e242
          obtain ⟨ce242, hce242, hMe242, hcc242⟩ := Kd.N_get HO_3.out z40 x6_2 p242 (by first | exact q242 | exact of_decide_eq_true (by assumption) | (have e_ := (Kd.N_reads' HO_3.out).1; omega))
          obtain ⟨ua242_1, uc242_1, ua242_2, uc242_2, rfl, ul242_1, ge242_1, ul242_2, ge242_2⟩ := k40_openF hMe242
          have hv242_1 := hcc242 1 _ rfl
          rw [add_field _ _ 1 (by omega)] at hv242_1
          replace hv242_1 := Option.some.inj (hv242_1.symm.trans hx242_1)
          injection hv242_1 with hva_ hvn_ hvc_
          rw [hva_] at ge242_1
          rw [hvc_] at ul242_1
          have HL242_1 := Aside0.mk (show Kd.V Kd.string 9 _ w.heap.size _ _ ((rd_T40 x3_1 x6_2).f0.f1) from Kd.V_mk ul242_1 ge242_1)
          clear hva_ hvn_ hvc_ ge242_1 ul242_1
          have hv242_2 := hcc242 2 _ rfl
          rw [add_field _ _ 2 (by omega)] at hv242_2
          replace hv242_2 := Option.some.inj (hv242_2.symm.trans hx242_2)
          injection hv242_2 with hva_ hvn_ hvc_
          rw [hva_] at ge242_2
          rw [hvc_] at ul242_2
          have HL242_2 := Aside0.mk (show Kd.V (Kd.int .i64) 2 _ w.heap.size _ _ ((rd_T40 x3_1 x6_2).f0.f2) from Kd.V_mk ul242_2 ge242_2)
          clear hva_ hvn_ hvc_ ge242_2 ul242_2
          clear hcc242 hce242
          have HR242_1 := Aside0.mk hi242_1
          have HC242_1 := Aside0.mk hl242_1
          clear hi242_1 hl242_1
          have HR242_2 := Aside0.mk hi242_2
          have HC242_2 := Aside0.mk hl242_2
          clear hi242_2 hl242_2
          replace p242 := eq_true p242
          replace q242 := eq_true q242
          have p243 : 0 ≤ (x6_2 : Int) := of_decide_eq_true (by assumption)
          have q243 : x6_2 < (x3_1.length : Int) := of_decide_eq_true (by assumption)
          obtain ⟨ad243, A243_1, c243_1, A243_2, c243_2, e243, hx243_0, hx243_1, hx243_2, hx243_3, hl243_1, hi243_1, hl243_2, hi243_2⟩ := at_T40 (Kd.N_reads' HO_3.out).2.2 x6_2 p243 q243
          obtain rfl : ad242 = ad243 := (by injection e243)
          obtain ⟨ce243, hce243, hMe243, hcc243⟩ := Kd.N_get HO_3.out z40 x6_2 p243 (by first | exact q243 | exact of_decide_eq_true (by assumption) | (have e_ := (Kd.N_reads' HO_3.out).1; omega))
          obtain ⟨ua243_1, uc243_1, ua243_2, uc243_2, rfl, ul243_1, ge243_1, ul243_2, ge243_2⟩ := k40_openF hMe243
          have hv243_1 := hcc243 1 _ rfl
          rw [add_field _ _ 1 (by omega)] at hv243_1
          replace hv243_1 := Option.some.inj (hv243_1.symm.trans hx243_1)
          injection hv243_1 with hva_ hvn_ hvc_
          rw [hva_] at ge243_1
          rw [hvc_] at ul243_1
          have HL243_1 := Aside0.mk (show Kd.V Kd.string 9 _ w.heap.size _ _ ((rd_T40 x3_1 x6_2).f0.f1) from Kd.V_mk ul243_1 ge243_1)
          clear hva_ hvn_ hvc_ ge243_1 ul243_1
          have hv243_2 := hcc243 2 _ rfl
          rw [add_field _ _ 2 (by omega)] at hv243_2
          replace hv243_2 := Option.some.inj (hv243_2.symm.trans hx243_2)
          injection hv243_2 with hva_ hvn_ hvc_
          rw [hva_] at ge243_2
          rw [hvc_] at ul243_2
          have HL243_2 := Aside0.mk (show Kd.V (Kd.int .i64) 2 _ w.heap.size _ _ ((rd_T40 x3_1 x6_2).f0.f2) from Kd.V_mk ul243_2 ge243_2)
          clear hva_ hvn_ hvc_ ge243_2 ul243_2
          clear hcc243 hce243
          have HR243_1 := Aside0.mk hi243_1
          have HC243_1 := Aside0.mk hl243_1
          clear hi243_1 hl243_1
          have HR243_2 := Aside0.mk hi243_2
          have HC243_2 := Aside0.mk hl243_2
          clear hi243_2 hl243_2
          replace p243 := eq_true p243
          replace q243 := eq_true q243
          have ea_ := Option.some.inj (hx242_1.symm.trans hx243_1)
          injection ea_ with ea_ en_ ec_
          subst ea_
          subst ec_
          clear en_
          have ea_ := Option.some.inj (hx242_2.symm.trans hx243_2)
          injection ea_ with ea_ en_ ec_
          subst ea_
          subst ec_
          clear en_
          go_wp2_with (first | ((with_reducible refine gate_builtin (b := .append) (xs := #[.tmp 37, .tmp 42]) rfl ?_); at_builtin; refine Kd.N_append k40 (w0 := w) w.heap.size rfl (.tmp 37) (.tmp 42) 36 40 (.agg #[(.int .i64 0), (.slice none 0 0), (.slice none 0 0), (.int .u64 0)]) 64 rfl Try.underlying36 info40 rfl (by decide) (by omega) u5 x5_2 (⟨(⟨(rd_T40 x3_1 x6_2).f0.f0, (rd_T40 x3_1 x6_2).f0.f1, (rd_T40 x3_1 x6_2).f0.f2⟩ : S27), (rd_T40 x3_1 x6_2).f1⟩ : S40) [.int .i64 ((rd_T40 x3_1 x6_2).f0.f0), .slice A242_1 ((rd_T40 x3_1 x6_2).f0.f1).length c242_1, .slice A242_2 ((rd_T40 x3_1 x6_2).f0.f2).length c242_2, .int .u64 ((rd_T40 x3_1 x6_2).f1)] (fun k_ => (P0_ k_ ∨ w.heap.size ≤ k_) ∧ some k_ ≠ (.slice (some ad242) x3_1.length co13 : Value).ownBlock) (fun k_ => ((fun k_ => (P0_ k_ ∨ w.heap.size ≤ k_) ∧ some k_ ≠ (.slice (some ad242) x3_1.length co13 : Value).ownBlock)) k_ ∧ some k_ ≠ (u5 : Value).ownBlock) rfl rfl ?aP (fun _ hk => hk) ?aF ?aO ?aB ?aS ?aL ?_; (case aP => exact (k40_mkF _ _ (⟨(⟨(rd_T40 x3_1 x6_2).f0.f0, (rd_T40 x3_1 x6_2).f0.f1, (rd_T40 x3_1 x6_2).f0.f2⟩ : S27), (rd_T40 x3_1 x6_2).f1⟩ : S40) (Kd.V_reads' (Kd.V_mono (ok' := (fun k_ => ((fun k_ => (P0_ k_ ∨ w.heap.size ≤ k_) ∧ some k_ ≠ (.slice (some ad242) x3_1.length co13 : Value).ownBlock)) k_ ∧ some k_ ≠ (u5 : Value).ownBlock)) (HL243_1.out) (fun k_ hk => ⟨⟨hk.1.1, hk.2⟩, hk.1.2⟩))).2.1 (Kd.V_F (Kd.V_mono (ok' := (fun k_ => ((fun k_ => (P0_ k_ ∨ w.heap.size ≤ k_) ∧ some k_ ≠ (.slice (some ad242) x3_1.length co13 : Value).ownBlock)) k_ ∧ some k_ ≠ (u5 : Value).ownBlock)) (HL243_1.out) (fun k_ hk => ⟨⟨hk.1.1, hk.2⟩, hk.1.2⟩))) (Kd.V_reads' (Kd.V_mono (ok' := (fun k_ => ((fun k_ => (P0_ k_ ∨ w.heap.size ≤ k_) ∧ some k_ ≠ (.slice (some ad242) x3_1.length co13 : Value).ownBlock)) k_ ∧ some k_ ≠ (u5 : Value).ownBlock)) (HL243_2.out) (fun k_ hk => ⟨⟨hk.1.1, hk.2⟩, hk.1.2⟩))).2.1 (Kd.V_F (Kd.V_mono (ok' := (fun k_ => ((fun k_ => (P0_ k_ ∨ w.heap.size ≤ k_) ∧ some k_ ≠ (.slice (some ad242) x3_1.length co13 : Value).ownBlock)) k_ ∧ some k_ ≠ (u5 : Value).ownBlock)) (HL243_2.out) (fun k_ hk => ⟨⟨hk.1.1, hk.2⟩, hk.1.2⟩))))); (case aB => exact (bw_ HB.out)); (case aF => exact (fun k_ hk => ⟨(.inr (Nat.le_trans (below_size (bw_ HB.out)) hk)), Kd.fresh' (Kd.N_lt (by (with_reducible repeat (first | apply Kd.N_alloc | apply Kd.N_drewN | apply Kd.N_drew)); exact HO_3.out)) k_ hk⟩)); (case aO => exact (by (with_reducible repeat (first | apply Kd.N_alloc | apply Kd.N_drewN | apply Kd.N_drew)); exact HO_5.out)); (case aS => exact (below_size (bw_ HB.out))); (case aL => have := LMc12.out; omega); intro v245 w14 ho hb hg hat; rw [← Ny244.out] at ho; have n0_ := Aside0.mk (Kd.N_afterv (ok := (fun k_ => (P0_ k_ ∨ w.heap.size ≤ k_))) (by (with_reducible repeat (first | apply Kd.N_alloc | apply Kd.N_drewN | apply Kd.N_drew)); exact HO_3.out) hg hat); have n1_ := Aside0.mk (Kd.V_afterv (ok := (fun k_ => (P0_ k_ ∨ w.heap.size ≤ k_) ∧ some k_ ≠ (.slice (some ad242) x3_1.length co13 : Value).ownBlock)) (by (with_reducible repeat (first | apply Kd.V_alloc | apply Kd.V_drewN | apply Kd.V_drew)); exact Kd.V_mono HL242_1.out (fun _ hk => ⟨⟨hk.1.1, hk.2⟩, hk.1.2⟩)) hg hat); have n2_ := Aside0.mk (Kd.V_afterv (ok := (fun k_ => (P0_ k_ ∨ w.heap.size ≤ k_) ∧ some k_ ≠ (.slice (some ad242) x3_1.length co13 : Value).ownBlock)) (by (with_reducible repeat (first | apply Kd.V_alloc | apply Kd.V_drewN | apply Kd.V_drew)); exact Kd.V_mono HL242_2.out (fun _ hk => ⟨⟨hk.1.1, hk.2⟩, hk.1.2⟩)) hg hat); have n3_ := Aside0.mk (Kd.V_afterv (ok := (fun k_ => (P0_ k_ ∨ w.heap.size ≤ k_) ∧ some k_ ≠ (.slice (some ad242) x3_1.length co13 : Value).ownBlock)) (by (with_reducible repeat (first | apply Kd.V_alloc | apply Kd.V_drewN | apply Kd.V_drew)); exact Kd.V_mono HL243_1.out (fun _ hk => ⟨⟨hk.1.1, hk.2⟩, hk.1.2⟩)) hg hat); have n4_ := Aside0.mk (Kd.V_afterv (ok := (fun k_ => (P0_ k_ ∨ w.heap.size ≤ k_) ∧ some k_ ≠ (.slice (some ad242) x3_1.length co13 : Value).ownBlock)) (by (with_reducible repeat (first | apply Kd.V_alloc | apply Kd.V_drewN | apply Kd.V_drew)); exact Kd.V_mono HL243_2.out (fun _ hk => ⟨⟨hk.1.1, hk.2⟩, hk.1.2⟩)) hg hat); have n5_ := Aside0.mk (hb); have n6_ := Aside0.mk (ho); clear HO_3 HL242_1 HL242_2 HL243_1 HL243_2 HB HO_5; have HO_3 := n0_; have HL242_1 := n1_; have HL242_2 := n2_; have HL243_1 := n3_; have HL243_2 := n4_; have HB := n5_; have HO246 := n6_; clear n0_ n1_ n2_ n3_ n4_ n5_ n6_; clear ho hb hg hat))
          go_roundg k2
          case measure => have := HK1.out; have := HK2.out; omega
          case rel => exact ⟨(y244), (wrap64 (x6_2 + 1)), (by first | rfl | (simp; done) | (simp [*]; done)), H', ⟨by have := HK1.out; have := HK2.out; omega⟩, ⟨by (with_reducible repeat (first | apply Kd.N_alloc | apply Kd.N_drewN | apply Kd.N_drew)); exact HO_3.out⟩, ⟨by (with_reducible repeat (first | apply Kd.N_alloc | apply Kd.N_drewN | apply Kd.N_drew)); exact HO246.out⟩, ⟨by repeat (first | (with_reducible first | exact HB.out | apply below_alloc | apply pw_below_drewN | apply below_drew1) | exact HB.out)⟩⟩
         ·rw [if_neg c12] at H
          exact absurd H (by simp)
       ·rw [if_neg c9] at H
        exact absurd H (by simp)
      ·rw [if_neg c8] at H
       have c8b0 : decide (x6_2 < (x3_1.length : Int)) = false := decide_eq_false c8
       clear c8
       obtain rfl := Option.some.inj H
       obtain ⟨Ao15, co15, eo15⟩ := Kd.N_slice HO_3.out
       subst eo15
       go_wp2
       go_ret
       exact ⟨_, by first | rfl | (simp [errW_none, errW_some] <;> rfl) | (simp [*, errW_none, errW_some] <;> rfl), by (with_reducible repeat (first | apply Kd.N_alloc | apply Kd.N_drewN | apply Kd.N_drew)); exact Kd.N_mono HO_5.out (fun _ hk => hk.1), by repeat (first | (with_reducible first | exact HB.out | apply below_alloc | apply pw_below_drewN | apply below_drew1) | exact HB.out)⟩
end Go.Proofs.Ytfeeahjaeapkoaa.P
end

section
namespace Go.Proofs.Ytfeeahjaeapkoaa.P
open Go.RowKit Go.Proofs.YtfeeahjaeapkoaaW.PrintWords Go.Proofs.YtfeeahjaeapkoaaW.PrintLast Go.Proofs.YtfeeahjaeapkoaaW.PrintMore
attribute [local go_sem] max2_int min2_int max_two min_two max_three min_three max_four min_four   -- for this text's walks alone
set_option linter.unusedVariables false
set_option linter.unusedSimpArgs false
open Go.Proofs.Ytfeeahjaeapkoaa.Ext (q1_ q2_ q3_ bk_ bw_ sz_ ne_ bx_)
attribute [local go_sem high] Go.Proofs.Ytfeeahjaeapkoaa.Ext.gtr_str Go.Proofs.Ytfeeahjaeapkoaa.Ext.leq_str Go.Proofs.Ytfeeahjaeapkoaa.Ext.geq_str
def gristmillref04_Within.l0 : Nat → Bool → List (S40) → List (S40) → Int → Int → Int → Option ((List (S40)))
 | 0, _, _, _, _, _, _ => none
 | k + 1, x2, x7, x8, x9, x248000, x248001 => if x9 < (x8.length : Int) then (if 0 ≤ x9 then (if x248000 ≤ ((rd_T40 x8 x9).f0.f0) then (if ((decide (((rd_T40 x8 x9).f0.f0) < x248001)) == x2) = true then (if x7.length < 2199023255552 then (gristmillref04_Within.l0 k x2 (x7 ++ [(⟨(⟨(rd_T40 x8 x9).f0.f0, (rd_T40 x8 x9).f0.f1, (rd_T40 x8 x9).f0.f2⟩ : S27), (rd_T40 x8 x9).f1⟩ : S40)]) x8 (wrap64 (x9 + 1)) x248000 x248001) else (none)) else (gristmillref04_Within.l0 k x2 x7 x8 (wrap64 (x9 + 1)) x248000 x248001)) else (if (false == x2) = true then (if x7.length < 2199023255552 then (gristmillref04_Within.l0 k x2 (x7 ++ [(⟨(⟨(rd_T40 x8 x9).f0.f0, (rd_T40 x8 x9).f0.f1, (rd_T40 x8 x9).f0.f2⟩ : S27), (rd_T40 x8 x9).f1⟩ : S40)]) x8 (wrap64 (x9 + 1)) x248000 x248001) else (none)) else (gristmillref04_Within.l0 k x2 x7 x8 (wrap64 (x9 + 1)) x248000 x248001))) else (none)) else (some x7)
def gristmillref04_Within.f (k : Nat) (l0 : List (S40)) (a1_0 : Int) (a1_1 : Int) (a2 : Bool) : Option ((List (S40))) := (gristmillref04_Own.f k l0).bind fun t248 => (gristmillref04_Within.l0 k a2 ([] : List (S40)) t248 0 a1_0 a1_1)
set_option maxHeartbeats 8000000 in
set_option maxRecDepth 100000 in
theorem gristmillref04_Within.calls (k : Nat) (P0_ : Nat → Prop) (A0 : Option Addr) (c0 : Nat) (l0 : List (S40)) (a1_0 : Int) (a1_1 : Int) (a2 : Bool) (r : List (S40)) (w : World) (hs0 : Kd.V k40 40 w w.heap.size (fun k_ => P0_ k_) (.slice A0 l0.length c0) l0) (h : gristmillref04_Within.f k l0 a1_0 a1_1 a2 = some r) :
  Calls Try.prog 20 #[.slice A0 l0.length c0, .agg #[.int .i64 a1_0, .int .i64 a1_1], .bool a2] w fun e w' => ∃ v0_ : Value, e = .returned (v0_) ∧ Kd.N k40 40 w' w.heap.size (fun k_ => (P0_ k_ ∨ w.heap.size ≤ k_)) v0_ r ∧ Below w.heap.size w w' := by
 have hu44 := Try.underlying44
 have hu40 := Try.underlying40
 have HO0 := Aside0.mk (show Kd.V k40 40 w w.heap.size (fun k_ => (P0_ k_ ∨ w.heap.size ≤ k_)) (.slice A0 l0.length c0) l0 from Kd.V_mono hs0 (fun k_ hk => .inl hk))
 have HB := Aside0.mk (Below.refl w.heap.size w)
 have H : ((gristmillref04_Own.f k l0).bind fun t248 => (gristmillref04_Within.l0 k a2 ([] : List (S40)) t248 0 a1_0 a1_1)) = some r := h
 clear h
 replace H := Option.bind_eq_some_iff.mp H
 obtain ⟨t248, A40, H⟩ := H
 replace H : (gristmillref04_Within.l0 k a2 ([] : List (S40)) t248 0 a1_0 a1_1) = some r := H
 have A4 := Aside0.mk A40
 clear A40
 have H' := Aside0.mk H
 clear H
 go_enter Try.func20, Try.ntmps20
 go_wp2_with (first | ((with_reducible refine gate_dst (N := 4) rfl ?_); refine bx_ (N := 4) (cs := #[.int .i64 a1_0, .int .i64 a1_1]) (t := 44) ?_; intro gb247 hg w5 hbox hb; have n0_ := Aside0.mk (Kd.V_below (Kd.V_elderB (by (with_reducible repeat (first | apply Kd.V_alloc | apply Kd.V_drewN | apply Kd.V_drew)); exact HO0.out) gb247 (Nat.le_of_eq hg.symm)) hb); have n1_ := Aside0.mk (below_step (bw_ HB.out) hb); have n2_ := Aside0.mk (hbox); have n3_ := Aside0.mk (sz_ hg (bw_ HB.out)); have n4_ := n3_; clear HO0 HB; have HO0 := n0_; have HB := n1_; have BK247 := n2_; have GW247 := n3_; have GE247 := n4_; clear n0_ n1_ n2_ n3_ n4_; clear hb hbox hg) | ((with_reducible refine gate_callee (f := 25) rfl ?_); refine goesL_ (some 12) rfl rfl Try.func25 (by kernel_rfl) rfl #[.slice A0 l0.length c0] rfl (by (try simp only [List.map_toArray, List.map_cons, List.map_nil]); first | done | rfl | (simp only [List.length_drop, List.length_take]; rfl)) ?_; (with_reducible refine (gristmillref04_Own.calls k (fun k_ => ((P0_ k_ ∨ w.heap.size ≤ k_) ∧ k_ ≠ gb247)) _ _ l0 t248 _ ?side1 A4.out).mono ?_); (case side1 => exact HO0.out); rintro e w6 ⟨v249, rfl, ho0, hb⟩; refine ⟨_, rfl, ?_⟩; have n0_ := Aside0.mk (Kd.V_elder' (by (with_reducible repeat (first | apply Kd.V_alloc | apply Kd.V_drewN | apply Kd.V_drew)); exact HO0.out) (Kd.N_base ho0) hb); have n1_ := Aside0.mk (Kd.N_lower (Kd.N_mono (ok' := fun k_ => (P0_ k_ ∨ w.heap.size ≤ k_) ∧ k_ ≠ gb247) ho0 (fun k_ hk_ => ⟨Or.elim hk_ (fun hs_ => hs_.1) (fun hn_ => (.inr (Nat.le_trans (below_size (bw_ HB.out)) hn_))), Or.elim hk_ (fun hs_ => hs_.2) (fun hn_ => (Kd.freshB (g := gb247) (o := .cells #[.int .i64 a1_0, .int .i64 a1_1] 44 (0, 0)) (bk_ BK247.out) k_ hn_))⟩)) (below_size (bw_ HB.out))); have n2_ := Aside0.mk (blk_below (bk_ BK247.out) hb); have n3_ := Aside0.mk (below_step (bw_ HB.out) hb); clear HO0 BK247 HB; have HO0 := n0_; have HO250 := n1_; have BK247 := n2_; have HB := n3_; clear n0_ n1_ n2_ n3_; (try clear hb); (try clear hb2); (try clear hk); (try clear hi); (try clear ho0)))
 go_loopg [7, 9] k (fun kq v7 v9 w' => ∃ (x7_1 : List (S40)) (x9_1 : Int), v9 = .int .i64 x9_1 ∧ Aside0 (gristmillref04_Within.l0 kq a2 x7_1 t248 x9_1 a1_0 a1_1 = some r) ∧ Aside0 (kq ≤ k) ∧ Aside0 (Kd.N k40 40 w' w.heap.size (fun k_ => (P0_ k_ ∨ w.heap.size ≤ k_) ∧ some k_ ≠ (v249 : Value).ownBlock ∧ k_ ≠ gb247) v7 x7_1) ∧ Aside0 (Kd.N k40 40 w' w.heap.size (fun k_ => (P0_ k_ ∨ w.heap.size ≤ k_) ∧ some k_ ≠ (v7 : Value).ownBlock ∧ k_ ≠ gb247) v249 t248) ∧ Aside0 (w'.heap[gb247]? = some (.cells #[.int .i64 a1_0, .int .i64 a1_1] 44 (0, 0))) ∧ Aside0 (Below w.heap.size w w'))
 case atStart => exact ⟨(([] : List (S40))), (0), (by first | rfl | (simp; done) | (simp [*]; done)), H', ⟨Nat.le_refl _⟩, ⟨by first | exact Kd.S_nil _ _ _ _ _ | exact Kd.N_nil _ _ _ _ _ | exact Kd.V_nil _ _ _ _ _ | exact Kd.Q_nil _ _ _ _ _ | exact Kd.R_nil _ _ _ _ _⟩, ⟨by (with_reducible repeat (first | apply Kd.N_alloc | apply Kd.N_drewN | apply Kd.N_drew)); exact Kd.N_mono HO250.out (fun _ hk => ⟨hk.1, ⟨(by simp [Value.ownBlock]), hk.2⟩⟩)⟩, ⟨by (with_reducible repeat (first | refine blk_drewN ?_ _ | refine blk_drew ?_ | refine blk_alloc ?_ _)); exact BK247.out⟩, ⟨by repeat (first | (with_reducible first | exact HB.out | apply below_alloc | apply pw_below_drewN | apply below_drew1 | refine below_set ?_ GE247.out) | exact HB.out)⟩⟩
 case round =>
  clear H'
  try clear c2
  try clear p2
  obtain ⟨x7_1, x9_1, rfl, HA, HK1, HO_7, HO_8, BK247, HB⟩ := hrel
  cases gk with
  | zero => exact absurd HA.out (by simp [gristmillref04_Within.l0])
  | succ k1 =>
   have H := HA.out
   clear HA
   simp only [gristmillref04_Within.l0] at H
   by_cases c7 : x9_1 < (t248.length : Int)
   ·rw [if_pos c7] at H
    have c7b0 : decide (x9_1 < (t248.length : Int)) = true := decide_eq_true c7
    clear c7
    by_cases c8 : 0 ≤ x9_1
    ·rw [if_pos c8] at H
     have c8b0 : decide (0 ≤ x9_1) = true := decide_eq_true c8
     clear c8
     by_cases c9 : a1_0 ≤ ((rd_T40 t248 x9_1).f0.f0)
     ·rw [if_pos c9] at H
      have c9b0 : decide (a1_0 ≤ ((rd_T40 t248 x9_1).f0.f0)) = true := decide_eq_true c9
      clear c9
      by_cases c10 : ((decide (((rd_T40 t248 x9_1).f0.f0) < a1_1)) == a2) = true
      ·rw [if_pos c10] at H
       have c10b0 : ((decide (((rd_T40 t248 x9_1).f0.f0) < a1_1)) == a2) = true := c10
       (try (have c10b1 : decide ((decide (((rd_T40 t248 x9_1).f0.f0) < a1_1)) = a2) = true := by simpa using c10))
       (try (have c10b2 : ((decide (((rd_T40 t248 x9_1).f0.f0) < a1_1)) == a2) = true := by simpa using c10))
       clear c10
       by_cases c11 : x7_1.length < 2199023255552
       ·rw [if_pos c11] at H
        have LMc11 := Aside0.mk c11
        clear c11
        obtain ⟨y253, hy253⟩ : ∃ y_ : List (S40), y_ = (x7_1 ++ [(⟨(⟨(rd_T40 t248 x9_1).f0.f0, (rd_T40 t248 x9_1).f0.f1, (rd_T40 t248 x9_1).f0.f2⟩ : S27), (rd_T40 t248 x9_1).f1⟩ : S40)]) := ⟨_, rfl⟩
        replace H : (gristmillref04_Within.l0 k1 a2 y253 t248 (wrap64 (x9_1 + 1)) a1_0 a1_1) = some r := by first | (rw [hy253]; with_reducible exact H) | (have H2_ := (Option.bind_some _ _).symm.trans H; rw [hy253]; with_reducible exact H2_) | (have H2_ := (Option.bind_some _ _).symm.trans H; with_reducible exact H2_) | with_reducible exact H | (rw [hy253]; exact H) | exact H
        have Ny253 := Aside0.mk hy253
        clear hy253
        have H' := Aside0.mk H
        clear H
        obtain ⟨Ao12, co12, eo12⟩ := Kd.N_slice HO_8.out
        subst eo12
        have p251 : 0 ≤ (x9_1 : Int) := of_decide_eq_true (by assumption)
        have q251 : x9_1 < (t248.length : Int) := of_decide_eq_true (by assumption)
        obtain ⟨ad251, A251_1, c251_1, A251_2, c251_2, e251, hx251_0, hx251_1, hx251_2, hx251_3, hl251_1, hi251_1, hl251_2, hi251_2⟩ := at_T40 (Kd.N_reads' HO_8.out).2.2 x9_1 p251 q251
        cases e251
        obtain ⟨ce251, hce251, hMe251, hcc251⟩ := Kd.N_get HO_8.out z40 x9_1 p251 (by first | exact q251 | exact of_decide_eq_true (by assumption) | (have e_ := (Kd.N_reads' HO_8.out).1; omega))
        obtain ⟨ua251_1, uc251_1, ua251_2, uc251_2, rfl, ul251_1, ge251_1, ul251_2, ge251_2⟩ := k40_openF hMe251
        have hv251_1 := hcc251 1 _ rfl
        rw [add_field _ _ 1 (by omega)] at hv251_1
        replace hv251_1 := Option.some.inj (hv251_1.symm.trans hx251_1)
        injection hv251_1 with hva_ hvn_ hvc_
        rw [hva_] at ge251_1
        rw [hvc_] at ul251_1
        have HL251_1 := Aside0.mk (show Kd.V Kd.string 9 _ w.heap.size _ _ ((rd_T40 t248 x9_1).f0.f1) from Kd.V_mk ul251_1 ge251_1)
        clear hva_ hvn_ hvc_ ge251_1 ul251_1
        have hv251_2 := hcc251 2 _ rfl
        rw [add_field _ _ 2 (by omega)] at hv251_2
        replace hv251_2 := Option.some.inj (hv251_2.symm.trans hx251_2)
        injection hv251_2 with hva_ hvn_ hvc_
        rw [hva_] at ge251_2
        rw [hvc_] at ul251_2
        have HL251_2 := Aside0.mk (show Kd.V (Kd.int .i64) 2 _ w.heap.size _ _ ((rd_T40 t248 x9_1).f0.f2) from Kd.V_mk ul251_2 ge251_2)
        clear hva_ hvn_ hvc_ ge251_2 ul251_2
        clear hcc251 hce251
        have HR251_1 := Aside0.mk hi251_1
        have HC251_1 := Aside0.mk hl251_1
        clear hi251_1 hl251_1
        have HR251_2 := Aside0.mk hi251_2
        have HC251_2 := Aside0.mk hl251_2
        clear hi251_2 hl251_2
        replace p251 := eq_true p251
        replace q251 := eq_true q251
        have hcz13_0 : wr.cell? ⟨gb247, 0, none⟩ = some (.int .i64 a1_0) := (blk_cell BK247.out 0).trans rfl
        have hcz13_1 : wr.cell? ⟨gb247, 1, none⟩ = some (.int .i64 a1_1) := (blk_cell BK247.out 1).trans rfl
        have hfz13_0 := blk_frozen BK247.out 0
        have hfz13_1 := blk_frozen BK247.out 1
        have p252 : 0 ≤ (x9_1 : Int) := of_decide_eq_true (by assumption)
        have q252 : x9_1 < (t248.length : Int) := of_decide_eq_true (by assumption)
        obtain ⟨ad252, A252_1, c252_1, A252_2, c252_2, e252, hx252_0, hx252_1, hx252_2, hx252_3, hl252_1, hi252_1, hl252_2, hi252_2⟩ := at_T40 (Kd.N_reads' HO_8.out).2.2 x9_1 p252 q252
        obtain rfl : ad251 = ad252 := (by injection e252)
        obtain ⟨ce252, hce252, hMe252, hcc252⟩ := Kd.N_get HO_8.out z40 x9_1 p252 (by first | exact q252 | exact of_decide_eq_true (by assumption) | (have e_ := (Kd.N_reads' HO_8.out).1; omega))
        obtain ⟨ua252_1, uc252_1, ua252_2, uc252_2, rfl, ul252_1, ge252_1, ul252_2, ge252_2⟩ := k40_openF hMe252
        have hv252_1 := hcc252 1 _ rfl
        rw [add_field _ _ 1 (by omega)] at hv252_1
        replace hv252_1 := Option.some.inj (hv252_1.symm.trans hx252_1)
        injection hv252_1 with hva_ hvn_ hvc_
        rw [hva_] at ge252_1
        rw [hvc_] at ul252_1
        have HL252_1 := Aside0.mk (show Kd.V Kd.string 9 _ w.heap.size _ _ ((rd_T40 t248 x9_1).f0.f1) from Kd.V_mk ul252_1 ge252_1)
        clear hva_ hvn_ hvc_ ge252_1 ul252_1
        have hv252_2 := hcc252 2 _ rfl
        rw [add_field _ _ 2 (by omega)] at hv252_2
        replace hv252_2 := Option.some.inj (hv252_2.symm.trans hx252_2)
        injection hv252_2 with hva_ hvn_ hvc_
        rw [hva_] at ge252_2
        rw [hvc_] at ul252_2
        have HL252_2 := Aside0.mk (show Kd.V (Kd.int .i64) 2 _ w.heap.size _ _ ((rd_T40 t248 x9_1).f0.f2) from Kd.V_mk ul252_2 ge252_2)
        clear hva_ hvn_ hvc_ ge252_2 ul252_2
        clear hcc252 hce252
        have HR252_1 := Aside0.mk hi252_1
        have HC252_1 := Aside0.mk hl252_1
        clear hi252_1 hl252_1
        have HR252_2 := Aside0.mk hi252_2
        have HC252_2 := Aside0.mk hl252_2
        clear hi252_2 hl252_2
        replace p252 := eq_true p252
        replace q252 := eq_true q252
        have ea_ := Option.some.inj (hx251_1.symm.trans hx252_1)
        injection ea_ with ea_ en_ ec_
        subst ea_
        subst ec_
        clear en_
        have ea_ := Option.some.inj (hx251_2.symm.trans hx252_2)
        injection ea_ with ea_ en_ ec_
        subst ea_
        subst ec_
        clear en_
        go_wp2_with (first | ((with_reducible refine gate_builtin (b := .append) (xs := #[.tmp 37, .tmp 42]) rfl ?_); at_builtin; refine Kd.N_append k40 (w0 := w) w.heap.size rfl (.tmp 37) (.tmp 42) 36 40 (.agg #[(.int .i64 0), (.slice none 0 0), (.slice none 0 0), (.int .u64 0)]) 64 rfl Try.underlying36 info40 rfl (by decide) (by omega) u7 x7_1 (⟨(⟨(rd_T40 t248 x9_1).f0.f0, (rd_T40 t248 x9_1).f0.f1, (rd_T40 t248 x9_1).f0.f2⟩ : S27), (rd_T40 t248 x9_1).f1⟩ : S40) [.int .i64 ((rd_T40 t248 x9_1).f0.f0), .slice A251_1 ((rd_T40 t248 x9_1).f0.f1).length c251_1, .slice A251_2 ((rd_T40 t248 x9_1).f0.f2).length c251_2, .int .u64 ((rd_T40 t248 x9_1).f1)] (fun k_ => (P0_ k_ ∨ w.heap.size ≤ k_) ∧ some k_ ≠ (.slice (some ad251) t248.length co12 : Value).ownBlock ∧ k_ ≠ gb247) (fun k_ => ((fun k_ => (P0_ k_ ∨ w.heap.size ≤ k_) ∧ some k_ ≠ (.slice (some ad251) t248.length co12 : Value).ownBlock ∧ k_ ≠ gb247)) k_ ∧ some k_ ≠ (u7 : Value).ownBlock) rfl rfl ?aP (fun _ hk => hk) ?aF ?aO ?aB ?aS ?aL ?_; (case aP => exact (k40_mkF _ _ (⟨(⟨(rd_T40 t248 x9_1).f0.f0, (rd_T40 t248 x9_1).f0.f1, (rd_T40 t248 x9_1).f0.f2⟩ : S27), (rd_T40 t248 x9_1).f1⟩ : S40) (Kd.V_reads' (Kd.V_mono (ok' := (fun k_ => ((fun k_ => (P0_ k_ ∨ w.heap.size ≤ k_) ∧ some k_ ≠ (.slice (some ad251) t248.length co12 : Value).ownBlock ∧ k_ ≠ gb247)) k_ ∧ some k_ ≠ (u7 : Value).ownBlock)) (HL252_1.out) (fun k_ hk => ⟨⟨hk.1.1, ⟨hk.2, hk.1.2.2⟩⟩, hk.1.2.1⟩))).2.1 (Kd.V_F (Kd.V_mono (ok' := (fun k_ => ((fun k_ => (P0_ k_ ∨ w.heap.size ≤ k_) ∧ some k_ ≠ (.slice (some ad251) t248.length co12 : Value).ownBlock ∧ k_ ≠ gb247)) k_ ∧ some k_ ≠ (u7 : Value).ownBlock)) (HL252_1.out) (fun k_ hk => ⟨⟨hk.1.1, ⟨hk.2, hk.1.2.2⟩⟩, hk.1.2.1⟩))) (Kd.V_reads' (Kd.V_mono (ok' := (fun k_ => ((fun k_ => (P0_ k_ ∨ w.heap.size ≤ k_) ∧ some k_ ≠ (.slice (some ad251) t248.length co12 : Value).ownBlock ∧ k_ ≠ gb247)) k_ ∧ some k_ ≠ (u7 : Value).ownBlock)) (HL252_2.out) (fun k_ hk => ⟨⟨hk.1.1, ⟨hk.2, hk.1.2.2⟩⟩, hk.1.2.1⟩))).2.1 (Kd.V_F (Kd.V_mono (ok' := (fun k_ => ((fun k_ => (P0_ k_ ∨ w.heap.size ≤ k_) ∧ some k_ ≠ (.slice (some ad251) t248.length co12 : Value).ownBlock ∧ k_ ≠ gb247)) k_ ∧ some k_ ≠ (u7 : Value).ownBlock)) (HL252_2.out) (fun k_ hk => ⟨⟨hk.1.1, ⟨hk.2, hk.1.2.2⟩⟩, hk.1.2.1⟩))))); (case aB => exact (bw_ HB.out)); (case aF => exact (fun k_ hk => ⟨(.inr (Nat.le_trans (below_size (bw_ HB.out)) hk)), Kd.fresh' (Kd.N_lt (by (with_reducible repeat (first | apply Kd.N_alloc | apply Kd.N_drewN | apply Kd.N_drew)); exact HO_8.out)) k_ hk, Kd.freshB (g := gb247) (o := .cells #[.int .i64 a1_0, .int .i64 a1_1] 44 (0, 0)) (bk_ BK247.out) k_ hk⟩)); (case aO => exact (by (with_reducible repeat (first | apply Kd.N_alloc | apply Kd.N_drewN | apply Kd.N_drew)); exact HO_7.out)); (case aS => exact (below_size (bw_ HB.out))); (case aL => have := LMc11.out; omega); intro v254 w14 ho hb hg hat; rw [← Ny253.out] at ho; have n0_ := Aside0.mk (Kd.N_afterv (ok := (fun k_ => (P0_ k_ ∨ w.heap.size ≤ k_) ∧ k_ ≠ gb247)) (by (with_reducible repeat (first | apply Kd.N_alloc | apply Kd.N_drewN | apply Kd.N_drew)); exact Kd.N_mono HO_8.out (fun _ hk => ⟨⟨hk.1, hk.2.2⟩, hk.2.1⟩)) hg hat); have n1_ := Aside0.mk (blk_grown (g := gb247) (o := .cells #[.int .i64 a1_0, .int .i64 a1_1] 44 (0, 0)) (bk_ BK247.out) hg (Kd.N_ne HO_7.out BK247.out (by decide))); have n2_ := Aside0.mk (Kd.V_afterv (ok := (fun k_ => (P0_ k_ ∨ w.heap.size ≤ k_) ∧ some k_ ≠ (.slice (some ad251) t248.length co12 : Value).ownBlock ∧ k_ ≠ gb247)) (by (with_reducible repeat (first | apply Kd.V_alloc | apply Kd.V_drewN | apply Kd.V_drew)); exact Kd.V_mono HL251_1.out (fun _ hk => ⟨⟨hk.1.1, ⟨hk.2, hk.1.2.2⟩⟩, hk.1.2.1⟩)) hg hat); have n3_ := Aside0.mk (Kd.V_afterv (ok := (fun k_ => (P0_ k_ ∨ w.heap.size ≤ k_) ∧ some k_ ≠ (.slice (some ad251) t248.length co12 : Value).ownBlock ∧ k_ ≠ gb247)) (by (with_reducible repeat (first | apply Kd.V_alloc | apply Kd.V_drewN | apply Kd.V_drew)); exact Kd.V_mono HL251_2.out (fun _ hk => ⟨⟨hk.1.1, ⟨hk.2, hk.1.2.2⟩⟩, hk.1.2.1⟩)) hg hat); have n4_ := Aside0.mk (Kd.V_afterv (ok := (fun k_ => (P0_ k_ ∨ w.heap.size ≤ k_) ∧ some k_ ≠ (.slice (some ad251) t248.length co12 : Value).ownBlock ∧ k_ ≠ gb247)) (by (with_reducible repeat (first | apply Kd.V_alloc | apply Kd.V_drewN | apply Kd.V_drew)); exact Kd.V_mono HL252_1.out (fun _ hk => ⟨⟨hk.1.1, ⟨hk.2, hk.1.2.2⟩⟩, hk.1.2.1⟩)) hg hat); have n5_ := Aside0.mk (Kd.V_afterv (ok := (fun k_ => (P0_ k_ ∨ w.heap.size ≤ k_) ∧ some k_ ≠ (.slice (some ad251) t248.length co12 : Value).ownBlock ∧ k_ ≠ gb247)) (by (with_reducible repeat (first | apply Kd.V_alloc | apply Kd.V_drewN | apply Kd.V_drew)); exact Kd.V_mono HL252_2.out (fun _ hk => ⟨⟨hk.1.1, ⟨hk.2, hk.1.2.2⟩⟩, hk.1.2.1⟩)) hg hat); have n6_ := Aside0.mk (hb); have n7_ := Aside0.mk (ho); clear HO_8 BK247 HL251_1 HL251_2 HL252_1 HL252_2 HB HO_7; have HO_8 := n0_; have BK247 := n1_; have HL251_1 := n2_; have HL251_2 := n3_; have HL252_1 := n4_; have HL252_2 := n5_; have HB := n6_; have HO255 := n7_; clear n0_ n1_ n2_ n3_ n4_ n5_ n6_ n7_; clear ho hb hg hat))
        go_roundg k1
        case measure => have := HK1.out; omega
        case rel => exact ⟨(y253), (wrap64 (x9_1 + 1)), (by first | rfl | (simp; done) | (simp [*]; done)), H', ⟨by have := HK1.out; omega⟩, ⟨by (with_reducible repeat (first | apply Kd.N_alloc | apply Kd.N_drewN | apply Kd.N_drew)); exact HO255.out⟩, ⟨by (with_reducible repeat (first | apply Kd.N_alloc | apply Kd.N_drewN | apply Kd.N_drew)); exact Kd.N_mono HO_8.out (fun _ hk => ⟨hk.1.1, ⟨hk.2, hk.1.2⟩⟩)⟩, ⟨by (with_reducible repeat (first | refine blk_drewN ?_ _ | refine blk_drew ?_ | refine blk_alloc ?_ _)); exact BK247.out⟩, ⟨by repeat (first | (with_reducible first | exact HB.out | apply below_alloc | apply pw_below_drewN | apply below_drew1 | refine below_set ?_ GE247.out) | exact HB.out)⟩⟩
       ·rw [if_neg c11] at H
        exact absurd H (by simp)
      ·rw [if_neg c10] at H
       have c10b0 : ((decide (((rd_T40 t248 x9_1).f0.f0) < a1_1)) == a2) = false := by simpa using c10
       (try (have c10b1 : decide ((decide (((rd_T40 t248 x9_1).f0.f0) < a1_1)) = a2) = false := by simpa using c10))
       (try (have c10b2 : ((decide (((rd_T40 t248 x9_1).f0.f0) < a1_1)) == a2) = false := by simpa using c10))
       (try (have c10b3 : ¬ ((decide (((rd_T40 t248 x9_1).f0.f0) < a1_1)) = a2) := by simpa using c10))
       clear c10
       have H' := Aside0.mk H
       clear H
       obtain ⟨Ao15, co15, eo15⟩ := Kd.N_slice HO_8.out
       subst eo15
       have p251 : 0 ≤ (x9_1 : Int) := of_decide_eq_true (by assumption)
       have q251 : x9_1 < (t248.length : Int) := of_decide_eq_true (by assumption)
       obtain ⟨ad251, A251_1, c251_1, A251_2, c251_2, e251, hx251_0, hx251_1, hx251_2, hx251_3, hl251_1, hi251_1, hl251_2, hi251_2⟩ := at_T40 (Kd.N_reads' HO_8.out).2.2 x9_1 p251 q251
       cases e251
       obtain ⟨ce251, hce251, hMe251, hcc251⟩ := Kd.N_get HO_8.out z40 x9_1 p251 (by first | exact q251 | exact of_decide_eq_true (by assumption) | (have e_ := (Kd.N_reads' HO_8.out).1; omega))
       obtain ⟨ua251_1, uc251_1, ua251_2, uc251_2, rfl, ul251_1, ge251_1, ul251_2, ge251_2⟩ := k40_openF hMe251
       have hv251_1 := hcc251 1 _ rfl
       rw [add_field _ _ 1 (by omega)] at hv251_1
       replace hv251_1 := Option.some.inj (hv251_1.symm.trans hx251_1)
       injection hv251_1 with hva_ hvn_ hvc_
       rw [hva_] at ge251_1
       rw [hvc_] at ul251_1
       have HL251_1 := Aside0.mk (show Kd.V Kd.string 9 _ w.heap.size _ _ ((rd_T40 t248 x9_1).f0.f1) from Kd.V_mk ul251_1 ge251_1)
       clear hva_ hvn_ hvc_ ge251_1 ul251_1
       have hv251_2 := hcc251 2 _ rfl
       rw [add_field _ _ 2 (by omega)] at hv251_2
       replace hv251_2 := Option.some.inj (hv251_2.symm.trans hx251_2)
       injection hv251_2 with hva_ hvn_ hvc_
       rw [hva_] at ge251_2
       rw [hvc_] at ul251_2
       have HL251_2 := Aside0.mk (show Kd.V (Kd.int .i64) 2 _ w.heap.size _ _ ((rd_T40 t248 x9_1).f0.f2) from Kd.V_mk ul251_2 ge251_2)
       clear hva_ hvn_ hvc_ ge251_2 ul251_2
       clear hcc251 hce251
       have HR251_1 := Aside0.mk hi251_1
       have HC251_1 := Aside0.mk hl251_1
       clear hi251_1 hl251_1
       have HR251_2 := Aside0.mk hi251_2
       have HC251_2 := Aside0.mk hl251_2
       clear hi251_2 hl251_2
       replace p251 := eq_true p251
       replace q251 := eq_true q251
       have hcz16_0 : wr.cell? ⟨gb247, 0, none⟩ = some (.int .i64 a1_0) := (blk_cell BK247.out 0).trans rfl
       have hcz16_1 : wr.cell? ⟨gb247, 1, none⟩ = some (.int .i64 a1_1) := (blk_cell BK247.out 1).trans rfl
       have hfz16_0 := blk_frozen BK247.out 0
       have hfz16_1 := blk_frozen BK247.out 1
       go_wp2
       go_roundg k1
       case measure => have := HK1.out; omega
       case rel => exact ⟨(x7_1), (wrap64 (x9_1 + 1)), (by first | rfl | (simp; done) | (simp [*]; done)), H', ⟨by have := HK1.out; omega⟩, ⟨by (with_reducible repeat (first | apply Kd.N_alloc | apply Kd.N_drewN | apply Kd.N_drew)); exact HO_7.out⟩, ⟨by (with_reducible repeat (first | apply Kd.N_alloc | apply Kd.N_drewN | apply Kd.N_drew)); exact HO_8.out⟩, ⟨by (with_reducible repeat (first | refine blk_drewN ?_ _ | refine blk_drew ?_ | refine blk_alloc ?_ _)); exact BK247.out⟩, ⟨by repeat (first | (with_reducible first | exact HB.out | apply below_alloc | apply pw_below_drewN | apply below_drew1 | refine below_set ?_ GE247.out) | exact HB.out)⟩⟩
     ·rw [if_neg c9] at H
      have c9b0 : decide (a1_0 ≤ ((rd_T40 t248 x9_1).f0.f0)) = false := decide_eq_false c9
      clear c9
      by_cases c17 : (false == a2) = true
      ·rw [if_pos c17] at H
       have c17b0 : (false == a2) = true := c17
       (try (have c17b1 : decide (false = a2) = true := by simpa using c17))
       (try (have c17b2 : (false == a2) = true := by simpa using c17))
       clear c17
       by_cases c18 : x7_1.length < 2199023255552
       ·rw [if_pos c18] at H
        have LMc18 := Aside0.mk c18
        clear c18
        obtain ⟨y257, hy257⟩ : ∃ y_ : List (S40), y_ = (x7_1 ++ [(⟨(⟨(rd_T40 t248 x9_1).f0.f0, (rd_T40 t248 x9_1).f0.f1, (rd_T40 t248 x9_1).f0.f2⟩ : S27), (rd_T40 t248 x9_1).f1⟩ : S40)]) := ⟨_, rfl⟩
        replace H : (gristmillref04_Within.l0 k1 a2 y257 t248 (wrap64 (x9_1 + 1)) a1_0 a1_1) = some r := by first | (rw [hy257]; with_reducible exact H) | (have H2_ := (Option.bind_some _ _).symm.trans H; rw [hy257]; with_reducible exact H2_) | (have H2_ := (Option.bind_some _ _).symm.trans H; with_reducible exact H2_) | with_reducible exact H | (rw [hy257]; exact H) | exact H
        have Ny257 := Aside0.mk hy257
        clear hy257
        have H' := Aside0.mk H
        clear H
        obtain ⟨Ao19, co19, eo19⟩ := Kd.N_slice HO_8.out
        subst eo19
        have p251 : 0 ≤ (x9_1 : Int) := of_decide_eq_true (by assumption)
        have q251 : x9_1 < (t248.length : Int) := of_decide_eq_true (by assumption)
        obtain ⟨ad251, A251_1, c251_1, A251_2, c251_2, e251, hx251_0, hx251_1, hx251_2, hx251_3, hl251_1, hi251_1, hl251_2, hi251_2⟩ := at_T40 (Kd.N_reads' HO_8.out).2.2 x9_1 p251 q251
        cases e251
        obtain ⟨ce251, hce251, hMe251, hcc251⟩ := Kd.N_get HO_8.out z40 x9_1 p251 (by first | exact q251 | exact of_decide_eq_true (by assumption) | (have e_ := (Kd.N_reads' HO_8.out).1; omega))
        obtain ⟨ua251_1, uc251_1, ua251_2, uc251_2, rfl, ul251_1, ge251_1, ul251_2, ge251_2⟩ := k40_openF hMe251
        have hv251_1 := hcc251 1 _ rfl
        rw [add_field _ _ 1 (by omega)] at hv251_1
        replace hv251_1 := Option.some.inj (hv251_1.symm.trans hx251_1)
        injection hv251_1 with hva_ hvn_ hvc_
        rw [hva_] at ge251_1
        rw [hvc_] at ul251_1
        have HL251_1 := Aside0.mk (show Kd.V Kd.string 9 _ w.heap.size _ _ ((rd_T40 t248 x9_1).f0.f1) from Kd.V_mk ul251_1 ge251_1)
        clear hva_ hvn_ hvc_ ge251_1 ul251_1
        have hv251_2 := hcc251 2 _ rfl
        rw [add_field _ _ 2 (by omega)] at hv251_2
        replace hv251_2 := Option.some.inj (hv251_2.symm.trans hx251_2)
        injection hv251_2 with hva_ hvn_ hvc_
        rw [hva_] at ge251_2
        rw [hvc_] at ul251_2
        have HL251_2 := Aside0.mk (show Kd.V (Kd.int .i64) 2 _ w.heap.size _ _ ((rd_T40 t248 x9_1).f0.f2) from Kd.V_mk ul251_2 ge251_2)
        clear hva_ hvn_ hvc_ ge251_2 ul251_2
        clear hcc251 hce251
        have HR251_1 := Aside0.mk hi251_1
        have HC251_1 := Aside0.mk hl251_1
        clear hi251_1 hl251_1
        have HR251_2 := Aside0.mk hi251_2
        have HC251_2 := Aside0.mk hl251_2
        clear hi251_2 hl251_2
        replace p251 := eq_true p251
        replace q251 := eq_true q251
        have hcz20_0 : wr.cell? ⟨gb247, 0, none⟩ = some (.int .i64 a1_0) := (blk_cell BK247.out 0).trans rfl
        have hcz20_1 : wr.cell? ⟨gb247, 1, none⟩ = some (.int .i64 a1_1) := (blk_cell BK247.out 1).trans rfl
        have hfz20_0 := blk_frozen BK247.out 0
        have hfz20_1 := blk_frozen BK247.out 1
        have p256 : 0 ≤ (x9_1 : Int) := of_decide_eq_true (by assumption)
        have q256 : x9_1 < (t248.length : Int) := of_decide_eq_true (by assumption)
        obtain ⟨ad256, A256_1, c256_1, A256_2, c256_2, e256, hx256_0, hx256_1, hx256_2, hx256_3, hl256_1, hi256_1, hl256_2, hi256_2⟩ := at_T40 (Kd.N_reads' HO_8.out).2.2 x9_1 p256 q256
        obtain rfl : ad251 = ad256 := (by injection e256)
        obtain ⟨ce256, hce256, hMe256, hcc256⟩ := Kd.N_get HO_8.out z40 x9_1 p256 (by first | exact q256 | exact of_decide_eq_true (by assumption) | (have e_ := (Kd.N_reads' HO_8.out).1; omega))
        obtain ⟨ua256_1, uc256_1, ua256_2, uc256_2, rfl, ul256_1, ge256_1, ul256_2, ge256_2⟩ := k40_openF hMe256
        have hv256_1 := hcc256 1 _ rfl
        rw [add_field _ _ 1 (by omega)] at hv256_1
        replace hv256_1 := Option.some.inj (hv256_1.symm.trans hx256_1)
        injection hv256_1 with hva_ hvn_ hvc_
        rw [hva_] at ge256_1
        rw [hvc_] at ul256_1
        have HL256_1 := Aside0.mk (show Kd.V Kd.string 9 _ w.heap.size _ _ ((rd_T40 t248 x9_1).f0.f1) from Kd.V_mk ul256_1 ge256_1)
        clear hva_ hvn_ hvc_ ge256_1 ul256_1
        have hv256_2 := hcc256 2 _ rfl
        rw [add_field _ _ 2 (by omega)] at hv256_2
        replace hv256_2 := Option.some.inj (hv256_2.symm.trans hx256_2)
        injection hv256_2 with hva_ hvn_ hvc_
        rw [hva_] at ge256_2
        rw [hvc_] at ul256_2
        have HL256_2 := Aside0.mk (show Kd.V (Kd.int .i64) 2 _ w.heap.size _ _ ((rd_T40 t248 x9_1).f0.f2) from Kd.V_mk ul256_2 ge256_2)
        clear hva_ hvn_ hvc_ ge256_2 ul256_2
        clear hcc256 hce256
        have HR256_1 := Aside0.mk hi256_1
        have HC256_1 := Aside0.mk hl256_1
        clear hi256_1 hl256_1
        have HR256_2 := Aside0.mk hi256_2
        have HC256_2 := Aside0.mk hl256_2
        clear hi256_2 hl256_2
        replace p256 := eq_true p256
        replace q256 := eq_true q256
        have ea_ := Option.some.inj (hx251_1.symm.trans hx256_1)
        injection ea_ with ea_ en_ ec_
        subst ea_
        subst ec_
        clear en_
        have ea_ := Option.some.inj (hx251_2.symm.trans hx256_2)
        injection ea_ with ea_ en_ ec_
        subst ea_
        subst ec_
        clear en_
        go_wp2_with (first | ((with_reducible refine gate_builtin (b := .append) (xs := #[.tmp 37, .tmp 42]) rfl ?_); at_builtin; refine Kd.N_append k40 (w0 := w) w.heap.size rfl (.tmp 37) (.tmp 42) 36 40 (.agg #[(.int .i64 0), (.slice none 0 0), (.slice none 0 0), (.int .u64 0)]) 64 rfl Try.underlying36 info40 rfl (by decide) (by omega) u7 x7_1 (⟨(⟨(rd_T40 t248 x9_1).f0.f0, (rd_T40 t248 x9_1).f0.f1, (rd_T40 t248 x9_1).f0.f2⟩ : S27), (rd_T40 t248 x9_1).f1⟩ : S40) [.int .i64 ((rd_T40 t248 x9_1).f0.f0), .slice A251_1 ((rd_T40 t248 x9_1).f0.f1).length c251_1, .slice A251_2 ((rd_T40 t248 x9_1).f0.f2).length c251_2, .int .u64 ((rd_T40 t248 x9_1).f1)] (fun k_ => (P0_ k_ ∨ w.heap.size ≤ k_) ∧ some k_ ≠ (.slice (some ad251) t248.length co19 : Value).ownBlock ∧ k_ ≠ gb247) (fun k_ => ((fun k_ => (P0_ k_ ∨ w.heap.size ≤ k_) ∧ some k_ ≠ (.slice (some ad251) t248.length co19 : Value).ownBlock ∧ k_ ≠ gb247)) k_ ∧ some k_ ≠ (u7 : Value).ownBlock) rfl rfl ?aP (fun _ hk => hk) ?aF ?aO ?aB ?aS ?aL ?_; (case aP => exact (k40_mkF _ _ (⟨(⟨(rd_T40 t248 x9_1).f0.f0, (rd_T40 t248 x9_1).f0.f1, (rd_T40 t248 x9_1).f0.f2⟩ : S27), (rd_T40 t248 x9_1).f1⟩ : S40) (Kd.V_reads' (Kd.V_mono (ok' := (fun k_ => ((fun k_ => (P0_ k_ ∨ w.heap.size ≤ k_) ∧ some k_ ≠ (.slice (some ad251) t248.length co19 : Value).ownBlock ∧ k_ ≠ gb247)) k_ ∧ some k_ ≠ (u7 : Value).ownBlock)) (HL256_1.out) (fun k_ hk => ⟨⟨hk.1.1, ⟨hk.2, hk.1.2.2⟩⟩, hk.1.2.1⟩))).2.1 (Kd.V_F (Kd.V_mono (ok' := (fun k_ => ((fun k_ => (P0_ k_ ∨ w.heap.size ≤ k_) ∧ some k_ ≠ (.slice (some ad251) t248.length co19 : Value).ownBlock ∧ k_ ≠ gb247)) k_ ∧ some k_ ≠ (u7 : Value).ownBlock)) (HL256_1.out) (fun k_ hk => ⟨⟨hk.1.1, ⟨hk.2, hk.1.2.2⟩⟩, hk.1.2.1⟩))) (Kd.V_reads' (Kd.V_mono (ok' := (fun k_ => ((fun k_ => (P0_ k_ ∨ w.heap.size ≤ k_) ∧ some k_ ≠ (.slice (some ad251) t248.length co19 : Value).ownBlock ∧ k_ ≠ gb247)) k_ ∧ some k_ ≠ (u7 : Value).ownBlock)) (HL256_2.out) (fun k_ hk => ⟨⟨hk.1.1, ⟨hk.2, hk.1.2.2⟩⟩, hk.1.2.1⟩))).2.1 (Kd.V_F (Kd.V_mono (ok' := (fun k_ => ((fun k_ => (P0_ k_ ∨ w.heap.size ≤ k_) ∧ some k_ ≠ (.slice (some ad251) t248.length co19 : Value).ownBlock ∧ k_ ≠ gb247)) k_ ∧ some k_ ≠ (u7 : Value).ownBlock)) (HL256_2.out) (fun k_ hk => ⟨⟨hk.1.1, ⟨hk.2, hk.1.2.2⟩⟩, hk.1.2.1⟩))))); (case aB => exact (bw_ HB.out)); (case aF => exact (fun k_ hk => ⟨(.inr (Nat.le_trans (below_size (bw_ HB.out)) hk)), Kd.fresh' (Kd.N_lt (by (with_reducible repeat (first | apply Kd.N_alloc | apply Kd.N_drewN | apply Kd.N_drew)); exact HO_8.out)) k_ hk, Kd.freshB (g := gb247) (o := .cells #[.int .i64 a1_0, .int .i64 a1_1] 44 (0, 0)) (bk_ BK247.out) k_ hk⟩)); (case aO => exact (by (with_reducible repeat (first | apply Kd.N_alloc | apply Kd.N_drewN | apply Kd.N_drew)); exact HO_7.out)); (case aS => exact (below_size (bw_ HB.out))); (case aL => have := LMc18.out; omega); intro v258 w21 ho hb hg hat; rw [← Ny257.out] at ho; have n0_ := Aside0.mk (Kd.N_afterv (ok := (fun k_ => (P0_ k_ ∨ w.heap.size ≤ k_) ∧ k_ ≠ gb247)) (by (with_reducible repeat (first | apply Kd.N_alloc | apply Kd.N_drewN | apply Kd.N_drew)); exact Kd.N_mono HO_8.out (fun _ hk => ⟨⟨hk.1, hk.2.2⟩, hk.2.1⟩)) hg hat); have n1_ := Aside0.mk (blk_grown (g := gb247) (o := .cells #[.int .i64 a1_0, .int .i64 a1_1] 44 (0, 0)) (bk_ BK247.out) hg (Kd.N_ne HO_7.out BK247.out (by decide))); have n2_ := Aside0.mk (Kd.V_afterv (ok := (fun k_ => (P0_ k_ ∨ w.heap.size ≤ k_) ∧ some k_ ≠ (.slice (some ad251) t248.length co19 : Value).ownBlock ∧ k_ ≠ gb247)) (by (with_reducible repeat (first | apply Kd.V_alloc | apply Kd.V_drewN | apply Kd.V_drew)); exact Kd.V_mono HL251_1.out (fun _ hk => ⟨⟨hk.1.1, ⟨hk.2, hk.1.2.2⟩⟩, hk.1.2.1⟩)) hg hat); have n3_ := Aside0.mk (Kd.V_afterv (ok := (fun k_ => (P0_ k_ ∨ w.heap.size ≤ k_) ∧ some k_ ≠ (.slice (some ad251) t248.length co19 : Value).ownBlock ∧ k_ ≠ gb247)) (by (with_reducible repeat (first | apply Kd.V_alloc | apply Kd.V_drewN | apply Kd.V_drew)); exact Kd.V_mono HL251_2.out (fun _ hk => ⟨⟨hk.1.1, ⟨hk.2, hk.1.2.2⟩⟩, hk.1.2.1⟩)) hg hat); have n4_ := Aside0.mk (Kd.V_afterv (ok := (fun k_ => (P0_ k_ ∨ w.heap.size ≤ k_) ∧ some k_ ≠ (.slice (some ad251) t248.length co19 : Value).ownBlock ∧ k_ ≠ gb247)) (by (with_reducible repeat (first | apply Kd.V_alloc | apply Kd.V_drewN | apply Kd.V_drew)); exact Kd.V_mono HL256_1.out (fun _ hk => ⟨⟨hk.1.1, ⟨hk.2, hk.1.2.2⟩⟩, hk.1.2.1⟩)) hg hat); have n5_ := Aside0.mk (Kd.V_afterv (ok := (fun k_ => (P0_ k_ ∨ w.heap.size ≤ k_) ∧ some k_ ≠ (.slice (some ad251) t248.length co19 : Value).ownBlock ∧ k_ ≠ gb247)) (by (with_reducible repeat (first | apply Kd.V_alloc | apply Kd.V_drewN | apply Kd.V_drew)); exact Kd.V_mono HL256_2.out (fun _ hk => ⟨⟨hk.1.1, ⟨hk.2, hk.1.2.2⟩⟩, hk.1.2.1⟩)) hg hat); have n6_ := Aside0.mk (hb); have n7_ := Aside0.mk (ho); clear HO_8 BK247 HL251_1 HL251_2 HL256_1 HL256_2 HB HO_7; have HO_8 := n0_; have BK247 := n1_; have HL251_1 := n2_; have HL251_2 := n3_; have HL256_1 := n4_; have HL256_2 := n5_; have HB := n6_; have HO259 := n7_; clear n0_ n1_ n2_ n3_ n4_ n5_ n6_ n7_; clear ho hb hg hat))
        go_roundg k1
        case measure => have := HK1.out; omega
        case rel => exact ⟨(y257), (wrap64 (x9_1 + 1)), (by first | rfl | (simp; done) | (simp [*]; done)), H', ⟨by have := HK1.out; omega⟩, ⟨by (with_reducible repeat (first | apply Kd.N_alloc | apply Kd.N_drewN | apply Kd.N_drew)); exact HO259.out⟩, ⟨by (with_reducible repeat (first | apply Kd.N_alloc | apply Kd.N_drewN | apply Kd.N_drew)); exact Kd.N_mono HO_8.out (fun _ hk => ⟨hk.1.1, ⟨hk.2, hk.1.2⟩⟩)⟩, ⟨by (with_reducible repeat (first | refine blk_drewN ?_ _ | refine blk_drew ?_ | refine blk_alloc ?_ _)); exact BK247.out⟩, ⟨by repeat (first | (with_reducible first | exact HB.out | apply below_alloc | apply pw_below_drewN | apply below_drew1 | refine below_set ?_ GE247.out) | exact HB.out)⟩⟩
       ·rw [if_neg c18] at H
        exact absurd H (by simp)
      ·rw [if_neg c17] at H
       have c17b0 : (false == a2) = false := by simpa using c17
       (try (have c17b1 : decide (false = a2) = false := by simpa using c17))
       (try (have c17b2 : (false == a2) = false := by simpa using c17))
       (try (have c17b3 : ¬ (false = a2) := by simpa using c17))
       clear c17
       have H' := Aside0.mk H
       clear H
       obtain ⟨Ao22, co22, eo22⟩ := Kd.N_slice HO_8.out
       subst eo22
       have p251 : 0 ≤ (x9_1 : Int) := of_decide_eq_true (by assumption)
       have q251 : x9_1 < (t248.length : Int) := of_decide_eq_true (by assumption)
       obtain ⟨ad251, A251_1, c251_1, A251_2, c251_2, e251, hx251_0, hx251_1, hx251_2, hx251_3, hl251_1, hi251_1, hl251_2, hi251_2⟩ := at_T40 (Kd.N_reads' HO_8.out).2.2 x9_1 p251 q251
       cases e251
       obtain ⟨ce251, hce251, hMe251, hcc251⟩ := Kd.N_get HO_8.out z40 x9_1 p251 (by first | exact q251 | exact of_decide_eq_true (by assumption) | (have e_ := (Kd.N_reads' HO_8.out).1; omega))
       obtain ⟨ua251_1, uc251_1, ua251_2, uc251_2, rfl, ul251_1, ge251_1, ul251_2, ge251_2⟩ := k40_openF hMe251
       have hv251_1 := hcc251 1 _ rfl
       rw [add_field _ _ 1 (by omega)] at hv251_1
       replace hv251_1 := Option.some.inj (hv251_1.symm.trans hx251_1)
       injection hv251_1 with hva_ hvn_ hvc_
       rw [hva_] at ge251_1
       rw [hvc_] at ul251_1
       have HL251_1 := Aside0.mk (show Kd.V Kd.string 9 _ w.heap.size _ _ ((rd_T40 t248 x9_1).f0.f1) from Kd.V_mk ul251_1 ge251_1)
       clear hva_ hvn_ hvc_ ge251_1 ul251_1
       have hv251_2 := hcc251 2 _ rfl
       rw [add_field _ _ 2 (by omega)] at hv251_2
       replace hv251_2 := Option.some.inj (hv251_2.symm.trans hx251_2)
       injection hv251_2 with hva_ hvn_ hvc_
       rw [hva_] at ge251_2
       rw [hvc_] at ul251_2
       have HL251_2 := Aside0.mk (show Kd.V (Kd.int .i64) 2 _ w.heap.size _ _ ((rd_T40 t248 x9_1).f0.f2) from Kd.V_mk ul251_2 ge251_2)
       clear hva_ hvn_ hvc_ ge251_2 ul251_2
       clear hcc251 hce251
       have HR251_1 := Aside0.mk hi251_1
       have HC251_1 := Aside0.mk hl251_1
       clear hi251_1 hl251_1
       have HR251_2 := Aside0.mk hi251_2
       have HC251_2 := Aside0.mk hl251_2
       clear hi251_2 hl251_2
       replace p251 := eq_true p251
       replace q251 := eq_true q251
       have hcz23_0 : wr.cell? ⟨gb247, 0, none⟩ = some (.int .i64 a1_0) := (blk_cell BK247.out 0).trans rfl
       have hcz23_1 : wr.cell? ⟨gb247, 1, none⟩ = some (.int .i64 a1_1) := (blk_cell BK247.out 1).trans rfl
       have hfz23_0 := blk_frozen BK247.out 0
       have hfz23_1 := blk_frozen BK247.out 1
       go_wp2
       go_roundg k1
       case measure => have := HK1.out; omega
       case rel => exact ⟨(x7_1), (wrap64 (x9_1 + 1)), (by first | rfl | (simp; done) | (simp [*]; done)), H', ⟨by have := HK1.out; omega⟩, ⟨by (with_reducible repeat (first | apply Kd.N_alloc | apply Kd.N_drewN | apply Kd.N_drew)); exact HO_7.out⟩, ⟨by (with_reducible repeat (first | apply Kd.N_alloc | apply Kd.N_drewN | apply Kd.N_drew)); exact HO_8.out⟩, ⟨by (with_reducible repeat (first | refine blk_drewN ?_ _ | refine blk_drew ?_ | refine blk_alloc ?_ _)); exact BK247.out⟩, ⟨by repeat (first | (with_reducible first | exact HB.out | apply below_alloc | apply pw_below_drewN | apply below_drew1 | refine below_set ?_ GE247.out) | exact HB.out)⟩⟩
    ·rw [if_neg c8] at H
     exact absurd H (by simp)
   ·rw [if_neg c7] at H
    have c7b0 : decide (x9_1 < (t248.length : Int)) = false := decide_eq_false c7
    clear c7
    obtain rfl := Option.some.inj H
    obtain ⟨Ao24, co24, eo24⟩ := Kd.N_slice HO_8.out
    subst eo24
    go_wp2
    go_ret
    exact ⟨_, by first | rfl | (simp [errW_none, errW_some] <;> rfl) | (simp [*, errW_none, errW_some] <;> rfl), by (with_reducible repeat (first | apply Kd.N_alloc | apply Kd.N_drewN | apply Kd.N_drew)); exact Kd.N_mono HO_7.out (fun _ hk => hk.1), by repeat (first | (with_reducible first | exact HB.out | apply below_alloc | apply pw_below_drewN | apply below_drew1 | refine below_set ?_ GE247.out) | exact HB.out)⟩
end Go.Proofs.Ytfeeahjaeapkoaa.P
end

section
namespace Go.Proofs.Ytfeeahjaeapkoaa.P
open Go.RowKit Go.Proofs.YtfeeahjaeapkoaaW.PrintWords Go.Proofs.YtfeeahjaeapkoaaW.PrintLast Go.Proofs.YtfeeahjaeapkoaaW.PrintMore
attribute [local go_sem] max2_int min2_int max_two min_two max_three min_three max_four min_four   -- for this text's walks alone
set_option linter.unusedVariables false
set_option linter.unusedSimpArgs false
open Go.Proofs.Ytfeeahjaeapkoaa.Ext (q1_ q2_ q3_)
attribute [local go_sem high] Go.Proofs.Ytfeeahjaeapkoaa.Ext.gtr_str Go.Proofs.Ytfeeahjaeapkoaa.Ext.leq_str Go.Proofs.Ytfeeahjaeapkoaa.Ext.geq_str
def cmp_Or_int.l0 : Nat → Int → List Int → Int → Int → Option (Int)
 | 0, _, _, _, _ => none
 | k + 1, x3, x6, x7, x8 => if x8 < x7 then (if 0 ≤ x8 then (if x8 < (x6.length : Int) then (if (rd x6 x8) = x3 then (cmp_Or_int.l0 k x3 x6 x7 (wrap64 (x8 + 1))) else (some (rd x6 x8))) else (none)) else (none)) else (some x3)
def cmp_Or_int.f (k : Nat) (l0 : List Int) : Option (Int) := cmp_Or_int.l0 k 0 l0 (l0.length : Int) 0
set_option maxHeartbeats 8000000 in
set_option maxRecDepth 100000 in
theorem cmp_Or_int.calls (k : Nat) (A0 : Option Addr) (c0 : Nat) (l0 : List Int) (r : Int) (w : World) (hr0 : Kd.C (Kd.int .i64) w A0 l0.length l0) (hc0 : l0.length ≤ c0) (h : cmp_Or_int.f k l0 = some r) :
  Calls Try.prog 29 #[.slice A0 l0.length c0] w fun e w' => e = .returned (.int .i64 r) ∧ Drawn0 w w' := by
 have HR0 := Aside0.mk hr0
 have HC0 := Aside0.mk hc0
 clear hr0 hc0
 have H : (cmp_Or_int.l0 k 0 l0 (l0.length : Int) 0) = some r := h
 clear h
 have H' := Aside0.mk H
 clear H
 go_enter Try.func29, Try.ntmps29
 go_wp2
 go_loopg [8] k (fun kq v8 w' => ∃ (x8_1 : Int), v8 = .int .i64 x8_1 ∧ Aside0 (cmp_Or_int.l0 kq 0 l0 (l0.length : Int) x8_1 = some r) ∧ Aside0 (kq ≤ k) ∧ Drawn0 w w')
 case atStart => exact ⟨(0), (by first | rfl | (simp; done) | (simp [*]; done)), H', ⟨Nat.le_refl _⟩, by repeat (first | exact Drawn0.refl _ | apply Drawn0.step)⟩
 case round =>
  clear H'
  obtain ⟨x8_1, rfl, HA, HK1, ⟨m1, rfl⟩⟩ := hrel
  cases gk with
  | zero => exact absurd HA.out (by simp [cmp_Or_int.l0])
  | succ k1 =>
   have H := HA.out
   clear HA
   simp only [cmp_Or_int.l0] at H
   by_cases c2 : x8_1 < (l0.length : Int)
   ·rw [if_pos c2] at H
    have c2b0 : decide (x8_1 < (l0.length : Int)) = true := decide_eq_true c2
    clear c2
    by_cases c3 : 0 ≤ x8_1
    ·rw [if_pos c3] at H
     have c3b0 : decide (0 ≤ x8_1) = true := decide_eq_true c3
     clear c3
     by_cases c4 : x8_1 < (l0.length : Int)
     ·rw [if_pos c4] at H
      have c4b0 : decide (x8_1 < (l0.length : Int)) = true := decide_eq_true c4
      clear c4
      by_cases c5 : (rd l0 x8_1) = 0
      ·rw [if_pos c5] at H
       have c5b0 : ((rd l0 x8_1) == 0) = true := beq_iff_eq.mpr c5
       have c5b1 : ((rd l0 x8_1) != 0) = false := bne_eq_false_iff_eq.mpr c5
       clear c5
       have H' := Aside0.mk H
       clear H
       have p111 : 0 ≤ (x8_1 : Int) := of_decide_eq_true (by assumption)
       have q111 : x8_1 < (l0.length : Int) := of_decide_eq_true (by assumption)
       obtain ⟨ad111, e111, hx111_0⟩ := Kd.at_int HR0.out x8_1 p111 q111
       cases e111
       replace p111 := eq_true p111
       replace q111 := eq_true q111
       go_wp2
       go_roundg k1
       case measure => have := HK1.out; omega
       case rel => exact ⟨(wrap64 (x8_1 + 1)), (by first | rfl | (simp; done) | (simp [*]; done)), H', ⟨by have := HK1.out; omega⟩, by repeat (first | exact Drawn0.refl _ | apply Drawn0.step)⟩
      ·rw [if_neg c5] at H
       have c5b0 : ((rd l0 x8_1) == 0) = false := beq_eq_false_iff_ne.mpr c5
       have c5b1 : ((rd l0 x8_1) != 0) = true := bne_iff_ne.mpr c5
       obtain rfl := Option.some.inj H
       have p111 : 0 ≤ (x8_1 : Int) := of_decide_eq_true (by assumption)
       have q111 : x8_1 < (l0.length : Int) := of_decide_eq_true (by assumption)
       obtain ⟨ad111, e111, hx111_0⟩ := Kd.at_int HR0.out x8_1 p111 q111
       cases e111
       replace p111 := eq_true p111
       replace q111 := eq_true q111
       go_wp2
       go_ret
       exact ⟨by first | rfl | (simp; done) | (simp [*]; done), by repeat (first | exact Drawn0.refl _ | apply Drawn0.step)⟩
     ·rw [if_neg c4] at H
      exact absurd H (by simp)
    ·rw [if_neg c3] at H
     exact absurd H (by simp)
   ·rw [if_neg c2] at H
    have c2b0 : decide (x8_1 < (l0.length : Int)) = false := decide_eq_false c2
    clear c2
    obtain rfl := Option.some.inj H
    go_wp2
    go_ret
    exact ⟨by first | rfl | (simp; done) | (simp [*]; done), by repeat (first | exact Drawn0.refl _ | apply Drawn0.step)⟩
end Go.Proofs.Ytfeeahjaeapkoaa.P
end

section
namespace Go.Proofs.Ytfeeahjaeapkoaa.P
open Go.RowKit Go.Proofs.YtfeeahjaeapkoaaW.PrintWords Go.Proofs.YtfeeahjaeapkoaaW.PrintLast Go.Proofs.YtfeeahjaeapkoaaW.PrintMore
attribute [local go_sem] max2_int min2_int max_two min_two max_three min_three max_four min_four   -- for this text's walks alone
set_option linter.unusedVariables false
set_option linter.unusedSimpArgs false
open Go.Proofs.Ytfeeahjaeapkoaa.Ext (q1_ q2_ q3_)
attribute [local go_sem high] Go.Proofs.Ytfeeahjaeapkoaa.Ext.gtr_str Go.Proofs.Ytfeeahjaeapkoaa.Ext.leq_str Go.Proofs.Ytfeeahjaeapkoaa.Ext.geq_str
def cmp_isNaN_int64.f (a0 : Int) : Option (Bool) := some (a0 != a0)
set_option maxHeartbeats 8000000 in
set_option maxRecDepth 100000 in
theorem cmp_isNaN_int64.calls (a0 : Int) (r : Bool) (w : World) (h : cmp_isNaN_int64.f a0 = some r) :
  Calls Try.prog 42 #[.int .i64 a0] w fun e w' => e = .returned (.bool r) ∧ Drawn0 w w' := by
 have H : (some (a0 != a0)) = some r := h
 clear h
 obtain rfl := Option.some.inj H
 go_enter Try.func42, Try.ntmps42
 go_wp2
 go_ret
 exact ⟨by first | rfl | (simp; done) | (simp [*]; done), by repeat (first | exact Drawn0.refl _ | apply Drawn0.step)⟩
end Go.Proofs.Ytfeeahjaeapkoaa.P
end

section
namespace Go.Proofs.Ytfeeahjaeapkoaa.P
open Go.RowKit Go.Proofs.YtfeeahjaeapkoaaW.PrintWords Go.Proofs.YtfeeahjaeapkoaaW.PrintLast Go.Proofs.YtfeeahjaeapkoaaW.PrintMore
attribute [local go_sem] max2_int min2_int max_two min_two max_three min_three max_four min_four   -- for this text's walks alone
set_option linter.unusedVariables false
set_option linter.unusedSimpArgs false
open Go.Proofs.Ytfeeahjaeapkoaa.Ext (q1_ q2_ q3_)
attribute [local go_sem high] Go.Proofs.Ytfeeahjaeapkoaa.Ext.gtr_str Go.Proofs.Ytfeeahjaeapkoaa.Ext.leq_str Go.Proofs.Ytfeeahjaeapkoaa.Ext.geq_str
def cmp_Compare_int64.f (a0 : Int) (a1 : Int) : Option (Int) := (cmp_isNaN_int64.f a0).bind fun t112 => ((cmp_isNaN_int64.f a1).bind fun t113 => (if t112 = true then (if t113 = true then (some 0) else (some (-1))) else (if t113 = true then (some 1) else (if a0 < a1 then (some (-1)) else (if a0 > a1 then (some 1) else (some 0))))))
set_option maxHeartbeats 8000000 in
set_option maxRecDepth 100000 in
theorem cmp_Compare_int64.calls (a0 : Int) (a1 : Int) (r : Int) (w : World) (h : cmp_Compare_int64.f a0 a1 = some r) :
  Calls Try.prog 30 #[.int .i64 a0, .int .i64 a1] w fun e w' => e = .returned (.int .i64 r) ∧ Drawn0 w w' := by
 have H : ((cmp_isNaN_int64.f a0).bind fun t112 => ((cmp_isNaN_int64.f a1).bind fun t113 => (if t112 = true then (if t113 = true then (some 0) else (some (-1))) else (if t113 = true then (some 1) else (if a0 < a1 then (some (-1)) else (if a0 > a1 then (some 1) else (some 0))))))) = some r := h
 clear h
 replace H := Option.bind_eq_some_iff.mp H
 obtain ⟨t112, A30, H⟩ := H
 replace H : ((cmp_isNaN_int64.f a1).bind fun t113 => (if t112 = true then (if t113 = true then (some 0) else (some (-1))) else (if t113 = true then (some 1) else (if a0 < a1 then (some (-1)) else (if a0 > a1 then (some 1) else (some 0)))))) = some r := H
 have A3 := Aside0.mk A30
 clear A30
 replace H := Option.bind_eq_some_iff.mp H
 obtain ⟨t113, A40, H⟩ := H
 replace H : (if t112 = true then (if t113 = true then (some 0) else (some (-1))) else (if t113 = true then (some 1) else (if a0 < a1 then (some (-1)) else (if a0 > a1 then (some 1) else (some 0))))) = some r := H
 have A4 := Aside0.mk A40
 clear A40
 by_cases c5 : t112 = true
 ·subst c5
  have H1 : (if t113 = true then (some 0) else (some (-1))) = some r := by rw [if_pos rfl] at H; exact H
  clear H
  have H := H1
  clear H1
  by_cases c6 : t113 = true
  ·subst c6
   have H1 : (some 0) = some r := by rw [if_pos rfl] at H; exact H
   clear H
   have H := H1
   clear H1
   obtain rfl := Option.some.inj H
   go_enter Try.func30, Try.ntmps30
   go_wp2_with (first | ((with_reducible refine gate_callee (f := 42) rfl ?_); refine goesL_ (some 8) rfl rfl Try.func42 (by kernel_rfl) rfl #[.int .i64 a0] rfl (by (try simp only [List.map_toArray, List.map_cons, List.map_nil]); first | done | rfl | (simp only [List.length_drop, List.length_take]; rfl)) ?_; (with_reducible refine (cmp_isNaN_int64.calls a0 true _ A3.out).mono ?_); rintro e w' ⟨rfl, ⟨nd, rfl⟩⟩; refine ⟨_, rfl, ?_⟩) | ((with_reducible refine gate_callee (f := 42) rfl ?_); refine goesL_ (some 10) rfl rfl Try.func42 (by kernel_rfl) rfl #[.int .i64 a1] rfl (by (try simp only [List.map_toArray, List.map_cons, List.map_nil]); first | done | rfl | (simp only [List.length_drop, List.length_take]; rfl)) ?_; (with_reducible refine (cmp_isNaN_int64.calls a1 true _ A4.out).mono ?_); rintro e w' ⟨rfl, ⟨nd, rfl⟩⟩; refine ⟨_, rfl, ?_⟩))
   go_ret
   exact ⟨by first | rfl | (simp; done) | (simp [*]; done), by repeat (first | exact Drawn0.refl _ | apply Drawn0.step)⟩
  ·replace c6 := Bool.eq_false_iff.mpr c6
   subst c6
   have H1 : (some (-1)) = some r := by rw [if_neg (show ¬ (false = true) by decide)] at H; exact H
   clear H
   have H := H1
   clear H1
   obtain rfl := Option.some.inj H
   go_enter Try.func30, Try.ntmps30
   go_wp2_with (first | ((with_reducible refine gate_callee (f := 42) rfl ?_); refine goesL_ (some 8) rfl rfl Try.func42 (by kernel_rfl) rfl #[.int .i64 a0] rfl (by (try simp only [List.map_toArray, List.map_cons, List.map_nil]); first | done | rfl | (simp only [List.length_drop, List.length_take]; rfl)) ?_; (with_reducible refine (cmp_isNaN_int64.calls a0 true _ A3.out).mono ?_); rintro e w' ⟨rfl, ⟨nd, rfl⟩⟩; refine ⟨_, rfl, ?_⟩) | ((with_reducible refine gate_callee (f := 42) rfl ?_); refine goesL_ (some 10) rfl rfl Try.func42 (by kernel_rfl) rfl #[.int .i64 a1] rfl (by (try simp only [List.map_toArray, List.map_cons, List.map_nil]); first | done | rfl | (simp only [List.length_drop, List.length_take]; rfl)) ?_; (with_reducible refine (cmp_isNaN_int64.calls a1 false _ A4.out).mono ?_); rintro e w' ⟨rfl, ⟨nd, rfl⟩⟩; refine ⟨_, rfl, ?_⟩))
   go_ret
   exact ⟨by first | rfl | (simp; done) | (simp [*]; done), by repeat (first | exact Drawn0.refl _ | apply Drawn0.step)⟩
 ·replace c5 := Bool.eq_false_iff.mpr c5
  subst c5
  have H1 : (if t113 = true then (some 1) else (if a0 < a1 then (some (-1)) else (if a0 > a1 then (some 1) else (some 0)))) = some r := by rw [if_neg (show ¬ (false = true) by decide)] at H; exact H
  clear H
  have H := H1
  clear H1
  by_cases c7 : t113 = true
  ·subst c7
   have H1 : (some 1) = some r := by rw [if_pos rfl] at H; exact H
   clear H
   have H := H1
   clear H1
   obtain rfl := Option.some.inj H
   go_enter Try.func30, Try.ntmps30
   go_wp2_with (first | ((with_reducible refine gate_callee (f := 42) rfl ?_); refine goesL_ (some 8) rfl rfl Try.func42 (by kernel_rfl) rfl #[.int .i64 a0] rfl (by (try simp only [List.map_toArray, List.map_cons, List.map_nil]); first | done | rfl | (simp only [List.length_drop, List.length_take]; rfl)) ?_; (with_reducible refine (cmp_isNaN_int64.calls a0 false _ A3.out).mono ?_); rintro e w' ⟨rfl, ⟨nd, rfl⟩⟩; refine ⟨_, rfl, ?_⟩) | ((with_reducible refine gate_callee (f := 42) rfl ?_); refine goesL_ (some 10) rfl rfl Try.func42 (by kernel_rfl) rfl #[.int .i64 a1] rfl (by (try simp only [List.map_toArray, List.map_cons, List.map_nil]); first | done | rfl | (simp only [List.length_drop, List.length_take]; rfl)) ?_; (with_reducible refine (cmp_isNaN_int64.calls a1 true _ A4.out).mono ?_); rintro e w' ⟨rfl, ⟨nd, rfl⟩⟩; refine ⟨_, rfl, ?_⟩))
   go_ret
   exact ⟨by first | rfl | (simp; done) | (simp [*]; done), by repeat (first | exact Drawn0.refl _ | apply Drawn0.step)⟩
  ·replace c7 := Bool.eq_false_iff.mpr c7
   subst c7
   have H1 : (if a0 < a1 then (some (-1)) else (if a0 > a1 then (some 1) else (some 0))) = some r := by rw [if_neg (show ¬ (false = true) by decide)] at H; exact H
   clear H
   have H := H1
   clear H1
   by_cases c8 : a0 < a1
   ·rw [if_pos c8] at H
    have c8b0 : decide (a0 < a1) = true := decide_eq_true c8
    clear c8
    obtain rfl := Option.some.inj H
    go_enter Try.func30, Try.ntmps30
    go_wp2_with (first | ((with_reducible refine gate_callee (f := 42) rfl ?_); refine goesL_ (some 8) rfl rfl Try.func42 (by kernel_rfl) rfl #[.int .i64 a0] rfl (by (try simp only [List.map_toArray, List.map_cons, List.map_nil]); first | done | rfl | (simp only [List.length_drop, List.length_take]; rfl)) ?_; (with_reducible refine (cmp_isNaN_int64.calls a0 false _ A3.out).mono ?_); rintro e w' ⟨rfl, ⟨nd, rfl⟩⟩; refine ⟨_, rfl, ?_⟩) | ((with_reducible refine gate_callee (f := 42) rfl ?_); refine goesL_ (some 10) rfl rfl Try.func42 (by kernel_rfl) rfl #[.int .i64 a1] rfl (by (try simp only [List.map_toArray, List.map_cons, List.map_nil]); first | done | rfl | (simp only [List.length_drop, List.length_take]; rfl)) ?_; (with_reducible refine (cmp_isNaN_int64.calls a1 false _ A4.out).mono ?_); rintro e w' ⟨rfl, ⟨nd, rfl⟩⟩; refine ⟨_, rfl, ?_⟩))
    go_ret
    exact ⟨by first | rfl | (simp; done) | (simp [*]; done), by repeat (first | exact Drawn0.refl _ | apply Drawn0.step)⟩
   ·rw [if_neg c8] at H
    have c8b0 : decide (a0 < a1) = false := decide_eq_false c8
    clear c8
    by_cases c9 : a0 > a1
    ·rw [if_pos c9] at H
     have c9b0 : decide (a1 < a0) = true := decide_eq_true c9
     clear c9
     obtain rfl := Option.some.inj H
     go_enter Try.func30, Try.ntmps30
     go_wp2_with (first | ((with_reducible refine gate_callee (f := 42) rfl ?_); refine goesL_ (some 8) rfl rfl Try.func42 (by kernel_rfl) rfl #[.int .i64 a0] rfl (by (try simp only [List.map_toArray, List.map_cons, List.map_nil]); first | done | rfl | (simp only [List.length_drop, List.length_take]; rfl)) ?_; (with_reducible refine (cmp_isNaN_int64.calls a0 false _ A3.out).mono ?_); rintro e w' ⟨rfl, ⟨nd, rfl⟩⟩; refine ⟨_, rfl, ?_⟩) | ((with_reducible refine gate_callee (f := 42) rfl ?_); refine goesL_ (some 10) rfl rfl Try.func42 (by kernel_rfl) rfl #[.int .i64 a1] rfl (by (try simp only [List.map_toArray, List.map_cons, List.map_nil]); first | done | rfl | (simp only [List.length_drop, List.length_take]; rfl)) ?_; (with_reducible refine (cmp_isNaN_int64.calls a1 false _ A4.out).mono ?_); rintro e w' ⟨rfl, ⟨nd, rfl⟩⟩; refine ⟨_, rfl, ?_⟩))
     go_ret
     exact ⟨by first | rfl | (simp; done) | (simp [*]; done), by repeat (first | exact Drawn0.refl _ | apply Drawn0.step)⟩
    ·rw [if_neg c9] at H
     have c9b0 : decide (a1 < a0) = false := decide_eq_false c9
     clear c9
     obtain rfl := Option.some.inj H
     go_enter Try.func30, Try.ntmps30
     go_wp2_with (first | ((with_reducible refine gate_callee (f := 42) rfl ?_); refine goesL_ (some 8) rfl rfl Try.func42 (by kernel_rfl) rfl #[.int .i64 a0] rfl (by (try simp only [List.map_toArray, List.map_cons, List.map_nil]); first | done | rfl | (simp only [List.length_drop, List.length_take]; rfl)) ?_; (with_reducible refine (cmp_isNaN_int64.calls a0 false _ A3.out).mono ?_); rintro e w' ⟨rfl, ⟨nd, rfl⟩⟩; refine ⟨_, rfl, ?_⟩) | ((with_reducible refine gate_callee (f := 42) rfl ?_); refine goesL_ (some 10) rfl rfl Try.func42 (by kernel_rfl) rfl #[.int .i64 a1] rfl (by (try simp only [List.map_toArray, List.map_cons, List.map_nil]); first | done | rfl | (simp only [List.length_drop, List.length_take]; rfl)) ?_; (with_reducible refine (cmp_isNaN_int64.calls a1 false _ A4.out).mono ?_); rintro e w' ⟨rfl, ⟨nd, rfl⟩⟩; refine ⟨_, rfl, ?_⟩))
     go_ret
     exact ⟨by first | rfl | (simp; done) | (simp [*]; done), by repeat (first | exact Drawn0.refl _ | apply Drawn0.step)⟩
end Go.Proofs.Ytfeeahjaeapkoaa.P
end

section
namespace Go.Proofs.Ytfeeahjaeapkoaa.P
open Go.RowKit Go.Proofs.YtfeeahjaeapkoaaW.PrintWords Go.Proofs.YtfeeahjaeapkoaaW.PrintLast Go.Proofs.YtfeeahjaeapkoaaW.PrintMore
attribute [local go_sem] max2_int min2_int max_two min_two max_three min_three max_four min_four   -- for this text's walks alone
set_option linter.unusedVariables false
set_option linter.unusedSimpArgs false
open Go.Proofs.Ytfeeahjaeapkoaa.Ext (q1_ q2_ q3_)
attribute [local go_sem high] Go.Proofs.Ytfeeahjaeapkoaa.Ext.gtr_str Go.Proofs.Ytfeeahjaeapkoaa.Ext.leq_str Go.Proofs.Ytfeeahjaeapkoaa.Ext.geq_str
def cmp_isNaN_string.f (a0 : ByteArray) : Option (Bool) := some (a0.toList != a0.toList)
set_option maxHeartbeats 8000000 in
set_option maxRecDepth 100000 in
theorem cmp_isNaN_string.calls (a0 : ByteArray) (r : Bool) (w : World) (h : cmp_isNaN_string.f a0 = some r) :
  Calls Try.prog 56 #[.string a0] w fun e w' => e = .returned (.bool r) ∧ Drawn0 w w' := by
 have H : (some (a0.toList != a0.toList)) = some r := h
 clear h
 obtain rfl := Option.some.inj H
 go_enter Try.func56, Try.ntmps56
 go_wp2
 go_ret
 exact ⟨by first | rfl | (simp; done) | (simp [*]; done), by repeat (first | exact Drawn0.refl _ | apply Drawn0.step)⟩
end Go.Proofs.Ytfeeahjaeapkoaa.P
end

section
namespace Go.Proofs.Ytfeeahjaeapkoaa.P
open Go.RowKit Go.Proofs.YtfeeahjaeapkoaaW.PrintWords Go.Proofs.YtfeeahjaeapkoaaW.PrintLast Go.Proofs.YtfeeahjaeapkoaaW.PrintMore
attribute [local go_sem] max2_int min2_int max_two min_two max_three min_three max_four min_four   -- for this text's walks alone
set_option linter.unusedVariables false
set_option linter.unusedSimpArgs false
open Go.Proofs.Ytfeeahjaeapkoaa.Ext (q1_ q2_ q3_)
attribute [local go_sem high] Go.Proofs.Ytfeeahjaeapkoaa.Ext.gtr_str Go.Proofs.Ytfeeahjaeapkoaa.Ext.leq_str Go.Proofs.Ytfeeahjaeapkoaa.Ext.geq_str
def cmp_Compare_string.f (a0 : ByteArray) (a1 : ByteArray) : Option (Int) := (cmp_isNaN_string.f a0).bind fun t114 => ((cmp_isNaN_string.f a1).bind fun t115 => (if t114 = true then (if t115 = true then (some 0) else (some (-1))) else (if t115 = true then (some 1) else (if (Op.bytesLess a0.toList a1.toList) = true then (some (-1)) else (if (Op.bytesLess a1.toList a0.toList) = true then (some 1) else (some 0))))))
set_option maxHeartbeats 8000000 in
set_option maxRecDepth 100000 in
theorem cmp_Compare_string.calls (a0 : ByteArray) (a1 : ByteArray) (r : Int) (w : World) (h : cmp_Compare_string.f a0 a1 = some r) :
  Calls Try.prog 51 #[.string a0, .string a1] w fun e w' => e = .returned (.int .i64 r) ∧ Drawn0 w w' := by
 have H : ((cmp_isNaN_string.f a0).bind fun t114 => ((cmp_isNaN_string.f a1).bind fun t115 => (if t114 = true then (if t115 = true then (some 0) else (some (-1))) else (if t115 = true then (some 1) else (if (Op.bytesLess a0.toList a1.toList) = true then (some (-1)) else (if (Op.bytesLess a1.toList a0.toList) = true then (some 1) else (some 0))))))) = some r := h
 clear h
 replace H := Option.bind_eq_some_iff.mp H
 obtain ⟨t114, A30, H⟩ := H
 replace H : ((cmp_isNaN_string.f a1).bind fun t115 => (if t114 = true then (if t115 = true then (some 0) else (some (-1))) else (if t115 = true then (some 1) else (if (Op.bytesLess a0.toList a1.toList) = true then (some (-1)) else (if (Op.bytesLess a1.toList a0.toList) = true then (some 1) else (some 0)))))) = some r := H
 have A3 := Aside0.mk A30
 clear A30
 replace H := Option.bind_eq_some_iff.mp H
 obtain ⟨t115, A40, H⟩ := H
 replace H : (if t114 = true then (if t115 = true then (some 0) else (some (-1))) else (if t115 = true then (some 1) else (if (Op.bytesLess a0.toList a1.toList) = true then (some (-1)) else (if (Op.bytesLess a1.toList a0.toList) = true then (some 1) else (some 0))))) = some r := H
 have A4 := Aside0.mk A40
 clear A40
 by_cases c5 : t114 = true
 ·subst c5
  have H1 : (if t115 = true then (some 0) else (some (-1))) = some r := by rw [if_pos rfl] at H; exact H
  clear H
  have H := H1
  clear H1
  by_cases c6 : t115 = true
  ·subst c6
   have H1 : (some 0) = some r := by rw [if_pos rfl] at H; exact H
   clear H
   have H := H1
   clear H1
   obtain rfl := Option.some.inj H
   go_enter Try.func51, Try.ntmps51
   go_wp2_with (first | ((with_reducible refine gate_callee (f := 56) rfl ?_); refine goesL_ (some 8) rfl rfl Try.func56 (by kernel_rfl) rfl #[.string a0] rfl (by (try simp only [List.map_toArray, List.map_cons, List.map_nil]); first | done | rfl | (simp only [List.length_drop, List.length_take]; rfl)) ?_; (with_reducible refine (cmp_isNaN_string.calls a0 true _ A3.out).mono ?_); rintro e w' ⟨rfl, ⟨nd, rfl⟩⟩; refine ⟨_, rfl, ?_⟩) | ((with_reducible refine gate_callee (f := 56) rfl ?_); refine goesL_ (some 10) rfl rfl Try.func56 (by kernel_rfl) rfl #[.string a1] rfl (by (try simp only [List.map_toArray, List.map_cons, List.map_nil]); first | done | rfl | (simp only [List.length_drop, List.length_take]; rfl)) ?_; (with_reducible refine (cmp_isNaN_string.calls a1 true _ A4.out).mono ?_); rintro e w' ⟨rfl, ⟨nd, rfl⟩⟩; refine ⟨_, rfl, ?_⟩))
   go_ret
   exact ⟨by first | rfl | (simp; done) | (simp [*]; done), by repeat (first | exact Drawn0.refl _ | apply Drawn0.step)⟩
  ·replace c6 := Bool.eq_false_iff.mpr c6
   subst c6
   have H1 : (some (-1)) = some r := by rw [if_neg (show ¬ (false = true) by decide)] at H; exact H
   clear H
   have H := H1
   clear H1
   obtain rfl := Option.some.inj H
   go_enter Try.func51, Try.ntmps51
   go_wp2_with (first | ((with_reducible refine gate_callee (f := 56) rfl ?_); refine goesL_ (some 8) rfl rfl Try.func56 (by kernel_rfl) rfl #[.string a0] rfl (by (try simp only [List.map_toArray, List.map_cons, List.map_nil]); first | done | rfl | (simp only [List.length_drop, List.length_take]; rfl)) ?_; (with_reducible refine (cmp_isNaN_string.calls a0 true _ A3.out).mono ?_); rintro e w' ⟨rfl, ⟨nd, rfl⟩⟩; refine ⟨_, rfl, ?_⟩) | ((with_reducible refine gate_callee (f := 56) rfl ?_); refine goesL_ (some 10) rfl rfl Try.func56 (by kernel_rfl) rfl #[.string a1] rfl (by (try simp only [List.map_toArray, List.map_cons, List.map_nil]); first | done | rfl | (simp only [List.length_drop, List.length_take]; rfl)) ?_; (with_reducible refine (cmp_isNaN_string.calls a1 false _ A4.out).mono ?_); rintro e w' ⟨rfl, ⟨nd, rfl⟩⟩; refine ⟨_, rfl, ?_⟩))
   go_ret
   exact ⟨by first | rfl | (simp; done) | (simp [*]; done), by repeat (first | exact Drawn0.refl _ | apply Drawn0.step)⟩
 ·replace c5 := Bool.eq_false_iff.mpr c5
  subst c5
  have H1 : (if t115 = true then (some 1) else (if (Op.bytesLess a0.toList a1.toList) = true then (some (-1)) else (if (Op.bytesLess a1.toList a0.toList) = true then (some 1) else (some 0)))) = some r := by rw [if_neg (show ¬ (false = true) by decide)] at H; exact H
  clear H
  have H := H1
  clear H1
  by_cases c7 : t115 = true
  ·subst c7
   have H1 : (some 1) = some r := by rw [if_pos rfl] at H; exact H
   clear H
   have H := H1
   clear H1
   obtain rfl := Option.some.inj H
   go_enter Try.func51, Try.ntmps51
   go_wp2_with (first | ((with_reducible refine gate_callee (f := 56) rfl ?_); refine goesL_ (some 8) rfl rfl Try.func56 (by kernel_rfl) rfl #[.string a0] rfl (by (try simp only [List.map_toArray, List.map_cons, List.map_nil]); first | done | rfl | (simp only [List.length_drop, List.length_take]; rfl)) ?_; (with_reducible refine (cmp_isNaN_string.calls a0 false _ A3.out).mono ?_); rintro e w' ⟨rfl, ⟨nd, rfl⟩⟩; refine ⟨_, rfl, ?_⟩) | ((with_reducible refine gate_callee (f := 56) rfl ?_); refine goesL_ (some 10) rfl rfl Try.func56 (by kernel_rfl) rfl #[.string a1] rfl (by (try simp only [List.map_toArray, List.map_cons, List.map_nil]); first | done | rfl | (simp only [List.length_drop, List.length_take]; rfl)) ?_; (with_reducible refine (cmp_isNaN_string.calls a1 true _ A4.out).mono ?_); rintro e w' ⟨rfl, ⟨nd, rfl⟩⟩; refine ⟨_, rfl, ?_⟩))
   go_ret
   exact ⟨by first | rfl | (simp; done) | (simp [*]; done), by repeat (first | exact Drawn0.refl _ | apply Drawn0.step)⟩
  ·replace c7 := Bool.eq_false_iff.mpr c7
   subst c7
   have H1 : (if (Op.bytesLess a0.toList a1.toList) = true then (some (-1)) else (if (Op.bytesLess a1.toList a0.toList) = true then (some 1) else (some 0))) = some r := by rw [if_neg (show ¬ (false = true) by decide)] at H; exact H
   clear H
   have H := H1
   clear H1
   by_cases c8 : (Op.bytesLess a0.toList a1.toList) = true
   ·rw [if_pos c8] at H
    have c8b0 : (Op.bytesLess a0.toList a1.toList) = true := c8
    clear c8
    obtain rfl := Option.some.inj H
    go_enter Try.func51, Try.ntmps51
    go_wp2_with (first | ((with_reducible refine gate_callee (f := 56) rfl ?_); refine goesL_ (some 8) rfl rfl Try.func56 (by kernel_rfl) rfl #[.string a0] rfl (by (try simp only [List.map_toArray, List.map_cons, List.map_nil]); first | done | rfl | (simp only [List.length_drop, List.length_take]; rfl)) ?_; (with_reducible refine (cmp_isNaN_string.calls a0 false _ A3.out).mono ?_); rintro e w' ⟨rfl, ⟨nd, rfl⟩⟩; refine ⟨_, rfl, ?_⟩) | ((with_reducible refine gate_callee (f := 56) rfl ?_); refine goesL_ (some 10) rfl rfl Try.func56 (by kernel_rfl) rfl #[.string a1] rfl (by (try simp only [List.map_toArray, List.map_cons, List.map_nil]); first | done | rfl | (simp only [List.length_drop, List.length_take]; rfl)) ?_; (with_reducible refine (cmp_isNaN_string.calls a1 false _ A4.out).mono ?_); rintro e w' ⟨rfl, ⟨nd, rfl⟩⟩; refine ⟨_, rfl, ?_⟩))
    go_ret
    exact ⟨by first | rfl | (simp; done) | (simp [*]; done), by repeat (first | exact Drawn0.refl _ | apply Drawn0.step)⟩
   ·rw [if_neg c8] at H
    have c8b0 : (Op.bytesLess a0.toList a1.toList) = false := by simpa using c8
    clear c8
    by_cases c9 : (Op.bytesLess a1.toList a0.toList) = true
    ·rw [if_pos c9] at H
     have c9b0 : (Op.bytesLess a1.toList a0.toList) = true := c9
     clear c9
     obtain rfl := Option.some.inj H
     go_enter Try.func51, Try.ntmps51
     go_wp2_with (first | ((with_reducible refine gate_callee (f := 56) rfl ?_); refine goesL_ (some 8) rfl rfl Try.func56 (by kernel_rfl) rfl #[.string a0] rfl (by (try simp only [List.map_toArray, List.map_cons, List.map_nil]); first | done | rfl | (simp only [List.length_drop, List.length_take]; rfl)) ?_; (with_reducible refine (cmp_isNaN_string.calls a0 false _ A3.out).mono ?_); rintro e w' ⟨rfl, ⟨nd, rfl⟩⟩; refine ⟨_, rfl, ?_⟩) | ((with_reducible refine gate_callee (f := 56) rfl ?_); refine goesL_ (some 10) rfl rfl Try.func56 (by kernel_rfl) rfl #[.string a1] rfl (by (try simp only [List.map_toArray, List.map_cons, List.map_nil]); first | done | rfl | (simp only [List.length_drop, List.length_take]; rfl)) ?_; (with_reducible refine (cmp_isNaN_string.calls a1 false _ A4.out).mono ?_); rintro e w' ⟨rfl, ⟨nd, rfl⟩⟩; refine ⟨_, rfl, ?_⟩))
     go_ret
     exact ⟨by first | rfl | (simp; done) | (simp [*]; done), by repeat (first | exact Drawn0.refl _ | apply Drawn0.step)⟩
    ·rw [if_neg c9] at H
     have c9b0 : (Op.bytesLess a1.toList a0.toList) = false := by simpa using c9
     clear c9
     obtain rfl := Option.some.inj H
     go_enter Try.func51, Try.ntmps51
     go_wp2_with (first | ((with_reducible refine gate_callee (f := 56) rfl ?_); refine goesL_ (some 8) rfl rfl Try.func56 (by kernel_rfl) rfl #[.string a0] rfl (by (try simp only [List.map_toArray, List.map_cons, List.map_nil]); first | done | rfl | (simp only [List.length_drop, List.length_take]; rfl)) ?_; (with_reducible refine (cmp_isNaN_string.calls a0 false _ A3.out).mono ?_); rintro e w' ⟨rfl, ⟨nd, rfl⟩⟩; refine ⟨_, rfl, ?_⟩) | ((with_reducible refine gate_callee (f := 56) rfl ?_); refine goesL_ (some 10) rfl rfl Try.func56 (by kernel_rfl) rfl #[.string a1] rfl (by (try simp only [List.map_toArray, List.map_cons, List.map_nil]); first | done | rfl | (simp only [List.length_drop, List.length_take]; rfl)) ?_; (with_reducible refine (cmp_isNaN_string.calls a1 false _ A4.out).mono ?_); rintro e w' ⟨rfl, ⟨nd, rfl⟩⟩; refine ⟨_, rfl, ?_⟩))
     go_ret
     exact ⟨by first | rfl | (simp; done) | (simp [*]; done), by repeat (first | exact Drawn0.refl _ | apply Drawn0.step)⟩
end Go.Proofs.Ytfeeahjaeapkoaa.P
end

section
namespace Go.Proofs.Ytfeeahjaeapkoaa.P
open Go.RowKit Go.Proofs.YtfeeahjaeapkoaaW.PrintWords Go.Proofs.YtfeeahjaeapkoaaW.PrintLast Go.Proofs.YtfeeahjaeapkoaaW.PrintMore
attribute [local go_sem] max2_int min2_int max_two min_two max_three min_three max_four min_four   -- for this text's walks alone
set_option linter.unusedVariables false
set_option linter.unusedSimpArgs false
open Go.Proofs.Ytfeeahjaeapkoaa.Ext (q1_ q2_ q3_)
attribute [local go_sem high] Go.Proofs.Ytfeeahjaeapkoaa.Ext.gtr_str Go.Proofs.Ytfeeahjaeapkoaa.Ext.leq_str Go.Proofs.Ytfeeahjaeapkoaa.Ext.geq_str
def slices_Compare_string_string.l0 : Nat → List ByteArray → List ByteArray → List ByteArray → Int → Int → Option (Int)
 | 0, _, _, _, _, _ => none
 | k + 1, x0, x1, x9, x10, x11 => if x11 < x10 then (if 0 ≤ x11 then (if x11 < (x9.length : Int) then (if x11 ≥ (x1.length : Int) then (some 1) else (if x11 < (x1.length : Int) then ((cmp_Compare_string.f (rdOf ByteArray.empty x9 x11) (rdOf ByteArray.empty x1 x11)).bind fun t118 => (if t118 = 0 then (slices_Compare_string_string.l0 k x0 x1 x9 x10 (wrap64 (x11 + 1))) else (some t118))) else (none))) else (none)) else (none)) else (if (x0.length : Int) < (x1.length : Int) then (some (-1)) else (some 0))
def slices_Compare_string_string.f (k : Nat) (l0 : List ByteArray) (l1 : List ByteArray) : Option (Int) := slices_Compare_string_string.l0 k l0 l1 l0 (l0.length : Int) 0
set_option maxHeartbeats 8000000 in
set_option maxRecDepth 100000 in
theorem slices_Compare_string_string.calls (k : Nat) (A0 : Option Addr) (c0 : Nat) (l0 : List ByteArray) (A1 : Option Addr) (c1 : Nat) (l1 : List ByteArray) (r : Int) (w : World) (hr0 : Kd.C Kd.string w A0 l0.length l0) (hc0 : l0.length ≤ c0) (hr1 : Kd.C Kd.string w A1 l1.length l1) (hc1 : l1.length ≤ c1) (h : slices_Compare_string_string.f k l0 l1 = some r) :
  Calls Try.prog 43 #[.slice A0 l0.length c0, .slice A1 l1.length c1] w fun e w' => e = .returned (.int .i64 r) ∧ Drawn0 w w' := by
 have HR0 := Aside0.mk hr0
 have HC0 := Aside0.mk hc0
 clear hr0 hc0
 have HR1 := Aside0.mk hr1
 have HC1 := Aside0.mk hc1
 clear hr1 hc1
 have H : (slices_Compare_string_string.l0 k l0 l1 l0 (l0.length : Int) 0) = some r := h
 clear h
 have H' := Aside0.mk H
 clear H
 go_enter Try.func43, Try.ntmps43
 go_wp2
 go_loopg [11] k (fun kq v11 w' => ∃ (x11_1 : Int), v11 = .int .i64 x11_1 ∧ Aside0 (slices_Compare_string_string.l0 kq l0 l1 l0 (l0.length : Int) x11_1 = some r) ∧ Aside0 (kq ≤ k) ∧ Drawn0 w w')
 case atStart => exact ⟨(0), (by first | rfl | (simp; done) | (simp [*]; done)), H', ⟨Nat.le_refl _⟩, by repeat (first | exact Drawn0.refl _ | apply Drawn0.step)⟩
 case round =>
  clear H'
  try clear c1
  try clear p2
  obtain ⟨x11_1, rfl, HA, HK1, ⟨m1, rfl⟩⟩ := hrel
  cases gk with
  | zero => exact absurd HA.out (by simp [slices_Compare_string_string.l0])
  | succ k1 =>
   have H := HA.out
   clear HA
   simp only [slices_Compare_string_string.l0] at H
   by_cases c3 : x11_1 < (l0.length : Int)
   ·rw [if_pos c3] at H
    have c3b0 : decide (x11_1 < (l0.length : Int)) = true := decide_eq_true c3
    clear c3
    by_cases c4 : 0 ≤ x11_1
    ·rw [if_pos c4] at H
     have c4b0 : decide (0 ≤ x11_1) = true := decide_eq_true c4
     clear c4
     by_cases c5 : x11_1 < (l0.length : Int)
     ·rw [if_pos c5] at H
      have c5b0 : decide (x11_1 < (l0.length : Int)) = true := decide_eq_true c5
      clear c5
      by_cases c6 : x11_1 ≥ (l1.length : Int)
      ·rw [if_pos c6] at H
       have c6b0 : decide ((l1.length : Int) ≤ x11_1) = true := decide_eq_true c6
       clear c6
       obtain rfl := Option.some.inj H
       have p116 : 0 ≤ (x11_1 : Int) := of_decide_eq_true (by assumption)
       have q116 : x11_1 < (l0.length : Int) := of_decide_eq_true (by assumption)
       obtain ⟨ad116, e116, hx116_0⟩ := Kd.at_string HR0.out x11_1 p116 q116
       cases e116
       replace p116 := eq_true p116
       replace q116 := eq_true q116
       go_wp2
       go_ret
       exact ⟨by first | rfl | (simp; done) | (simp [*]; done), by repeat (first | exact Drawn0.refl _ | apply Drawn0.step)⟩
      ·rw [if_neg c6] at H
       have c6b0 : decide ((l1.length : Int) ≤ x11_1) = false := decide_eq_false c6
       clear c6
       by_cases c7 : x11_1 < (l1.length : Int)
       ·rw [if_pos c7] at H
        have c7b0 : decide (x11_1 < (l1.length : Int)) = true := decide_eq_true c7
        clear c7
        replace H := Option.bind_eq_some_iff.mp H
        obtain ⟨t118, A80, H⟩ := H
        replace H : (if t118 = 0 then (slices_Compare_string_string.l0 k1 l0 l1 l0 (l0.length : Int) (wrap64 (x11_1 + 1))) else (some t118)) = some r := H
        have A8 := Aside0.mk A80
        clear A80
        by_cases c9 : t118 = 0
        ·rw [if_pos c9] at H
         have c9b0 : (t118 == 0) = true := beq_iff_eq.mpr c9
         have c9b1 : (t118 != 0) = false := bne_eq_false_iff_eq.mpr c9
         clear c9
         have H' := Aside0.mk H
         clear H
         have p116 : 0 ≤ (x11_1 : Int) := of_decide_eq_true (by assumption)
         have q116 : x11_1 < (l0.length : Int) := of_decide_eq_true (by assumption)
         obtain ⟨ad116, e116, hx116_0⟩ := Kd.at_string HR0.out x11_1 p116 q116
         cases e116
         replace p116 := eq_true p116
         replace q116 := eq_true q116
         have p117 : 0 ≤ (x11_1 : Int) := of_decide_eq_true (by assumption)
         have q117 : x11_1 < (l1.length : Int) := of_decide_eq_true (by assumption)
         obtain ⟨ad117, e117, hx117_0⟩ := Kd.at_string HR1.out x11_1 p117 q117
         cases e117
         replace p117 := eq_true p117
         replace q117 := eq_true q117
         go_wp2_with (first | ((with_reducible refine gate_callee (f := 51) rfl ?_); refine goesL_ (some 26) rfl rfl Try.func51 (by kernel_rfl) rfl #[.string (rdOf ByteArray.empty l0 x11_1), .string (rdOf ByteArray.empty l1 x11_1)] rfl (by (try simp only [List.map_toArray, List.map_cons, List.map_nil]); first | done | rfl | (simp only [List.length_drop, List.length_take]; rfl)) ?_; (with_reducible refine (cmp_Compare_string.calls (rdOf ByteArray.empty l0 x11_1) (rdOf ByteArray.empty l1 x11_1) t118 _ A8.out).mono ?_); rintro e w' ⟨rfl, ⟨nd, rfl⟩⟩; refine ⟨_, rfl, ?_⟩))
         go_roundg k1
         case measure => have := HK1.out; omega
         case rel => exact ⟨(wrap64 (x11_1 + 1)), (by first | rfl | (simp; done) | (simp [*]; done)), H', ⟨by have := HK1.out; omega⟩, by repeat (first | exact Drawn0.refl _ | apply Drawn0.step)⟩
        ·rw [if_neg c9] at H
         have c9b0 : (t118 == 0) = false := beq_eq_false_iff_ne.mpr c9
         have c9b1 : (t118 != 0) = true := bne_iff_ne.mpr c9
         obtain rfl := Option.some.inj H
         have p116 : 0 ≤ (x11_1 : Int) := of_decide_eq_true (by assumption)
         have q116 : x11_1 < (l0.length : Int) := of_decide_eq_true (by assumption)
         obtain ⟨ad116, e116, hx116_0⟩ := Kd.at_string HR0.out x11_1 p116 q116
         cases e116
         replace p116 := eq_true p116
         replace q116 := eq_true q116
         have p117 : 0 ≤ (x11_1 : Int) := of_decide_eq_true (by assumption)
         have q117 : x11_1 < (l1.length : Int) := of_decide_eq_true (by assumption)
         obtain ⟨ad117, e117, hx117_0⟩ := Kd.at_string HR1.out x11_1 p117 q117
         cases e117
         replace p117 := eq_true p117
         replace q117 := eq_true q117
         go_wp2_with (first | ((with_reducible refine gate_callee (f := 51) rfl ?_); refine goesL_ (some 26) rfl rfl Try.func51 (by kernel_rfl) rfl #[.string (rdOf ByteArray.empty l0 x11_1), .string (rdOf ByteArray.empty l1 x11_1)] rfl (by (try simp only [List.map_toArray, List.map_cons, List.map_nil]); first | done | rfl | (simp only [List.length_drop, List.length_take]; rfl)) ?_; (with_reducible refine (cmp_Compare_string.calls (rdOf ByteArray.empty l0 x11_1) (rdOf ByteArray.empty l1 x11_1) t118 _ A8.out).mono ?_); rintro e w' ⟨rfl, ⟨nd, rfl⟩⟩; refine ⟨_, rfl, ?_⟩))
         go_ret
         exact ⟨by first | rfl | (simp; done) | (simp [*]; done), by repeat (first | exact Drawn0.refl _ | apply Drawn0.step)⟩
       ·rw [if_neg c7] at H
        exact absurd H (by simp)
     ·rw [if_neg c5] at H
      exact absurd H (by simp)
    ·rw [if_neg c4] at H
     exact absurd H (by simp)
   ·rw [if_neg c3] at H
    have c3b0 : decide (x11_1 < (l0.length : Int)) = false := decide_eq_false c3
    clear c3
    by_cases c10 : (l0.length : Int) < (l1.length : Int)
    ·rw [if_pos c10] at H
     have c10b0 : decide ((l0.length : Int) < (l1.length : Int)) = true := decide_eq_true c10
     have c10b1 : decide (l0.length < l1.length) = true := decide_eq_true (Int.ofNat_lt.mp c10)
     clear c10
     obtain rfl := Option.some.inj H
     go_wp2
     go_ret
     exact ⟨by first | rfl | (simp; done) | (simp [*]; done), by repeat (first | exact Drawn0.refl _ | apply Drawn0.step)⟩
    ·rw [if_neg c10] at H
     have c10b0 : decide ((l0.length : Int) < (l1.length : Int)) = false := decide_eq_false c10
     have c10b1 : decide (l0.length < l1.length) = false := decide_eq_false (fun h => c10 (Int.ofNat_lt.mpr h))
     clear c10
     obtain rfl := Option.some.inj H
     go_wp2
     go_ret
     exact ⟨by first | rfl | (simp; done) | (simp [*]; done), by repeat (first | exact Drawn0.refl _ | apply Drawn0.step)⟩
end Go.Proofs.Ytfeeahjaeapkoaa.P
end

section
namespace Go.Proofs.Ytfeeahjaeapkoaa.P
open Go.RowKit Go.Proofs.YtfeeahjaeapkoaaW.PrintWords Go.Proofs.YtfeeahjaeapkoaaW.PrintLast Go.Proofs.YtfeeahjaeapkoaaW.PrintMore
attribute [local go_sem] max2_int min2_int max_two min_two max_three min_three max_four min_four   -- for this text's walks alone
set_option linter.unusedVariables false
set_option linter.unusedSimpArgs false
open Go.Proofs.Ytfeeahjaeapkoaa.Ext (q1_ q2_ q3_)
attribute [local go_sem high] Go.Proofs.Ytfeeahjaeapkoaa.Ext.gtr_str Go.Proofs.Ytfeeahjaeapkoaa.Ext.leq_str Go.Proofs.Ytfeeahjaeapkoaa.Ext.geq_str
def fact_rows_string.f (k : Nat) (l0 : List ByteArray) (l1 : List ByteArray) : Option (Int) := (slices_Compare_string_string.f k l0 l1).bind fun t119 => (some t119)
set_option maxHeartbeats 8000000 in
set_option maxRecDepth 100000 in
theorem fact_rows_string.calls (k : Nat) (A0 : Option Addr) (c0 : Nat) (l0 : List ByteArray) (A1 : Option Addr) (c1 : Nat) (l1 : List ByteArray) (r : Int) (w : World) (hr0 : Kd.C Kd.string w A0 l0.length l0) (hc0 : l0.length ≤ c0) (hr1 : Kd.C Kd.string w A1 l1.length l1) (hc1 : l1.length ≤ c1) (h : fact_rows_string.f k l0 l1 = some r) :
  Calls Try.prog 31 #[.slice A0 l0.length c0, .slice A1 l1.length c1] w fun e w' => e = .returned (.int .i64 r) ∧ Drawn0 w w' := by
 have HR0 := Aside0.mk hr0
 have HC0 := Aside0.mk hc0
 clear hr0 hc0
 have HR1 := Aside0.mk hr1
 have HC1 := Aside0.mk hc1
 clear hr1 hc1
 have H : ((slices_Compare_string_string.f k l0 l1).bind fun t119 => (some t119)) = some r := h
 clear h
 replace H := Option.bind_eq_some_iff.mp H
 obtain ⟨t119, A30, H⟩ := H
 replace H : (some t119) = some r := H
 have A3 := Aside0.mk A30
 clear A30
 obtain rfl := Option.some.inj H
 go_enter Try.func31, Try.ntmps31
 go_wp2_with (first | ((with_reducible refine gate_callee (f := 43) rfl ?_); refine goesL_ (some 7) rfl rfl Try.func43 (by kernel_rfl) rfl #[.slice A0 l0.length c0, .slice A1 l1.length c1] rfl (by (try simp only [List.map_toArray, List.map_cons, List.map_nil]); first | done | rfl | (simp only [List.length_drop, List.length_take]; rfl)) ?_; (with_reducible refine (slices_Compare_string_string.calls k _ _ l0 _ _ l1 t119 _ ?side1 ?side2 ?side3 ?side4 A3.out).mono ?_); (case side1 => repeat (first | exact HR0.out | (with_reducible refine Kd.C_alloc ?_ _) | (with_reducible refine Kd.C_drewN ?_ _) | (with_reducible refine Kd.C_drew ?_))); (case side2 => exact HC0.out); (case side3 => repeat (first | exact HR1.out | (with_reducible refine Kd.C_alloc ?_ _) | (with_reducible refine Kd.C_drewN ?_ _) | (with_reducible refine Kd.C_drew ?_))); (case side4 => exact HC1.out); rintro e w' ⟨rfl, ⟨nd, rfl⟩⟩; refine ⟨_, rfl, ?_⟩))
 go_ret
 exact ⟨by first | rfl | (simp; done) | (simp [*]; done), by repeat (first | exact Drawn0.refl _ | apply Drawn0.step)⟩
end Go.Proofs.Ytfeeahjaeapkoaa.P
end

section
namespace Go.Proofs.Ytfeeahjaeapkoaa.P
open Go.RowKit Go.Proofs.YtfeeahjaeapkoaaW.PrintWords Go.Proofs.YtfeeahjaeapkoaaW.PrintLast Go.Proofs.YtfeeahjaeapkoaaW.PrintMore
attribute [local go_sem] max2_int min2_int max_two min_two max_three min_three max_four min_four   -- for this text's walks alone
set_option linter.unusedVariables false
set_option linter.unusedSimpArgs false
open Go.Proofs.Ytfeeahjaeapkoaa.Ext (q1_ q2_ q3_)
attribute [local go_sem high] Go.Proofs.Ytfeeahjaeapkoaa.Ext.gtr_str Go.Proofs.Ytfeeahjaeapkoaa.Ext.leq_str Go.Proofs.Ytfeeahjaeapkoaa.Ext.geq_str
def slices_Compare_int64_int64.l0 : Nat → List Int → List Int → List Int → Int → Int → Option (Int)
 | 0, _, _, _, _, _ => none
 | k + 1, x0, x1, x9, x10, x11 => if x11 < x10 then (if 0 ≤ x11 then (if x11 < (x9.length : Int) then (if x11 ≥ (x1.length : Int) then (some 1) else (if x11 < (x1.length : Int) then ((cmp_Compare_int64.f (rd x9 x11) (rd x1 x11)).bind fun t122 => (if t122 = 0 then (slices_Compare_int64_int64.l0 k x0 x1 x9 x10 (wrap64 (x11 + 1))) else (some t122))) else (none))) else (none)) else (none)) else (if (x0.length : Int) < (x1.length : Int) then (some (-1)) else (some 0))
def slices_Compare_int64_int64.f (k : Nat) (l0 : List Int) (l1 : List Int) : Option (Int) := slices_Compare_int64_int64.l0 k l0 l1 l0 (l0.length : Int) 0
set_option maxHeartbeats 8000000 in
set_option maxRecDepth 100000 in
theorem slices_Compare_int64_int64.calls (k : Nat) (A0 : Option Addr) (c0 : Nat) (l0 : List Int) (A1 : Option Addr) (c1 : Nat) (l1 : List Int) (r : Int) (w : World) (hr0 : Kd.C (Kd.int .i64) w A0 l0.length l0) (hc0 : l0.length ≤ c0) (hr1 : Kd.C (Kd.int .i64) w A1 l1.length l1) (hc1 : l1.length ≤ c1) (h : slices_Compare_int64_int64.f k l0 l1 = some r) :
  Calls Try.prog 44 #[.slice A0 l0.length c0, .slice A1 l1.length c1] w fun e w' => e = .returned (.int .i64 r) ∧ Drawn0 w w' := by
 have HR0 := Aside0.mk hr0
 have HC0 := Aside0.mk hc0
 clear hr0 hc0
 have HR1 := Aside0.mk hr1
 have HC1 := Aside0.mk hc1
 clear hr1 hc1
 have H : (slices_Compare_int64_int64.l0 k l0 l1 l0 (l0.length : Int) 0) = some r := h
 clear h
 have H' := Aside0.mk H
 clear H
 go_enter Try.func44, Try.ntmps44
 go_wp2
 go_loopg [11] k (fun kq v11 w' => ∃ (x11_1 : Int), v11 = .int .i64 x11_1 ∧ Aside0 (slices_Compare_int64_int64.l0 kq l0 l1 l0 (l0.length : Int) x11_1 = some r) ∧ Aside0 (kq ≤ k) ∧ Drawn0 w w')
 case atStart => exact ⟨(0), (by first | rfl | (simp; done) | (simp [*]; done)), H', ⟨Nat.le_refl _⟩, by repeat (first | exact Drawn0.refl _ | apply Drawn0.step)⟩
 case round =>
  clear H'
  try clear c1
  try clear p2
  obtain ⟨x11_1, rfl, HA, HK1, ⟨m1, rfl⟩⟩ := hrel
  cases gk with
  | zero => exact absurd HA.out (by simp [slices_Compare_int64_int64.l0])
  | succ k1 =>
   have H := HA.out
   clear HA
   simp only [slices_Compare_int64_int64.l0] at H
   by_cases c3 : x11_1 < (l0.length : Int)
   ·rw [if_pos c3] at H
    have c3b0 : decide (x11_1 < (l0.length : Int)) = true := decide_eq_true c3
    clear c3
    by_cases c4 : 0 ≤ x11_1
    ·rw [if_pos c4] at H
     have c4b0 : decide (0 ≤ x11_1) = true := decide_eq_true c4
     clear c4
     by_cases c5 : x11_1 < (l0.length : Int)
     ·rw [if_pos c5] at H
      have c5b0 : decide (x11_1 < (l0.length : Int)) = true := decide_eq_true c5
      clear c5
      by_cases c6 : x11_1 ≥ (l1.length : Int)
      ·rw [if_pos c6] at H
       have c6b0 : decide ((l1.length : Int) ≤ x11_1) = true := decide_eq_true c6
       clear c6
       obtain rfl := Option.some.inj H
       have p120 : 0 ≤ (x11_1 : Int) := of_decide_eq_true (by assumption)
       have q120 : x11_1 < (l0.length : Int) := of_decide_eq_true (by assumption)
       obtain ⟨ad120, e120, hx120_0⟩ := Kd.at_int HR0.out x11_1 p120 q120
       cases e120
       replace p120 := eq_true p120
       replace q120 := eq_true q120
       go_wp2
       go_ret
       exact ⟨by first | rfl | (simp; done) | (simp [*]; done), by repeat (first | exact Drawn0.refl _ | apply Drawn0.step)⟩
      ·rw [if_neg c6] at H
       have c6b0 : decide ((l1.length : Int) ≤ x11_1) = false := decide_eq_false c6
       clear c6
       by_cases c7 : x11_1 < (l1.length : Int)
       ·rw [if_pos c7] at H
        have c7b0 : decide (x11_1 < (l1.length : Int)) = true := decide_eq_true c7
        clear c7
        replace H := Option.bind_eq_some_iff.mp H
        obtain ⟨t122, A80, H⟩ := H
        replace H : (if t122 = 0 then (slices_Compare_int64_int64.l0 k1 l0 l1 l0 (l0.length : Int) (wrap64 (x11_1 + 1))) else (some t122)) = some r := H
        have A8 := Aside0.mk A80
        clear A80
        by_cases c9 : t122 = 0
        ·rw [if_pos c9] at H
         have c9b0 : (t122 == 0) = true := beq_iff_eq.mpr c9
         have c9b1 : (t122 != 0) = false := bne_eq_false_iff_eq.mpr c9
         clear c9
         have H' := Aside0.mk H
         clear H
         have p120 : 0 ≤ (x11_1 : Int) := of_decide_eq_true (by assumption)
         have q120 : x11_1 < (l0.length : Int) := of_decide_eq_true (by assumption)
         obtain ⟨ad120, e120, hx120_0⟩ := Kd.at_int HR0.out x11_1 p120 q120
         cases e120
         replace p120 := eq_true p120
         replace q120 := eq_true q120
         have p121 : 0 ≤ (x11_1 : Int) := of_decide_eq_true (by assumption)
         have q121 : x11_1 < (l1.length : Int) := of_decide_eq_true (by assumption)
         obtain ⟨ad121, e121, hx121_0⟩ := Kd.at_int HR1.out x11_1 p121 q121
         cases e121
         replace p121 := eq_true p121
         replace q121 := eq_true q121
         go_wp2_with (first | ((with_reducible refine gate_callee (f := 30) rfl ?_); refine goesL_ (some 26) rfl rfl Try.func30 (by kernel_rfl) rfl #[.int .i64 (rd l0 x11_1), .int .i64 (rd l1 x11_1)] rfl (by (try simp only [List.map_toArray, List.map_cons, List.map_nil]); first | done | rfl | (simp only [List.length_drop, List.length_take]; rfl)) ?_; (with_reducible refine (cmp_Compare_int64.calls (rd l0 x11_1) (rd l1 x11_1) t122 _ A8.out).mono ?_); rintro e w' ⟨rfl, ⟨nd, rfl⟩⟩; refine ⟨_, rfl, ?_⟩))
         go_roundg k1
         case measure => have := HK1.out; omega
         case rel => exact ⟨(wrap64 (x11_1 + 1)), (by first | rfl | (simp; done) | (simp [*]; done)), H', ⟨by have := HK1.out; omega⟩, by repeat (first | exact Drawn0.refl _ | apply Drawn0.step)⟩
        ·rw [if_neg c9] at H
         have c9b0 : (t122 == 0) = false := beq_eq_false_iff_ne.mpr c9
         have c9b1 : (t122 != 0) = true := bne_iff_ne.mpr c9
         obtain rfl := Option.some.inj H
         have p120 : 0 ≤ (x11_1 : Int) := of_decide_eq_true (by assumption)
         have q120 : x11_1 < (l0.length : Int) := of_decide_eq_true (by assumption)
         obtain ⟨ad120, e120, hx120_0⟩ := Kd.at_int HR0.out x11_1 p120 q120
         cases e120
         replace p120 := eq_true p120
         replace q120 := eq_true q120
         have p121 : 0 ≤ (x11_1 : Int) := of_decide_eq_true (by assumption)
         have q121 : x11_1 < (l1.length : Int) := of_decide_eq_true (by assumption)
         obtain ⟨ad121, e121, hx121_0⟩ := Kd.at_int HR1.out x11_1 p121 q121
         cases e121
         replace p121 := eq_true p121
         replace q121 := eq_true q121
         go_wp2_with (first | ((with_reducible refine gate_callee (f := 30) rfl ?_); refine goesL_ (some 26) rfl rfl Try.func30 (by kernel_rfl) rfl #[.int .i64 (rd l0 x11_1), .int .i64 (rd l1 x11_1)] rfl (by (try simp only [List.map_toArray, List.map_cons, List.map_nil]); first | done | rfl | (simp only [List.length_drop, List.length_take]; rfl)) ?_; (with_reducible refine (cmp_Compare_int64.calls (rd l0 x11_1) (rd l1 x11_1) t122 _ A8.out).mono ?_); rintro e w' ⟨rfl, ⟨nd, rfl⟩⟩; refine ⟨_, rfl, ?_⟩))
         go_ret
         exact ⟨by first | rfl | (simp; done) | (simp [*]; done), by repeat (first | exact Drawn0.refl _ | apply Drawn0.step)⟩
       ·rw [if_neg c7] at H
        exact absurd H (by simp)
     ·rw [if_neg c5] at H
      exact absurd H (by simp)
    ·rw [if_neg c4] at H
     exact absurd H (by simp)
   ·rw [if_neg c3] at H
    have c3b0 : decide (x11_1 < (l0.length : Int)) = false := decide_eq_false c3
    clear c3
    by_cases c10 : (l0.length : Int) < (l1.length : Int)
    ·rw [if_pos c10] at H
     have c10b0 : decide ((l0.length : Int) < (l1.length : Int)) = true := decide_eq_true c10
     have c10b1 : decide (l0.length < l1.length) = true := decide_eq_true (Int.ofNat_lt.mp c10)
     clear c10
     obtain rfl := Option.some.inj H
     go_wp2
     go_ret
     exact ⟨by first | rfl | (simp; done) | (simp [*]; done), by repeat (first | exact Drawn0.refl _ | apply Drawn0.step)⟩
    ·rw [if_neg c10] at H
     have c10b0 : decide ((l0.length : Int) < (l1.length : Int)) = false := decide_eq_false c10
     have c10b1 : decide (l0.length < l1.length) = false := decide_eq_false (fun h => c10 (Int.ofNat_lt.mpr h))
     clear c10
     obtain rfl := Option.some.inj H
     go_wp2
     go_ret
     exact ⟨by first | rfl | (simp; done) | (simp [*]; done), by repeat (first | exact Drawn0.refl _ | apply Drawn0.step)⟩
end Go.Proofs.Ytfeeahjaeapkoaa.P
end

section
namespace Go.Proofs.Ytfeeahjaeapkoaa.P
open Go.RowKit Go.Proofs.YtfeeahjaeapkoaaW.PrintWords Go.Proofs.YtfeeahjaeapkoaaW.PrintLast Go.Proofs.YtfeeahjaeapkoaaW.PrintMore
attribute [local go_sem] max2_int min2_int max_two min_two max_three min_three max_four min_four   -- for this text's walks alone
set_option linter.unusedVariables false
set_option linter.unusedSimpArgs false
open Go.Proofs.Ytfeeahjaeapkoaa.Ext (q1_ q2_ q3_)
attribute [local go_sem high] Go.Proofs.Ytfeeahjaeapkoaa.Ext.gtr_str Go.Proofs.Ytfeeahjaeapkoaa.Ext.leq_str Go.Proofs.Ytfeeahjaeapkoaa.Ext.geq_str
def fact_rows_int64.f (k : Nat) (l0 : List Int) (l1 : List Int) : Option (Int) := (slices_Compare_int64_int64.f k l0 l1).bind fun t123 => (some t123)
set_option maxHeartbeats 8000000 in
set_option maxRecDepth 100000 in
theorem fact_rows_int64.calls (k : Nat) (A0 : Option Addr) (c0 : Nat) (l0 : List Int) (A1 : Option Addr) (c1 : Nat) (l1 : List Int) (r : Int) (w : World) (hr0 : Kd.C (Kd.int .i64) w A0 l0.length l0) (hc0 : l0.length ≤ c0) (hr1 : Kd.C (Kd.int .i64) w A1 l1.length l1) (hc1 : l1.length ≤ c1) (h : fact_rows_int64.f k l0 l1 = some r) :
  Calls Try.prog 32 #[.slice A0 l0.length c0, .slice A1 l1.length c1] w fun e w' => e = .returned (.int .i64 r) ∧ Drawn0 w w' := by
 have HR0 := Aside0.mk hr0
 have HC0 := Aside0.mk hc0
 clear hr0 hc0
 have HR1 := Aside0.mk hr1
 have HC1 := Aside0.mk hc1
 clear hr1 hc1
 have H : ((slices_Compare_int64_int64.f k l0 l1).bind fun t123 => (some t123)) = some r := h
 clear h
 replace H := Option.bind_eq_some_iff.mp H
 obtain ⟨t123, A30, H⟩ := H
 replace H : (some t123) = some r := H
 have A3 := Aside0.mk A30
 clear A30
 obtain rfl := Option.some.inj H
 go_enter Try.func32, Try.ntmps32
 go_wp2_with (first | ((with_reducible refine gate_callee (f := 44) rfl ?_); refine goesL_ (some 7) rfl rfl Try.func44 (by kernel_rfl) rfl #[.slice A0 l0.length c0, .slice A1 l1.length c1] rfl (by (try simp only [List.map_toArray, List.map_cons, List.map_nil]); first | done | rfl | (simp only [List.length_drop, List.length_take]; rfl)) ?_; (with_reducible refine (slices_Compare_int64_int64.calls k _ _ l0 _ _ l1 t123 _ ?side1 ?side2 ?side3 ?side4 A3.out).mono ?_); (case side1 => repeat (first | exact HR0.out | (with_reducible refine Kd.C_alloc ?_ _) | (with_reducible refine Kd.C_drewN ?_ _) | (with_reducible refine Kd.C_drew ?_))); (case side2 => exact HC0.out); (case side3 => repeat (first | exact HR1.out | (with_reducible refine Kd.C_alloc ?_ _) | (with_reducible refine Kd.C_drewN ?_ _) | (with_reducible refine Kd.C_drew ?_))); (case side4 => exact HC1.out); rintro e w' ⟨rfl, ⟨nd, rfl⟩⟩; refine ⟨_, rfl, ?_⟩))
 go_ret
 exact ⟨by first | rfl | (simp; done) | (simp [*]; done), by repeat (first | exact Drawn0.refl _ | apply Drawn0.step)⟩
end Go.Proofs.Ytfeeahjaeapkoaa.P
end

section
namespace Go.Proofs.Ytfeeahjaeapkoaa.P
open Go.RowKit Go.Proofs.YtfeeahjaeapkoaaW.PrintWords Go.Proofs.YtfeeahjaeapkoaaW.PrintLast Go.Proofs.YtfeeahjaeapkoaaW.PrintMore
attribute [local go_sem] max2_int min2_int max_two min_two max_three min_three max_four min_four   -- for this text's walks alone
set_option linter.unusedVariables false
set_option linter.unusedSimpArgs false
open Go.Proofs.Ytfeeahjaeapkoaa.Ext (q1_ q2_ q3_ bk_ bw_ sz_ ne_ bx_)
attribute [local go_sem high] Go.Proofs.Ytfeeahjaeapkoaa.Ext.gtr_str Go.Proofs.Ytfeeahjaeapkoaa.Ext.leq_str Go.Proofs.Ytfeeahjaeapkoaa.Ext.geq_str
def fact_Compare.f (k : Nat) (a0_0 : Int) (l0_1 : List ByteArray) (l0_2 : List Int) (a1_0 : Int) (l1_1 : List ByteArray) (l1_2 : List Int) : Option (Int) := (cmp_Compare_int64.f a0_0 a1_0).bind fun t126 => ((fact_rows_string.f k l0_1 l1_1).bind fun t127 => ((fact_rows_int64.f k l0_2 l1_2).bind fun t128 => ((cmp_Or_int.f k (([t126, t127, t128] : List Int))).bind fun t132 => (some t132))))
def fact_Compare.T1 : Bool × List (List Nat × List Nat) := (true, [([], []), ([0], [0]), ([], []), ([2], [2]), ([1, 3], [1, 3]), ([], []), ([5], [5]), ([], []), ([7], [7]), ([6, 8, 4], [6, 8]), ([], []), ([10], [10]), ([], []), ([12], [12]), ([11, 13, 9], [11, 13]), ([4, 9, 14], [4, 9, 14]), ([15, 14], [15]), ([16, 16, 0, 1, 2, 3, 4, 5, 6, 7, 8, 9, 10, 11, 12, 13, 14, 15, 16], [16])])
def fact_Compare.B1 : List Nat := [0, 1, 0, 4, 15, 0, 32, 0, 128, 511, 0, 1024, 0, 4096, 16383, 32767, 65535, 131071]
theorem fact_Compare.tab1 : rtab .any (opsOf Try.f14 1) = fact_Compare.T1 := by kernel_rfl
theorem fact_Compare.bits1 : waitsOk fact_Compare.T1.2 fact_Compare.B1 = true := by kernel_rfl
set_option maxHeartbeats 8000000 in
set_option maxRecDepth 100000 in
theorem fact_Compare.calls (k : Nat) (a0_0 : Int) (A0_1 : Option Addr) (c0_1 : Nat) (l0_1 : List ByteArray) (A0_2 : Option Addr) (c0_2 : Nat) (l0_2 : List Int) (a1_0 : Int) (A1_1 : Option Addr) (c1_1 : Nat) (l1_1 : List ByteArray) (A1_2 : Option Addr) (c1_2 : Nat) (l1_2 : List Int) (r : Int) (w : World) (hr0_1 : Kd.C Kd.string w A0_1 l0_1.length l0_1) (hc0_1 : l0_1.length ≤ c0_1) (hr0_2 : Kd.C (Kd.int .i64) w A0_2 l0_2.length l0_2) (hc0_2 : l0_2.length ≤ c0_2) (hr1_1 : Kd.C Kd.string w A1_1 l1_1.length l1_1) (hc1_1 : l1_1.length ≤ c1_1) (hr1_2 : Kd.C (Kd.int .i64) w A1_2 l1_2.length l1_2) (hc1_2 : l1_2.length ≤ c1_2) (h : fact_Compare.f k a0_0 l0_1 l0_2 a1_0 l1_1 l1_2 = some r) :
  Calls Try.prog 14 #[.agg #[.int .i64 a0_0, .slice A0_1 l0_1.length c0_1, .slice A0_2 l0_2.length c0_2], .agg #[.int .i64 a1_0, .slice A1_1 l1_1.length c1_1, .slice A1_2 l1_2.length c1_2]] w fun e w' => e = .returned (.int .i64 r) ∧ Below w.heap.size w w' := by
 have hu27 := Try.underlying27
 have HR0_1 := Aside0.mk hr0_1
 have HC0_1 := Aside0.mk hc0_1
 clear hr0_1 hc0_1
 have HR0_2 := Aside0.mk hr0_2
 have HC0_2 := Aside0.mk hc0_2
 clear hr0_2 hc0_2
 have HR1_1 := Aside0.mk hr1_1
 have HC1_1 := Aside0.mk hc1_1
 clear hr1_1 hc1_1
 have HR1_2 := Aside0.mk hr1_2
 have HC1_2 := Aside0.mk hc1_2
 clear hr1_2 hc1_2
 have HB := Aside0.mk (Below.refl w.heap.size w)
 have H : ((cmp_Compare_int64.f a0_0 a1_0).bind fun t126 => ((fact_rows_string.f k l0_1 l1_1).bind fun t127 => ((fact_rows_int64.f k l0_2 l1_2).bind fun t128 => ((cmp_Or_int.f k (([t126, t127, t128] : List Int))).bind fun t132 => (some t132))))) = some r := h
 clear h
 replace H := Option.bind_eq_some_iff.mp H
 obtain ⟨t126, A30, H⟩ := H
 replace H : ((fact_rows_string.f k l0_1 l1_1).bind fun t127 => ((fact_rows_int64.f k l0_2 l1_2).bind fun t128 => ((cmp_Or_int.f k (([t126, t127, t128] : List Int))).bind fun t132 => (some t132)))) = some r := H
 have A3 := Aside0.mk A30
 clear A30
 replace H := Option.bind_eq_some_iff.mp H
 obtain ⟨t127, A40, H⟩ := H
 replace H : ((fact_rows_int64.f k l0_2 l1_2).bind fun t128 => ((cmp_Or_int.f k (([t126, t127, t128] : List Int))).bind fun t132 => (some t132))) = some r := H
 have A4 := Aside0.mk A40
 clear A40
 replace H := Option.bind_eq_some_iff.mp H
 obtain ⟨t128, A50, H⟩ := H
 replace H : ((cmp_Or_int.f k (([t126, t127, t128] : List Int))).bind fun t132 => (some t132)) = some r := H
 have A5 := Aside0.mk A50
 clear A50
 obtain ⟨y129, hy129⟩ : ∃ y_ : List Int, y_ = (([t126, t127, t128] : List Int)) := ⟨_, rfl⟩
 replace H : ((cmp_Or_int.f k y129).bind fun t132 => (some t132)) = some r := by first | (rw [hy129]; with_reducible exact H) | (have H2_ := (Option.bind_some _ _).symm.trans H; rw [hy129]; with_reducible exact H2_) | (have H2_ := (Option.bind_some _ _).symm.trans H; with_reducible exact H2_) | with_reducible exact H | (rw [hy129]; exact H) | exact H
 have Ny129 := Aside0.mk hy129
 clear hy129
 replace H := Option.bind_eq_some_iff.mp H
 obtain ⟨t132, A60, H⟩ := H
 replace H : (some t132) = some r := H
 have A6 := Aside0.mk A60
 clear A60
 obtain rfl := Option.some.inj H
 go_enter Try.func14, Try.ntmps14
 try go_wp2_with (first | ((with_reducible refine gate_dst (N := 2) rfl ?_); refine bx_ (N := 2) (cs := #[.int .i64 a0_0, .slice A0_1 l0_1.length c0_1, .slice A0_2 l0_2.length c0_2]) (t := 27) ?_; intro gb124 hg w7 hbox hb; have n0_ := Aside0.mk (below_step (bw_ HB.out) hb); have n1_ := Aside0.mk (hbox); have n2_ := Aside0.mk (sz_ hg (bw_ HB.out)); have n3_ := n2_; clear HB; have HB := n0_; have BK124 := n1_; have GW124 := n2_; have GE124 := n3_; clear n0_ n1_ n2_ n3_; clear hb hbox hg) | ((with_reducible refine gate_dst (N := 3) rfl ?_); refine bx_ (N := 3) (cs := #[.int .i64 a1_0, .slice A1_1 l1_1.length c1_1, .slice A1_2 l1_2.length c1_2]) (t := 27) ?_; intro gb125 hg w8 hbox hb; have n0_ := Aside0.mk (blk_below (bk_ BK124.out) hb); have n1_ := Aside0.mk (below_step (bw_ HB.out) hb); have n2_ := Aside0.mk (hbox); have n3_ := Aside0.mk (sz_ hg (bw_ HB.out)); have n4_ := n3_; have n5_ := Aside0.mk (ne_ hg (blk_lt (bk_ BK124.out))); have n6_ := Aside0.mk n5_.out.symm; clear BK124 HB; have BK124 := n0_; have HB := n1_; have BK125 := n2_; have GW125 := n3_; have GE125 := n4_; have NB124_125 := n5_; have NB125_124 := n6_; clear n0_ n1_ n2_ n3_ n4_ n5_ n6_; clear hb hbox hg))
 have n0_ := Aside0.mk (blk_drew BK124.out)
 have n1_ := Aside0.mk (blk_drew BK125.out)
 have n2_ := Aside0.mk (below_drew1 HB.out)
 clear BK124
 clear BK125
 clear HB
 have BK124 := n0_
 have BK125 := n1_
 have HB := n2_
 clear n0_ n1_ n2_
 refine start_ (n := 18) (S := fun w' => w'.cell? ⟨gb124, 0, none⟩ = some (.int .i64 a0_0) ∧ w'.cell? ⟨gb124, 1, none⟩ = some (.slice A0_1 l0_1.length c0_1) ∧ w'.cell? ⟨gb124, 2, none⟩ = some (.slice A0_2 l0_2.length c0_2) ∧ w'.cell? ⟨gb125, 0, none⟩ = some (.int .i64 a1_0) ∧ w'.cell? ⟨gb125, 1, none⟩ = some (.slice A1_1 l1_1.length c1_1) ∧ w'.cell? ⟨gb125, 2, none⟩ = some (.slice A1_2 l1_2.length c1_2)) (ds := []) #[false, false, false, false, false, false, false, false, false, false, false, false, false, false, false, false, false, false] (by kernel_rfl) rfl rfl ⟨(blk_cell BK124.out 0).trans rfl, (blk_cell BK124.out 1).trans rfl, (blk_cell BK124.out 2).trans rfl, (blk_cell BK125.out 0).trans rfl, (blk_cell BK125.out 1).trans rfl, (blk_cell BK125.out 2).trans rfl⟩ (fun hHeld => ?_); refine with_tabW fact_Compare.tab1 fact_Compare.bits1 (fun HT_ HW_ => ?_)
 generalize w8.drew = w9 at BK124 BK125 HB hHeld ⊢
 refine pure_ (i := 0) (N := some 5) (v := ?_) (a' := ?_) #[true, false, false, false, false, false, false, false, false, false, false, false, false, false, false, false, false, false] rfl rfl (any_of HT_.out (by kernel_rfl)) (fun _ _ _ h => h) (Or.inl ⟨by rfl, ?_⟩) ?_ ?_
 rotate_left
 ·intro w'
  go_simp
  with_reducible rfl
 rotate_left
 ·simp only [Act.put, q1_, q2_, q3_, i64_w, i32_w]
  rfl
 refine pure_ (i := 2) (N := some 7) (v := ?_) (a' := ?_) #[true, false, true, false, false, false, false, false, false, false, false, false, false, false, false, false, false, false] rfl rfl (any_of HT_.out (by kernel_rfl)) (fun _ _ _ h => h) (Or.inl ⟨by rfl, ?_⟩) ?_ ?_
 rotate_left
 ·intro w'
  go_simp
  with_reducible rfl
 rotate_left
 ·simp only [Act.put, q1_, q2_, q3_, i64_w, i32_w]
  rfl
 refine pure_ (i := 5) (N := some 10) (v := ?_) (a' := ?_) #[true, false, true, false, false, true, false, false, false, false, false, false, false, false, false, false, false, false] rfl rfl (any_of HT_.out (by kernel_rfl)) (fun _ _ _ h => h) (Or.inl ⟨by rfl, ?_⟩) ?_ ?_
 rotate_left
 ·intro w'
  go_simp
  with_reducible rfl
 rotate_left
 ·simp only [Act.put, q1_, q2_, q3_, i64_w, i32_w]
  rfl
 refine pure_ (i := 7) (N := some 12) (v := ?_) (a' := ?_) #[true, false, true, false, false, true, false, true, false, false, false, false, false, false, false, false, false, false] rfl rfl (any_of HT_.out (by kernel_rfl)) (fun _ _ _ h => h) (Or.inl ⟨by rfl, ?_⟩) ?_ ?_
 rotate_left
 ·intro w'
  go_simp
  with_reducible rfl
 rotate_left
 ·simp only [Act.put, q1_, q2_, q3_, i64_w, i32_w]
  rfl
 refine pure_ (i := 10) (N := some 15) (v := ?_) (a' := ?_) #[true, false, true, false, false, true, false, true, false, false, true, false, false, false, false, false, false, false] rfl rfl (any_of HT_.out (by kernel_rfl)) (fun _ _ _ h => h) (Or.inl ⟨by rfl, ?_⟩) ?_ ?_
 rotate_left
 ·intro w'
  go_simp
  with_reducible rfl
 rotate_left
 ·simp only [Act.put, q1_, q2_, q3_, i64_w, i32_w]
  rfl
 refine pure_ (i := 12) (N := some 17) (v := ?_) (a' := ?_) #[true, false, true, false, false, true, false, true, false, false, true, false, true, false, false, false, false, false] rfl rfl (any_of HT_.out (by kernel_rfl)) (fun _ _ _ h => h) (Or.inl ⟨by rfl, ?_⟩) ?_ ?_
 rotate_left
 ·intro w'
  go_simp
  with_reducible rfl
 rotate_left
 ·simp only [Act.put, q1_, q2_, q3_, i64_w, i32_w]
  rfl
 refine take_ (i := 1) (N := some 6) (v := ?_) (a' := ?_) #[true, true, true, false, false, true, false, true, false, false, true, false, true, false, false, false, false, false] rfl rfl (take_ofW HT_.out HW_.out (by kernel_rfl)) (fun _ _ _ h => h) (Or.inl ⟨by rfl, ?_⟩) hHeld ?_ ?_
 rotate_left
 ·rintro w' ⟨s0, s1, s2, s3, s4, s5⟩
  go_simp
  with_reducible rfl
 rotate_left
 ·simp only [Act.put, q1_, q2_, q3_, i64_w, i32_w]
  rfl
 refine take_ (i := 3) (N := some 8) (v := ?_) (a' := ?_) #[true, true, true, true, false, true, false, true, false, false, true, false, true, false, false, false, false, false] rfl rfl (take_ofW HT_.out HW_.out (by kernel_rfl)) (fun _ _ _ h => h) (Or.inl ⟨by rfl, ?_⟩) hHeld ?_ ?_
 rotate_left
 ·rintro w' ⟨s0, s1, s2, s3, s4, s5⟩
  go_simp
  with_reducible rfl
 rotate_left
 ·simp only [Act.put, q1_, q2_, q3_, i64_w, i32_w]
  rfl
 refine take_ (i := 6) (N := some 11) (v := ?_) (a' := ?_) #[true, true, true, true, false, true, true, true, false, false, true, false, true, false, false, false, false, false] rfl rfl (take_ofW HT_.out HW_.out (by kernel_rfl)) (fun _ _ _ h => h) (Or.inl ⟨by rfl, ?_⟩) hHeld ?_ ?_
 rotate_left
 ·rintro w' ⟨s0, s1, s2, s3, s4, s5⟩
  go_simp
  with_reducible rfl
 rotate_left
 ·simp only [Act.put, q1_, q2_, q3_, i64_w, i32_w]
  rfl
 refine take_ (i := 8) (N := some 13) (v := ?_) (a' := ?_) #[true, true, true, true, false, true, true, true, true, false, true, false, true, false, false, false, false, false] rfl rfl (take_ofW HT_.out HW_.out (by kernel_rfl)) (fun _ _ _ h => h) (Or.inl ⟨by rfl, ?_⟩) hHeld ?_ ?_
 rotate_left
 ·rintro w' ⟨s0, s1, s2, s3, s4, s5⟩
  go_simp
  with_reducible rfl
 rotate_left
 ·simp only [Act.put, q1_, q2_, q3_, i64_w, i32_w]
  rfl
 refine take_ (i := 11) (N := some 16) (v := ?_) (a' := ?_) #[true, true, true, true, false, true, true, true, true, false, true, true, true, false, false, false, false, false] rfl rfl (take_ofW HT_.out HW_.out (by kernel_rfl)) (fun _ _ _ h => h) (Or.inl ⟨by rfl, ?_⟩) hHeld ?_ ?_
 rotate_left
 ·rintro w' ⟨s0, s1, s2, s3, s4, s5⟩
  go_simp
  with_reducible rfl
 rotate_left
 ·simp only [Act.put, q1_, q2_, q3_, i64_w, i32_w]
  rfl
 refine take_ (i := 13) (N := some 18) (v := ?_) (a' := ?_) #[true, true, true, true, false, true, true, true, true, false, true, true, true, true, false, false, false, false] rfl rfl (take_ofW HT_.out HW_.out (by kernel_rfl)) (fun _ _ _ h => h) (Or.inl ⟨by rfl, ?_⟩) hHeld ?_ ?_
 rotate_left
 ·rintro w' ⟨s0, s1, s2, s3, s4, s5⟩
  go_simp
  with_reducible rfl
 rotate_left
 ·simp only [Act.put, q1_, q2_, q3_, i64_w, i32_w]
  rfl
 refine one_ (i := 4) (N := some 9) #[true, true, true, true, true, true, true, true, true, false, true, true, true, true, false, false, false, false] rfl rfl (one_of HT_.out (by kernel_rfl)) (by decide) (fun K hK => ?_)
 refine goes_ Try.func30 (by kernel_rfl) rfl #[.int .i64 a0_0, .int .i64 a1_0] (by rfl) rfl rfl (by (try simp only [List.map_toArray, List.map_cons, List.map_nil]); first | done | rfl | (simp only [List.length_drop, List.length_take]; rfl)) ?_
 with_reducible refine (cmp_Compare_int64.calls a0_0 a1_0 t126 _ A3.out).mono ?_
 rintro e w' ⟨rfl, ⟨nd, rfl⟩⟩
 refine ⟨_, rfl, ?_⟩
 refine hK.out _ _ ⟨(blk_cell BK124.out 0).trans rfl, (blk_cell BK124.out 1).trans rfl, (blk_cell BK124.out 2).trans rfl, (blk_cell BK125.out 0).trans rfl, (blk_cell BK125.out 1).trans rfl, (blk_cell BK125.out 2).trans rfl⟩ (fun hHeld => ?_)
 clear hK K
 refine norm_ (a' := ?_) ?_ ?_
 rotate_left
 ·show Act.put _ (some 9) _ = _
  simp only [Act.put, q1_, q2_, q3_, i64_w, i32_w]
  rfl
 refine one_ (i := 9) (N := some 14) #[true, true, true, true, true, true, true, true, true, true, true, true, true, true, false, false, false, false] rfl rfl (one_of HT_.out (by kernel_rfl)) (by decide) (fun K hK => ?_)
 refine goes_ Try.func31 (by kernel_rfl) rfl #[.slice A0_1 l0_1.length c0_1, .slice A1_1 l1_1.length c1_1] (by rfl) rfl rfl (by (try simp only [List.map_toArray, List.map_cons, List.map_nil]); first | done | rfl | (simp only [List.length_drop, List.length_take]; rfl)) ?_
 with_reducible refine (fact_rows_string.calls k _ _ l0_1 _ _ l1_1 t127 _ ?side1 ?side2 ?side3 ?side4 A4.out).mono ?_
 (case side1 => repeat (first | exact (Kd.C_below HR0_1.out (bw_ HB.out)) | (with_reducible refine Kd.C_alloc ?_ _) | (with_reducible refine Kd.C_drewN ?_ _) | (with_reducible refine Kd.C_drew ?_)))
 (case side2 => exact HC0_1.out)
 (case side3 => repeat (first | exact (Kd.C_below HR1_1.out (bw_ HB.out)) | (with_reducible refine Kd.C_alloc ?_ _) | (with_reducible refine Kd.C_drewN ?_ _) | (with_reducible refine Kd.C_drew ?_)))
 (case side4 => exact HC1_1.out)
 rintro e w' ⟨rfl, ⟨nd, rfl⟩⟩
 refine ⟨_, rfl, ?_⟩
 refine hK.out _ _ ⟨(blk_cell BK124.out 0).trans rfl, (blk_cell BK124.out 1).trans rfl, (blk_cell BK124.out 2).trans rfl, (blk_cell BK125.out 0).trans rfl, (blk_cell BK125.out 1).trans rfl, (blk_cell BK125.out 2).trans rfl⟩ (fun hHeld => ?_)
 clear hK K
 refine norm_ (a' := ?_) ?_ ?_
 rotate_left
 ·show Act.put _ (some 14) _ = _
  simp only [Act.put, q1_, q2_, q3_, i64_w, i32_w]
  rfl
 refine one_ (i := 14) (N := some 19) #[true, true, true, true, true, true, true, true, true, true, true, true, true, true, true, false, false, false] rfl rfl (one_of HT_.out (by kernel_rfl)) (by decide) (fun K hK => ?_)
 refine goes_ Try.func32 (by kernel_rfl) rfl #[.slice A0_2 l0_2.length c0_2, .slice A1_2 l1_2.length c1_2] (by rfl) rfl rfl (by (try simp only [List.map_toArray, List.map_cons, List.map_nil]); first | done | rfl | (simp only [List.length_drop, List.length_take]; rfl)) ?_
 with_reducible refine (fact_rows_int64.calls k _ _ l0_2 _ _ l1_2 t128 _ ?side1 ?side2 ?side3 ?side4 A5.out).mono ?_
 (case side1 => repeat (first | exact (Kd.C_below HR0_2.out (bw_ HB.out)) | (with_reducible refine Kd.C_alloc ?_ _) | (with_reducible refine Kd.C_drewN ?_ _) | (with_reducible refine Kd.C_drew ?_)))
 (case side2 => exact HC0_2.out)
 (case side3 => repeat (first | exact (Kd.C_below HR1_2.out (bw_ HB.out)) | (with_reducible refine Kd.C_alloc ?_ _) | (with_reducible refine Kd.C_drewN ?_ _) | (with_reducible refine Kd.C_drew ?_)))
 (case side4 => exact HC1_2.out)
 rintro e w' ⟨rfl, ⟨nd, rfl⟩⟩
 refine ⟨_, rfl, ?_⟩
 refine hK.out _ _ ⟨(blk_cell BK124.out 0).trans rfl, (blk_cell BK124.out 1).trans rfl, (blk_cell BK124.out 2).trans rfl, (blk_cell BK125.out 0).trans rfl, (blk_cell BK125.out 1).trans rfl, (blk_cell BK125.out 2).trans rfl⟩ (fun hHeld => ?_)
 clear hK K
 refine norm_ (a' := ?_) ?_ ?_
 rotate_left
 ·show Act.put _ (some 19) _ = _
  simp only [Act.put, q1_, q2_, q3_, i64_w, i32_w]
  rfl
 refine one_ (i := 15) (N := some 20) #[true, true, true, true, true, true, true, true, true, true, true, true, true, true, true, true, false, false] rfl rfl (one_of HT_.out (by kernel_rfl)) (by decide) (fun K hK => ?_)
 refine Kd.R_lit_step (Kd.int .i64) _ 3 ?hg (N := 20) ?hd (xs := ([t126, t127, t128] : List Int)) (inner := [.int .i64 t126, .int .i64 t127, .int .i64 t128]) (ok := fun _ => True) (okp := fun _ => True) ?hr ?hp (fun _ hk => hk) trivial (Below.refl _ _) (Nat.le_refl _) (by simp) ?_; (case hd => rfl); (case hg => rfl); (case hr => first | (go_simp; done) | (go_simp; rfl)); (case hp => exact (Reps.one (show Kd.M (Kd.int .i64) _ _ _ t126 [.int .i64 t126] from rfl) (Reps.one (show Kd.M (Kd.int .i64) _ _ _ t127 [.int .i64 t127] from rfl) (Reps.one (show Kd.M (Kd.int .i64) _ _ _ t128 [.int .i64 t128] from rfl) (Reps.none _ _)))))
 intro v130 w10 ho11 hb hg_ hnew_
 clear hg_ hnew_
 (first | rw [← Ny129.out] at ho11 | (simp only [Int.reduceToNat] at ho11; rw [← Ny129.out] at ho11))
 have n0_ := Aside0.mk (Kd.R_lower ho11 (below_size (bw_ HB.out)))
 have n1_ := Aside0.mk (blk_below (bk_ BK124.out) hb)
 have n2_ := Aside0.mk (blk_below (bk_ BK125.out) hb)
 have n3_ := Aside0.mk (below_step (bw_ HB.out) hb)
 clear BK124
 clear BK125
 clear HB
 have HO131 := n0_
 have BK124 := n1_
 have BK125 := n2_
 have HB := n3_
 clear n0_ n1_ n2_ n3_
 clear hb ho11
 obtain ⟨Ao12, co12, eo12⟩ := Kd.R_slice HO131.out
 (first | subst eo12 | (injection eo12 with f1_ f2_ f3_; have f4_ := f1_.symm; have f5_ := f3_.symm; clear f1_ f2_ f3_; subst f4_; subst f5_))
 refine hK.out _ _ ⟨(blk_cell BK124.out 0).trans rfl, (blk_cell BK124.out 1).trans rfl, (blk_cell BK124.out 2).trans rfl, (blk_cell BK125.out 0).trans rfl, (blk_cell BK125.out 1).trans rfl, (blk_cell BK125.out 2).trans rfl⟩ (fun hHeld => ?_)
 clear hK K
 refine norm_ (a' := ?_) ?_ ?_
 rotate_left
 ·show Act.put _ (some 20) _ = _
  simp only [Act.put, q1_, q2_, q3_, i64_w, i32_w]
  rfl
 refine one_ (i := 16) (N := some 21) #[true, true, true, true, true, true, true, true, true, true, true, true, true, true, true, true, true, false] rfl rfl (one_of HT_.out (by kernel_rfl)) (by decide) (fun K hK => ?_)
 refine goes_ Try.func29 (by kernel_rfl) rfl #[.slice Ao12 y129.length co12] (by rfl) rfl rfl (by (try simp only [List.map_toArray, List.map_cons, List.map_nil]); first | done | rfl | (simp only [List.length_drop, List.length_take]; rfl)) ?_
 with_reducible refine (cmp_Or_int.calls k _ _ y129 t132 _ ?side1 ?side2 A6.out).mono ?_
 (case side1 => repeat (first | exact (Kd.R_reads' HO131.out).2.2 | (with_reducible refine Kd.C_alloc ?_ _) | (with_reducible refine Kd.C_drewN ?_ _) | (with_reducible refine Kd.C_drew ?_)))
 (case side2 => exact (Kd.R_reads' HO131.out).2.1)
 rintro e w' ⟨rfl, ⟨nd, rfl⟩⟩
 refine ⟨_, rfl, ?_⟩
 refine hK.out _ _ ⟨(blk_cell BK124.out 0).trans rfl, (blk_cell BK124.out 1).trans rfl, (blk_cell BK124.out 2).trans rfl, (blk_cell BK125.out 0).trans rfl, (blk_cell BK125.out 1).trans rfl, (blk_cell BK125.out 2).trans rfl⟩ (fun hHeld => ?_)
 clear hK K
 refine norm_ (a' := ?_) ?_ ?_
 rotate_left
 ·show Act.put _ (some 21) _ = _
  simp only [Act.put, q1_, q2_, q3_, i64_w, i32_w]
  rfl
 refine pure_ (i := 17) (N := some 4) (v := ?_) (a' := ?_) #[true, true, true, true, true, true, true, true, true, true, true, true, true, true, true, true, true, true] rfl rfl (any_of HT_.out (by kernel_rfl)) (fun _ _ _ h => h) (Or.inl ⟨by rfl, ?_⟩) ?_ ?_
 rotate_left
 ·intro w'
  go_simp
  with_reducible rfl
 rotate_left
 ·simp only [Act.put, q1_, q2_, q3_, i64_w, i32_w]
  rfl
 refine done_ (done_of HT_.out (by kernel_rfl)) ?_
 try go_wp2
 go_ret
 exact ⟨by first | rfl | (simp [errW_none, errW_some] <;> rfl) | (simp [*, errW_none, errW_some] <;> rfl), by repeat (first | (with_reducible first | exact HB.out | apply below_alloc | apply pw_below_drewN | apply below_drew1 | refine below_set ?_ GE124.out | refine below_set ?_ GE125.out) | exact HB.out)⟩
end Go.Proofs.Ytfeeahjaeapkoaa.P
end

section
namespace Go.Proofs.Ytfeeahjaeapkoaa.Ext
set_option linter.unusedVariables false
set_option linter.unusedSimpArgs false
open Go.RowKit Go.Proofs.YtfeeahjaeapkoaaW.PrintWords Go.Proofs.Ytfeeahjaeapkoaa.P
def rowC {α : Type} (less : α → α → Bool) : List α → List α → Int
  | [], [] => 0
  | [], _ :: _ => -1
  | _ :: _, [] => 1
  | x :: a, y :: b => if less x y = true then -1 else if less y x = true then 1 else rowC less a b
def lessS (a b : ByteArray) : Bool := Op.bytesLess a.toList b.toList
def lessI (a b : Int) : Bool := decide (a < b)
def tC (a b : Int) : Int := if a < b then -1 else if a > b then 1 else 0
def factC (t0 t1 : Int) (d0 d1 : List ByteArray) (m0 m1 : List Int) : Int := if tC t0 t1 = 0 then (if rowC lessS d0 d1 = 0 then rowC lessI m0 m1 else rowC lessS d0 d1) else tC t0 t1
theorem rowC_nil {α : Type} (less : α → α → Bool) (y : List α) : rowC less [] y = if y.length = 0 then 0 else -1 := by cases y <;> rfl
theorem rowC_end {α : Type} (less : α → α → Bool) (x : List α) (h : 0 < x.length) : rowC less x [] = 1 := by
  cases x with
  | nil => exact absurd h (Nat.lt_irrefl _)
  | cons a b => rfl
theorem cmpS (a b : ByteArray) : cmp_Compare_string.f a b = some (if lessS a b = true then -1 else if lessS b a = true then 1 else 0) := by
  unfold cmp_Compare_string.f cmp_isNaN_string.f lessS
  simp only [bne_self_eq_false, Option.bind_some]
  by_cases h1 : Op.bytesLess a.toList b.toList = true
  · simp [h1]
  · by_cases h2 : Op.bytesLess b.toList a.toList = true <;> simp [h1, h2]
theorem cmpI (a b : Int) : cmp_Compare_int64.f a b = some (if lessI a b = true then -1 else if lessI b a = true then 1 else 0) := by
  unfold cmp_Compare_int64.f cmp_isNaN_int64.f lessI
  simp only [bne_self_eq_false, Option.bind_some, decide_eq_true_eq]
  by_cases h1 : a < b
  · simp [h1]
  · by_cases h2 : b < a <;> simp [h1, h2]
theorem tC_is (a b : Int) : (if lessI a b = true then -1 else if lessI b a = true then 1 else 0 : Int) = tC a b := by
  unfold lessI tC
  simp only [decide_eq_true_eq, gt_iff_lt]
theorem dropc {α : Type} (x : List α) (i : Nat) (h : i < x.length) : x.drop i = x[i] :: x.drop (i + 1) := List.drop_eq_getElem_cons h
theorem rdS (x : List ByteArray) (i : Nat) (h : i < x.length) : rdOf ByteArray.empty x (i : Int) = x[i] := by unfold rdOf; simp [h]
theorem rdI (x : List Int) (i : Nat) (h : i < x.length) : rd x (i : Int) = x[i] := by unfold rd; simp [h]
theorem sc_loop (x y : List ByteArray) (hx : x.length < 4611686018427387904) : ∀ (n i : Nat), i + n = x.length → i ≤ y.length → ∀ k, n + 1 ≤ k → slices_Compare_string_string.l0 k x y x (x.length : Int) (i : Int) = some (rowC lessS (x.drop i) (y.drop i)) := by
  intro n
  induction n with
  | zero =>
    intro i hi hy k hk
    obtain ⟨k, rfl⟩ : ∃ k', k = k' + 1 := ⟨k - 1, by omega⟩
    rw [slices_Compare_string_string.l0, if_neg (by omega), List.drop_of_length_le (by omega : x.length ≤ i), rowC_nil, List.length_drop]
    by_cases h : x.length < y.length
    · rw [if_pos (by omega), if_neg (by omega)]
    · rw [if_neg (by omega), if_pos (by omega)]
  | succ n ih =>
    intro i hi hy k hk
    obtain ⟨k, rfl⟩ : ∃ k', k = k' + 1 := ⟨k - 1, by omega⟩
    have hil : i < x.length := by omega
    have e : wrap64 ((i : Int) + 1) = ((i + 1 : Nat) : Int) := by unfold wrap64; omega
    rw [slices_Compare_string_string.l0, if_pos (by omega), if_pos (by omega), if_pos (by omega)]
    by_cases hge : y.length ≤ i
    · rw [if_pos (by omega), List.drop_of_length_le hge, rowC_end _ _ (by rw [List.length_drop]; omega)]
    · have hiy : i < y.length := by omega
      rw [if_neg (by omega), if_pos (by omega), rdS x i hil, rdS y i hiy, cmpS, dropc x i hil, dropc y i hiy, rowC]
      simp only [Option.bind_some]
      by_cases h1 : lessS x[i] y[i] = true
      · rw [if_pos h1, if_pos h1, if_neg (by decide)]
      · rw [if_neg h1, if_neg h1]
        by_cases h2 : lessS y[i] x[i] = true
        · rw [if_pos h2, if_pos h2, if_neg (by decide)]
        · rw [if_neg h2, if_neg h2, if_pos rfl, e]
          exact ih (i + 1) (by omega) (by omega) k (by omega)
theorem ic_loop (x y : List Int) (hx : x.length < 4611686018427387904) : ∀ (n i : Nat), i + n = x.length → i ≤ y.length → ∀ k, n + 1 ≤ k → slices_Compare_int64_int64.l0 k x y x (x.length : Int) (i : Int) = some (rowC lessI (x.drop i) (y.drop i)) := by
  intro n
  induction n with
  | zero =>
    intro i hi hy k hk
    obtain ⟨k, rfl⟩ : ∃ k', k = k' + 1 := ⟨k - 1, by omega⟩
    rw [slices_Compare_int64_int64.l0, if_neg (by omega), List.drop_of_length_le (by omega : x.length ≤ i), rowC_nil, List.length_drop]
    by_cases h : x.length < y.length
    · rw [if_pos (by omega), if_neg (by omega)]
    · rw [if_neg (by omega), if_pos (by omega)]
  | succ n ih =>
    intro i hi hy k hk
    obtain ⟨k, rfl⟩ : ∃ k', k = k' + 1 := ⟨k - 1, by omega⟩
    have hil : i < x.length := by omega
    have e : wrap64 ((i : Int) + 1) = ((i + 1 : Nat) : Int) := by unfold wrap64; omega
    rw [slices_Compare_int64_int64.l0, if_pos (by omega), if_pos (by omega), if_pos (by omega)]
    by_cases hge : y.length ≤ i
    · rw [if_pos (by omega), List.drop_of_length_le hge, rowC_end _ _ (by rw [List.length_drop]; omega)]
    · have hiy : i < y.length := by omega
      rw [if_neg (by omega), if_pos (by omega), rdI x i hil, rdI y i hiy, cmpI, dropc x i hil, dropc y i hiy, rowC]
      simp only [Option.bind_some]
      by_cases h1 : lessI x[i] y[i] = true
      · rw [if_pos h1, if_pos h1, if_neg (by decide)]
      · rw [if_neg h1, if_neg h1]
        by_cases h2 : lessI y[i] x[i] = true
        · rw [if_pos h2, if_pos h2, if_neg (by decide)]
        · rw [if_neg h2, if_neg h2, if_pos rfl, e]
          exact ih (i + 1) (by omega) (by omega) k (by omega)
theorem compare_is (t0 t1 : Int) (d0 d1 : List ByteArray) (m0 m1 : List Int) (hd : d0.length < 4611686018427387904) (hm : m0.length < 4611686018427387904) (k : Nat) (hk : d0.length + m0.length + 5 ≤ k) : fact_Compare.f k t0 d0 m0 t1 d1 m1 = some (factC t0 t1 d0 d1 m0 m1) := by
  have h1 := sc_loop d0 d1 hd d0.length 0 (by omega) (Nat.zero_le _) k (by omega)
  have h2 := ic_loop m0 m1 hm m0.length 0 (by omega) (Nat.zero_le _) k (by omega)
  have h1' : slices_Compare_string_string.l0 k d0 d1 d0 (d0.length : Int) 0 = some (rowC lessS d0 d1) := h1
  have h2' : slices_Compare_int64_int64.l0 k m0 m1 m0 (m0.length : Int) 0 = some (rowC lessI m0 m1) := h2
  unfold fact_Compare.f fact_rows_string.f fact_rows_int64.f slices_Compare_string_string.f slices_Compare_int64_int64.f
  rw [cmpI, tC_is, h1', h2']
  simp only [Option.bind_some]
  unfold cmp_Or_int.f factC
  generalize tC t0 t1 = a
  generalize rowC lessS d0 d1 = b
  generalize rowC lessI m0 m1 = c
  obtain ⟨k, rfl⟩ : ∃ k', k = k' + 4 := ⟨k - 4, by omega⟩
  have e1 : wrap64 (0 + 1) = 1 := by unfold wrap64; omega
  have e2 : wrap64 (1 + 1) = 2 := by unfold wrap64; omega
  have e3 : wrap64 (2 + 1) = 3 := by unfold wrap64; omega
  have e4 : wrap64 1 = 1 := by unfold wrap64; omega
  have e5 : wrap64 2 = 2 := by unfold wrap64; omega
  have e6 : wrap64 3 = 3 := by unfold wrap64; omega
  by_cases ha : a = 0
  · by_cases hb : b = 0
    · by_cases hc : c = 0
      · simp [cmp_Or_int.l0, rd, e1, e2, e3, e4, e5, e6, ha, hb, hc]
      · simp [cmp_Or_int.l0, rd, e1, e2, e3, e4, e5, e6, ha, hb, hc]
    · simp [cmp_Or_int.l0, rd, e1, e2, e3, e4, e5, e6, ha, hb]
  · simp [cmp_Or_int.l0, rd, e1, e2, e3, e4, e5, e6, ha]
theorem ref_meas (t0 t1 : Int) (d0 d1 : List ByteArray) (x y : List Int) (hx : x.length < 4611686018427387904) (hy : y.length < 4611686018427387904) : ∀ (n i : Nat), i + n = max x.length y.length → ∀ k, 2 * n + 2 ≤ k → gristmillref04_Compare.l1 k (i : Int) t0 d0 x t1 d1 y = some (rowC lessI (x.drop i) (y.drop i)) := by
  intro n
  induction n with
  | zero =>
    intro i hi k hk
    obtain ⟨k, rfl⟩ : ∃ k', k = k' + 2 := ⟨k - 2, by omega⟩
    rw [gristmillref04_Compare.l1, if_neg (by omega), decide_eq_false (by omega), gristmillref04_Compare.j3, if_neg (by decide), List.drop_of_length_le (by omega : x.length ≤ i), List.drop_of_length_le (by omega : y.length ≤ i)]
    rfl
  | succ n ih =>
    intro i hi k hk
    obtain ⟨k, rfl⟩ : ∃ k', k = k' + 2 := ⟨k - 2, by omega⟩
    have e : wrap64 ((i : Int) + 1) = ((i + 1 : Nat) : Int) := by unfold wrap64; omega
    have hj : gristmillref04_Compare.l1 (k + 2) (i : Int) t0 d0 x t1 d1 y = gristmillref04_Compare.j3 (k + 1) (i : Int) true t0 d0 x t1 d1 y := by
      rw [gristmillref04_Compare.l1]
      by_cases h : i < x.length
      · rw [if_pos (by omega)]
      · rw [if_neg (by omega), decide_eq_true (show (i : Int) < (y.length : Int) by omega)]
    rw [hj, gristmillref04_Compare.j3, if_pos rfl]
    by_cases hxi : x.length ≤ i
    · rw [if_pos (by omega), List.drop_of_length_le hxi, rowC_nil, List.length_drop, if_neg (by omega)]
    rw [if_neg (by omega)]
    by_cases hyi : y.length ≤ i
    · rw [if_pos (by omega), List.drop_of_length_le hyi, rowC_end _ _ (by rw [List.length_drop]; omega)]
    have h1x : i < x.length := by omega
    have h1y : i < y.length := by omega
    rw [if_neg (by omega), if_pos (by omega), if_pos (by omega), if_pos (by omega), rdI x i h1x, rdI y i h1y, dropc x i h1x, dropc y i h1y, rowC]
    by_cases h1 : x[i] < y[i]
    · have h1' : lessI x[i] y[i] = true := decide_eq_true h1
      rw [if_pos h1, if_pos h1']
    · have h1' : ¬ lessI x[i] y[i] = true := fun h => h1 (of_decide_eq_true h)
      rw [if_neg h1, if_neg h1']
      by_cases h2 : x[i] > y[i]
      · have h2' : lessI y[i] x[i] = true := decide_eq_true h2
        rw [if_pos h2, if_pos h2']
      · have h2' : ¬ lessI y[i] x[i] = true := fun h => h2 (of_decide_eq_true h)
        rw [if_neg h2, if_neg h2', e]
        exact ih (i + 1) (by omega) k (by omega)
theorem ref_dims (t0 t1 : Int) (x y : List ByteArray) (m0 m1 : List Int) (hx : x.length < 4611686018427387904) (hy : y.length < 4611686018427387904) : ∀ (n i : Nat), i + n = max x.length y.length → ∀ k, gristmillref04_Compare.l0 (k + 2 * n + 2) (i : Int) t0 x m0 t1 y m1 = if rowC lessS (x.drop i) (y.drop i) = 0 then gristmillref04_Compare.l1 k 0 t0 x m0 t1 y m1 else some (rowC lessS (x.drop i) (y.drop i)) := by
  intro n
  induction n with
  | zero =>
    intro i hi k
    rw [show k + 2 * 0 + 2 = (k + 1) + 1 by omega, gristmillref04_Compare.l0, if_neg (by omega), decide_eq_false (by omega), gristmillref04_Compare.j1, if_neg (by decide), List.drop_of_length_le (by omega : x.length ≤ i), List.drop_of_length_le (by omega : y.length ≤ i)]
    rfl
  | succ n ih =>
    intro i hi k
    have e : wrap64 ((i : Int) + 1) = ((i + 1 : Nat) : Int) := by unfold wrap64; omega
    rw [show k + 2 * (n + 1) + 2 = (k + 2 * n + 2) + 2 by omega]
    have hj : gristmillref04_Compare.l0 ((k + 2 * n + 2) + 2) (i : Int) t0 x m0 t1 y m1 = gristmillref04_Compare.j1 ((k + 2 * n + 2) + 1) (i : Int) true t0 x m0 t1 y m1 := by
      rw [gristmillref04_Compare.l0]
      by_cases h : i < x.length
      · rw [if_pos (by omega)]
      · rw [if_neg (by omega), decide_eq_true (show (i : Int) < (y.length : Int) by omega)]
    rw [hj, gristmillref04_Compare.j1, if_pos rfl]
    by_cases hxi : x.length ≤ i
    · have e2 : rowC lessS ([] : List ByteArray) (y.drop i) = -1 := by rw [rowC_nil, List.length_drop, if_neg (by omega)]
      rw [if_pos (by omega), List.drop_of_length_le hxi, e2, if_neg (by decide)]
    rw [if_neg (by omega)]
    by_cases hyi : y.length ≤ i
    · rw [if_pos (by omega), List.drop_of_length_le hyi, rowC_end _ _ (by rw [List.length_drop]; omega), if_neg (by decide)]
    have h1x : i < x.length := by omega
    have h1y : i < y.length := by omega
    rw [if_neg (by omega), if_pos (by omega), if_pos (by omega), if_pos (by omega), rdS x i h1x, rdS y i h1y, dropc x i h1x, dropc y i h1y, rowC]
    by_cases h1 : lessS x[i] y[i] = true
    · have h1' : Op.bytesLess x[i].toList y[i].toList = true := h1
      rw [if_pos h1', if_pos h1, if_neg (by decide)]
    · have h1' : ¬ Op.bytesLess x[i].toList y[i].toList = true := h1
      rw [if_neg h1', if_neg h1]
      by_cases h2 : lessS y[i] x[i] = true
      · have h2' : Op.bytesLess y[i].toList x[i].toList = true := h2
        rw [if_pos h2', if_pos h2, if_neg (by decide)]
      · have h2' : ¬ Op.bytesLess y[i].toList x[i].toList = true := h2
        rw [if_neg h2', if_neg h2, e]
        exact ih (i + 1) (by omega) k
theorem ref_is (t0 t1 : Int) (d0 d1 : List ByteArray) (m0 m1 : List Int) (hd : d0.length < 4611686018427387904) (hd1 : d1.length < 4611686018427387904) (hm : m0.length < 4611686018427387904) (hm1 : m1.length < 4611686018427387904) (k : Nat) (hk : 2 * (max d0.length d1.length) + 2 * (max m0.length m1.length) + 4 ≤ k) : gristmillref04_Compare.f k t0 d0 m0 t1 d1 m1 = some (factC t0 t1 d0 d1 m0 m1) := by
  have h1 := ref_dims t0 t1 d0 d1 m0 m1 hd hd1 (max d0.length d1.length) 0 (by omega) (k - 2 * (max d0.length d1.length) - 2)
  rw [show k - 2 * (max d0.length d1.length) - 2 + 2 * (max d0.length d1.length) + 2 = k by omega, List.drop_zero, List.drop_zero] at h1
  have h2 := ref_meas t0 t1 d0 d1 m0 m1 hm hm1 (max m0.length m1.length) 0 (by omega) (k - 2 * (max d0.length d1.length) - 2) (by omega)
  rw [List.drop_zero, List.drop_zero] at h2
  have h2' : gristmillref04_Compare.l1 (k - 2 * (max d0.length d1.length) - 2) 0 t0 d0 m0 t1 d1 m1 = some (rowC lessI m0 m1) := h2
  have h1' : gristmillref04_Compare.l0 k 0 t0 d0 m0 t1 d1 m1 = if rowC lessS d0 d1 = 0 then gristmillref04_Compare.l1 (k - 2 * (max d0.length d1.length) - 2) 0 t0 d0 m0 t1 d1 m1 else some (rowC lessS d0 d1) := h1
  unfold gristmillref04_Compare.f factC tC
  rw [h1', h2']
  by_cases ha : t0 < t1
  · rw [if_pos ha, if_pos ha, if_neg (by decide)]
  rw [if_neg ha, if_neg ha]
  by_cases hb : t0 > t1
  · rw [if_pos hb, if_pos hb, if_neg (by decide)]
  rw [if_neg hb, if_neg hb, if_pos rfl]
  split <;> rfl
theorem rowC_self {α : Type} (less : α → α → Bool) (h : ∀ a, less a a = false) : ∀ x : List α, rowC less x x = 0
  | [] => rfl
  | x :: a => by rw [rowC, h x, if_neg (by decide), if_neg (by decide)]; exact rowC_self less h a
theorem factC_self (t : Int) (d : List ByteArray) (m : List Int) : factC t t d d m m = 0 := by
  have e : tC t t = 0 := by unfold tC; simp
  unfold factC
  rw [e, if_pos rfl, rowC_self lessS (fun a => by unfold lessS; rw [Go.Proofs.Ytfeeahjaeapkoaa.Ext.less_dec]; exact decide_eq_false (List.lt_irrefl _)), if_pos rfl, rowC_self lessI (fun a => by unfold lessI; exact decide_eq_false (by omega))]
end Go.Proofs.Ytfeeahjaeapkoaa.Ext
end

section
namespace Go.Proofs.Ytfeeahjaeapkoaa.Ext
set_option linter.unusedVariables false
set_option linter.unusedSimpArgs false
open Go.RowKit Go.Proofs.YtfeeahjaeapkoaaW.PrintWords Go.Proofs.Ytfeeahjaeapkoaa.P
structure TO {α : Type} (less : α → α → Bool) : Prop where
  irr : ∀ a, less a a = false
  tri : ∀ a b, less a b = false → less b a = false → a = b
  trans : ∀ a b c, less a b = true → less b c = true → less a c = true
theorem TO.asym {α : Type} {less : α → α → Bool} (h : TO less) {a b : α} (h1 : less a b = true) : less b a = false := by
  cases h2 : less b a
  · rfl
  · have := h.trans a b a h1 h2
    rw [h.irr] at this
    cases this
theorem to_S : TO lessS where
  irr a := by unfold lessS; rw [less_dec]; exact decide_eq_false (List.lt_irrefl _)
  tri a b h1 h2 := by
    unfold lessS at h1 h2
    rw [less_dec, decide_eq_false_iff_not] at h1 h2
    rcases list_lt_or a.data.toList b.data.toList with h | h | h
    · exact absurd h h1
    · have e : ∀ x : ByteArray, x = ⟨x.data.toList.toArray⟩ := fun x => by cases x; simp
      rw [e a, e b, h]
    · exact absurd h h2
  trans a b c h1 h2 := by
    unfold lessS at h1 h2 ⊢
    rw [less_dec, decide_eq_true_iff] at h1 h2 ⊢
    exact List.lt_trans h1 h2
theorem to_I : TO lessI where
  irr a := by unfold lessI; exact decide_eq_false (by omega)
  tri a b h1 h2 := by
    unfold lessI at h1 h2
    rw [decide_eq_false_iff_not] at h1 h2
    omega
  trans a b c h1 h2 := by
    unfold lessI at h1 h2 ⊢
    rw [decide_eq_true_iff] at h1 h2 ⊢
    omega
theorem rowC_vals {α : Type} (less : α → α → Bool) : ∀ x y : List α, rowC less x y = -1 ∨ rowC less x y = 0 ∨ rowC less x y = 1
  | [], [] => .inr (.inl rfl)
  | [], _ :: _ => .inl rfl
  | _ :: _, [] => .inr (.inr rfl)
  | x :: a, y :: b => by
    rw [rowC]
    by_cases h1 : less x y = true
    · rw [if_pos h1]; exact .inl rfl
    · rw [if_neg h1]
      by_cases h2 : less y x = true
      · rw [if_pos h2]; exact .inr (.inr rfl)
      · rw [if_neg h2]; exact rowC_vals less a b
theorem rowC_eq {α : Type} {less : α → α → Bool} (t : TO less) : ∀ x y : List α, rowC less x y = 0 → x = y
  | [], [], _ => rfl
  | [], _ :: _, h => by cases h
  | _ :: _, [], h => by cases h
  | x :: a, y :: b, h => by
    rw [rowC] at h
    by_cases h1 : less x y = true
    · rw [if_pos h1] at h; cases h
    · rw [if_neg h1] at h
      by_cases h2 : less y x = true
      · rw [if_pos h2] at h; cases h
      · rw [if_neg h2] at h
        rw [t.tri x y (by simpa using h1) (by simpa using h2), rowC_eq t a b h]
theorem rowC_anti {α : Type} {less : α → α → Bool} (t : TO less) : ∀ x y : List α, rowC less y x = - rowC less x y
  | [], [] => rfl
  | [], _ :: _ => rfl
  | _ :: _, [] => rfl
  | x :: a, y :: b => by
    rw [rowC, rowC]
    by_cases h1 : less x y = true
    · rw [if_pos h1, if_neg (by rw [t.asym h1]; decide), if_pos h1]; rfl
    · by_cases h2 : less y x = true
      · rw [if_pos h2, if_neg h1, if_pos h2]
      · rw [if_neg h2, if_neg h1, if_neg h1, if_neg h2]; exact rowC_anti t a b
theorem rowC_trans {α : Type} {less : α → α → Bool} (t : TO less) : ∀ x y z : List α, rowC less x y = -1 → rowC less y z = -1 → rowC less x z = -1
  | [], [], _, h, _ => by cases h
  | [], _ :: _, [], _, h => by cases h
  | [], _ :: _, _ :: _, _, _ => rfl
  | _ :: _, [], _, h, _ => by cases h
  | _ :: _, _ :: _, [], _, h => by cases h
  | x :: a, y :: b, z :: c, h1, h2 => by
    rw [rowC] at h1 h2 ⊢
    by_cases p : less x y = true
    · by_cases q : less y z = true
      · rw [if_pos (t.trans _ _ _ p q)]
      · rw [if_neg q] at h2
        by_cases r : less z y = true
        · rw [if_pos r] at h2; cases h2
        · have e : y = z := t.tri y z (by simpa using q) (by simpa using r)
          rw [← e, if_pos p]
    · rw [if_neg p] at h1
      by_cases p2 : less y x = true
      · rw [if_pos p2] at h1; cases h1
      · rw [if_neg p2] at h1
        have e : x = y := t.tri x y (by simpa using p) (by simpa using p2)
        subst e
        by_cases q : less x z = true
        · rw [if_pos q]
        · rw [if_neg q] at h2 ⊢
          by_cases r : less z x = true
          · rw [if_pos r] at h2; cases h2
          · rw [if_neg r] at h2 ⊢
            exact rowC_trans t a b c h1 h2
abbrev F := Int × List ByteArray × List Int
def fC (a b : F) : Int := factC a.1 b.1 a.2.1 b.2.1 a.2.2 b.2.2
theorem fC_vals (a b : F) : fC a b = -1 ∨ fC a b = 0 ∨ fC a b = 1 := by
  unfold fC factC tC
  have h1 := rowC_vals lessS a.2.1 b.2.1
  have h2 := rowC_vals lessI a.2.2 b.2.2
  split <;> (try split) <;> (try split) <;> omega
theorem fC_self (a : F) : fC a a = 0 := factC_self _ _ _
theorem fC_eq {a b : F} (h : fC a b = 0) : a = b := by
  unfold fC factC at h
  by_cases h1 : tC a.1 b.1 = 0
  · rw [if_pos h1] at h
    by_cases h2 : rowC lessS a.2.1 b.2.1 = 0
    · rw [if_pos h2] at h
      have e1 : a.1 = b.1 := by unfold tC at h1; split at h1 <;> (try split at h1) <;> omega
      have e2 := rowC_eq to_S _ _ h2
      have e3 := rowC_eq to_I _ _ h
      exact Prod.ext e1 (Prod.ext e2 e3)
    · rw [if_neg h2] at h; exact absurd h h2
  · rw [if_neg h1] at h; exact absurd h h1
theorem tC_anti (a b : Int) : tC b a = - tC a b := by
  unfold tC
  by_cases h1 : a < b
  · rw [if_neg (by omega), if_pos (by omega), if_pos h1]; rfl
  · by_cases h2 : b < a
    · rw [if_pos h2, if_neg h1, if_pos (by omega)]
    · rw [if_neg h2, if_neg (by omega), if_neg h1, if_neg (by omega)]; rfl
theorem fC_anti (a b : F) : fC b a = - fC a b := by
  unfold fC factC
  rw [tC_anti a.1 b.1, rowC_anti to_S a.2.1 b.2.1, rowC_anti to_I a.2.2 b.2.2]
  by_cases h1 : tC a.1 b.1 = 0
  · rw [if_pos (by omega), if_pos h1]
    by_cases h2 : rowC lessS a.2.1 b.2.1 = 0
    · rw [if_pos (by omega), if_pos h2]
    · rw [if_neg (by omega), if_neg h2]
  · rw [if_neg (by omega), if_neg h1]
theorem fC_trans {a b c : F} (h1 : fC a b = -1) (h2 : fC b c = -1) : fC a c = -1 := by
  have key : ∀ {a b : F}, fC a b = -1 ↔ (a.1 < b.1 ∨ (a.1 = b.1 ∧ (rowC lessS a.2.1 b.2.1 = -1 ∨ (a.2.1 = b.2.1 ∧ rowC lessI a.2.2 b.2.2 = -1)))) := by
    intro a b
    have v := rowC_vals lessS a.2.1 b.2.1
    have z : a.2.1 = b.2.1 → rowC lessS a.2.1 b.2.1 = 0 := fun e => by rw [e]; exact rowC_self lessS to_S.irr _
    unfold fC factC tC
    by_cases p : a.1 < b.1
    · simp only [if_pos p]
      exact ⟨fun _ => .inl p, fun _ => by rw [if_neg (by decide)]⟩
    · by_cases q : a.1 > b.1
      · simp only [if_neg p, if_pos q]
        constructor
        · intro h; cases h
        · rintro (h | ⟨h, _⟩) <;> omega
      · simp only [if_neg p, if_neg q, if_true]
        by_cases r : rowC lessS a.2.1 b.2.1 = 0
        · have e := rowC_eq to_S _ _ r
          rw [if_pos r]
          exact ⟨fun h => .inr ⟨by omega, .inr ⟨e, h⟩⟩, fun h => by
            rcases h with h | ⟨_, h | ⟨_, h⟩⟩
            · omega
            · omega
            · exact h⟩
        · rw [if_neg r]
          exact ⟨fun h => .inr ⟨by omega, .inl h⟩, fun h => by
            rcases h with h | ⟨_, h | ⟨h, _⟩⟩
            · omega
            · exact h
            · exact absurd (z h) r⟩
  rw [key] at h1 h2 ⊢
  rcases h1 with h1 | ⟨e1, h1⟩
  · rcases h2 with h2 | ⟨e2, _⟩
    · exact .inl (by omega)
    · exact .inl (by omega)
  · rcases h2 with h2 | ⟨e2, h2⟩
    · exact .inl (by omega)
    · refine .inr ⟨by omega, ?_⟩
      rcases h1 with h1 | ⟨d1, h1⟩
      · rcases h2 with h2 | ⟨d2, _⟩
        · exact .inl (rowC_trans to_S _ _ _ h1 h2)
        · exact .inl (by rw [← d2]; exact h1)
      · rcases h2 with h2 | ⟨d2, h2⟩
        · exact .inl (by rw [d1]; exact h2)
        · exact .inr ⟨d1.trans d2, rowC_trans to_I _ _ _ h1 h2⟩
end Go.Proofs.Ytfeeahjaeapkoaa.Ext
end

section
namespace Go.Proofs.Ytfeeahjaeapkoaa.Ext
set_option linter.unusedVariables false
set_option linter.unusedSimpArgs false
open Go.RowKit Go.Proofs.YtfeeahjaeapkoaaW.PrintWords Go.Proofs.Ytfeeahjaeapkoaa.P
def W64 (n : Int) : Int := IntKind.u64.wrap n
theorem W64_is (n : Int) : W64 n = n % 18446744073709551616 := rfl
abbrev M := F × Int
def putB : List M → F → Int → List M
  | [], f, n => [(f, n)]
  | (g, m) :: r, f, n => if fC g f = -1 then (g, m) :: putB r f n else if fC g f = 0 then (f, W64 (m + n)) :: r else (f, n) :: (g, m) :: r
def Strict (b : List M) : Prop := b.Pairwise fun x y => fC x.1 y.1 = -1
def look : List M → F → Option Int
  | [], _ => none
  | (g, m) :: r, f => if fC g f = 0 then some m else look r f
theorem fC_gt {a b : F} (h1 : ¬ fC a b = -1) (h2 : ¬ fC a b = 0) : fC b a = -1 := by
  have := fC_vals a b
  rw [fC_anti a b]; omega
theorem putB_mem : ∀ (b : List M) (f : F) (n : Int) (x : M), x ∈ putB b f n → x.1 = f ∨ x ∈ b
  | [], f, n, x, h => by rw [putB, List.mem_singleton] at h; subst h; exact .inl rfl
  | (g, m) :: r, f, n, x, h => by
    rw [putB] at h
    split at h
    · rcases List.mem_cons.1 h with h | h
      · exact .inr (by simp [h])
      · rcases putB_mem r f n x h with h | h
        · exact .inl h
        · exact .inr (by simp [h])
    · split at h
      · rcases List.mem_cons.1 h with h | h
        · exact .inl (by rw [h])
        · exact .inr (by simp [h])
      · rcases List.mem_cons.1 h with h | h
        · exact .inl (by rw [h])
        · exact .inr h
theorem strict_put : ∀ (b : List M) (f : F) (n : Int), Strict b → Strict (putB b f n)
  | [], f, n, _ => by rw [putB]; exact List.pairwise_singleton _ _
  | (g, m) :: r, f, n, h => by
    have h' := List.pairwise_cons.1 h
    rw [putB]
    by_cases p : fC g f = -1
    · rw [if_pos p]
      refine List.pairwise_cons.2 ⟨fun x hx => ?_, strict_put r f n h'.2⟩
      rcases putB_mem r f n x hx with e | e
      · rw [e]; exact p
      · exact h'.1 x e
    · rw [if_neg p]
      by_cases q : fC g f = 0
      · rw [if_pos q]
        have e := fC_eq q
        refine List.pairwise_cons.2 ⟨fun x hx => ?_, h'.2⟩
        show fC f x.1 = -1
        rw [← e]; exact h'.1 x hx
      · rw [if_neg q]
        have e := fC_gt p q
        refine List.pairwise_cons.2 ⟨fun x hx => ?_, h⟩
        rcases List.mem_cons.1 hx with hx | hx
        · rw [hx]; exact e
        · exact fC_trans e (h'.1 x hx)
theorem look_none : ∀ (b : List M) (f : F), (∀ x ∈ b, fC x.1 f ≠ 0) → look b f = none
  | [], _, _ => rfl
  | (g, m) :: r, f, h => by
    rw [look, if_neg (h (g, m) (by simp))]
    exact look_none r f (fun x hx => h x (by simp [hx]))
theorem look_put : ∀ (b : List M) (f : F) (n : Int) (k : F), Strict b → look (putB b f n) k = if k = f then some (match look b f with | none => n | some m => W64 (m + n)) else look b k
  | [], f, n, k, _ => by
    show (if fC f k = 0 then some n else none) = if k = f then some n else none
    by_cases e : k = f
    · subst e; rw [if_pos (fC_self k), if_pos rfl]
    · rw [if_neg (fun h => e (fC_eq h).symm), if_neg e]
  | (g, m) :: r, f, n, k, h => by
    have h' := List.pairwise_cons.1 h
    rw [putB]
    by_cases p : fC g f = -1
    · have gf : fC g f ≠ 0 := by omega
      rw [if_pos p, look, look_put r f n k h'.2, look, look]
      by_cases e : k = f
      · subst e
        rw [if_neg gf, if_pos rfl, if_pos rfl, if_neg gf]
      · rw [if_neg e, if_neg e]
    · rw [if_neg p]
      by_cases q : fC g f = 0
      · have e := fC_eq q
        subst e
        rw [if_pos q, look, look, look, if_pos q]
        by_cases e : k = g
        · subst e; rw [if_pos q, if_pos rfl]
        · rw [if_neg (fun h => e (fC_eq h).symm), if_neg e, if_neg (fun h => e (fC_eq h).symm)]
      · have fg := fC_gt p q
        have hno : look ((g, m) :: r) f = none := look_none _ _ (fun x hx hz => by
          have e := fC_eq hz
          rcases List.mem_cons.1 hx with hx | hx
          · rw [hx] at hz; exact q hz
          · have h1 := fC_trans fg (h'.1 x hx)
            rw [e, fC_self] at h1
            cases h1)
        rw [if_neg q, look, hno]
        by_cases e : k = f
        · subst e; rw [if_pos (fC_self k), if_pos rfl]
        · rw [if_neg (fun h => e (fC_eq h).symm), if_neg e]
theorem strict_ext : ∀ (b c : List M), Strict b → Strict c → (∀ f, look b f = look c f) → b = c
  | [], [], _, _, _ => rfl
  | [], (g, m) :: r, _, _, h => by have := h g; rw [look, look, if_pos (fC_self g)] at this; cases this
  | (g, m) :: r, [], _, _, h => by have := h g; rw [look, look, if_pos (fC_self g)] at this; cases this
  | (g, m) :: r, (k, n) :: s, h1, h2, h => by
    have h1' := List.pairwise_cons.1 h1
    have h2' := List.pairwise_cons.1 h2
    have hgk : g = k := by
      rcases fC_vals g k with p | p | p
      · have hn : look ((k, n) :: s) g = none := look_none _ _ (fun x hx hz => by
          have e := fC_eq hz
          rcases List.mem_cons.1 hx with hx | hx
          · rw [hx] at e
            have e' : k = g := e
            rw [e', fC_self] at p; cases p
          · have h3 := fC_trans p (h2'.1 x hx)
            rw [e, fC_self] at h3; cases h3)
        have := h g
        rw [hn, look, if_pos (fC_self g)] at this
        cases this
      · exact fC_eq p
      · have p' : fC k g = -1 := by rw [fC_anti g k, p]
        have hn : look ((g, m) :: r) k = none := look_none _ _ (fun x hx hz => by
          have e := fC_eq hz
          rcases List.mem_cons.1 hx with hx | hx
          · rw [hx] at e
            have e' : g = k := e
            rw [e', fC_self] at p; cases p
          · have h3 := fC_trans p' (h1'.1 x hx)
            rw [e, fC_self] at h3; cases h3)
        have := h k
        rw [hn, look, if_pos (fC_self k)] at this
        cases this
    subst hgk
    have hmn := h g
    rw [look, look, if_pos (fC_self g), if_pos (fC_self g)] at hmn
    have hmn := Option.some.inj hmn
    subst hmn
    rw [strict_ext r s h1'.2 h2'.2 (fun f => by
      have := h f
      rw [look, look] at this
      by_cases e : fC g f = 0
      · have e' := fC_eq e
        subst e'
        rw [look_none r g (fun x hx hz => by have h3 := h1'.1 x hx; rw [fC_eq hz, fC_self] at h3; cases h3), look_none s g (fun x hx hz => by have h3 := h2'.1 x hx; rw [fC_eq hz, fC_self] at h3; cases h3)]
      · rw [if_neg e, if_neg e] at this
        exact this)]
theorem put_comm (b : List M) (h : Strict b) (f : F) (n : Int) (g : F) (m : Int) : putB (putB b f n) g m = putB (putB b g m) f n := by
  refine strict_ext _ _ (strict_put _ _ _ (strict_put _ _ _ h)) (strict_put _ _ _ (strict_put _ _ _ h)) (fun k => ?_)
  rw [look_put _ g m k (strict_put _ _ _ h), look_put _ f n k (strict_put _ _ _ h), look_put b f n g h, look_put b g m f h, look_put b f n k h, look_put b g m k h]
  by_cases e : f = g
  · subst e
    by_cases ek : k = f
    · subst ek
      simp only [if_true]
      cases look b k with
      | none => simp only [W64_is]; rw [Int.add_comm]
      | some a => simp only [W64_is, Option.some.injEq]; rw [Int.emod_add_emod, Int.emod_add_emod, Int.add_right_comm]
    · simp only [if_neg ek]
  · by_cases e1 : k = g
    · subst e1
      rw [if_pos rfl, if_neg (fun h => e h.symm), if_neg (fun h => e h.symm), if_pos rfl]
    · by_cases e2 : k = f
      · subst e2
        rw [if_neg e1, if_pos rfl, if_pos rfl, if_neg e1]
      · rw [if_neg e1, if_neg e2, if_neg e2, if_neg e1]
def bagB (b : List M) (l : List M) : List M := l.foldl (fun b x => putB b x.1 x.2) b
theorem bagB_strict : ∀ (l b : List M), Strict b → Strict (bagB b l)
  | [], b, h => h
  | x :: l, b, h => bagB_strict l _ (strict_put _ _ _ h)
theorem bagB_perm {l k : List M} (h : l.Perm k) : ∀ b, Strict b → bagB b l = bagB b k := by
  induction h with
  | nil => intro b _; rfl
  | cons x _ ih => intro b hb; exact ih _ (strict_put _ _ _ hb)
  | swap x y l => intro b hb; show bagB (putB (putB b y.1 y.2) x.1 x.2) l = bagB (putB (putB b x.1 x.2) y.1 y.2) l; rw [put_comm b hb]
  | trans _ _ ih1 ih2 => intro b hb; rw [ih1 b hb, ih2 b hb]
theorem put_last : ∀ (b : List M) (f : F) (n : Int), (∀ x ∈ b, fC x.1 f = -1) → putB b f n = b ++ [(f, n)]
  | [], f, n, _ => rfl
  | (g, m) :: r, f, n, h => by
    rw [putB, if_pos (h (g, m) (by simp)), put_last r f n (fun x hx => h x (by simp [hx]))]
    rfl
theorem put_same : ∀ (b : List M) (f : F) (m n : Int), (∀ x ∈ b, fC x.1 f = -1) → putB (b ++ [(f, m)]) f n = b ++ [(f, W64 (m + n))]
  | [], f, m, n, _ => by
    show putB [(f, m)] f n = _
    rw [putB, if_neg (by rw [fC_self]; decide), if_pos (fC_self f)]; rfl
  | (g, k) :: r, f, m, n, h => by
    show putB ((g, k) :: (r ++ [(f, m)])) f n = _
    rw [putB, if_pos (h (g, k) (by simp)), put_same r f m n (fun x hx => h x (by simp [hx]))]
    rfl
end Go.Proofs.Ytfeeahjaeapkoaa.Ext
end

section
namespace Go.Proofs.Ytfeeahjaeapkoaa.Lib
set_option linter.unusedVariables false
set_option linter.unusedSimpArgs false
open Go.RowKit Go.Proofs.YtfeeahjaeapkoaaW.PrintWords
def Bytes (xs : List Int) : Prop := ∀ x ∈ xs, 0 ≤ x ∧ x < 256
theorem Bytes.nil : Bytes [] := fun _ h => by cases h
theorem Bytes.append {xs ys : List Int} (h : Bytes xs) (h2 : Bytes ys) : Bytes (xs ++ ys) := fun x hx => by
  rcases List.mem_append.1 hx with hx | hx
  · exact h x hx
  · exact h2 x hx
theorem Bytes.cons {x : Int} {xs : List Int} (h0 : 0 ≤ x ∧ x < 256) (h : Bytes xs) : Bytes (x :: xs) := fun y hy => by
  rcases List.mem_cons.1 hy with rfl | hy
  · exact h0
  · exact h y hy
theorem Bytes.take {xs : List Int} (h : Bytes xs) (n : Nat) : Bytes (xs.take n) := fun x hx => h x (List.mem_of_mem_take hx)
theorem Bytes.drop {xs : List Int} (h : Bytes xs) (n : Nat) : Bytes (xs.drop n) := fun x hx => h x (List.mem_of_mem_drop hx)
theorem Bytes.getD {xs : List Int} (h : Bytes xs) (k : Nat) : 0 ≤ xs.getD k 0 ∧ xs.getD k 0 < 256 := by
  rw [List.getD_eq_getElem?_getD]
  by_cases hk : k < xs.length
  · rw [List.getElem?_eq_getElem hk]; exact h _ (List.getElem_mem hk)
  · rw [List.getElem?_eq_none (by omega)]; exact ⟨by decide, by decide⟩
theorem Bytes.rd {xs : List Int} (h : Bytes xs) (i : Int) : 0 ≤ rd xs i ∧ rd xs i < 256 := h.getD i.toNat
theorem wraps_u64 (n : Int) (h₀ : 0 ≤ n) (h₁ : n < 2 ^ 64) : IntKind.u64.wrap n = n := by
  simp only [IntKind.wrap, IntKind.bits, IntKind.signed]
  simp
  omega
section
variable {P : Program} {ops : Array Oper} {rest : List Oper} {o : Oper} {a : Act} {Q : Exit → Act → World → Prop}
end
end Go.Proofs.Ytfeeahjaeapkoaa.Lib
end

section
namespace Go.Proofs.Ytfeeahjaeapkoaa.Lib
set_option linter.unusedVariables false
set_option linter.unusedSimpArgs false
open Go.RowKit Go.Proofs.YtfeeahjaeapkoaaW.PrintWords Go.Proofs.YtfeeahjaeapkoaaW.PrintLast
section
variable {P : Program} {ops : Array Oper} {Q : Exit → Act → World → Prop} {md : Region.Mode} {S S' : World → Prop}
theorem goesv_ {oi : Oper} {N : Option Tmp} {a : Act} {w : World} {K : Act → World → Prop} {f : FuncId} {fn : Func} {x : Operand} {ars : Array Operand} {ts : Array TypeId} {first cap : Array Value} (hf : P.funcs[f]? = some fn) (hname : (fn.name == "runtime.NumGoroutine") = false) (hb : fn.body.isSome = true) (args : Array Value)
    (hw : Region.wanted oi (yielded ops a.tmps) = true) (hN : oi.dst = N) (hop : oi.op = .call { callee := .value x, args := ars, argTypes := ts }) (hx : a.eval x = .func (.func f) first cap) (hargs : ars.map a.eval = args)
    (h : Calls P f (first ++ args ++ cap) w fun e w' => ∃ v, e = .returned v ∧ K (a.put N v) w') : if Region.wanted oi (yielded ops a.tmps) = true then Oper.wp P oi a w K Q else K (a.put N undef) w := by
  refine call_ f (first ++ args ++ cap) hw hN ?_ h
  have he := enters_ hf hname hb (first ++ args ++ cap) w
  unfold execOp
  simp [hop, resolve, Deferred.ofValue, hx, invoke, hargs, he, -Array.append_assoc]
end
section
variable {P : Program} {ops : Array Oper} {Q : Exit → Act → World → Prop}
theorem goesLv_ {rest : List Oper} {oi : Oper} {a : Act} {w : World} (N : Option Tmp) (hd : oi.dst = N) (hg : oi.guard = none) {f : FuncId} {fn : Func} {x : Operand} {ars : Array Operand} {ts : Array TypeId} {first cap : Array Value} (hf : P.funcs[f]? = some fn) (hname : (fn.name == "runtime.NumGoroutine") = false) (hb : fn.body.isSome = true) (args : Array Value)
    (hop : oi.op = .call { callee := .value x, args := ars, argTypes := ts }) (hx : a.eval x = .func (.func f) first cap) (hargs : ars.map a.eval = args)
    (h : Calls P f (first ++ args ++ cap) w fun e w' => ∃ v, e = .returned v ∧ wpList P ops Q rest (a.put N v) w') : wpList P ops Q (oi :: rest) a w := by
  refine wpList_plain hg fun K hK => ?_
  have he := enters_ hf hname hb (first ++ args ++ cap) w
  have hrun : (execOp a.eval oi).run P w = .ok (.enter f (first ++ args ++ cap)) w := by
    unfold execOp
    simp [hop, resolve, Deferred.ofValue, hx, invoke, hargs, he, -Array.append_assoc]
  unfold Oper.wp
  rw [hrun, Oper.upon_enter]
  refine h.mono fun e w'' hh => ?_
  obtain ⟨v, rfl, hk⟩ := hh
  rw [hd]
  exact hK _ _ hk
end
end Go.Proofs.Ytfeeahjaeapkoaa.Lib
end

section
namespace Go.Proofs.Ytfeeahjaeapkoaa.Ext
set_option linter.unusedVariables false
set_option linter.unusedSimpArgs false
open Go.RowKit Go.Proofs.YtfeeahjaeapkoaaW.PrintWords Go.Proofs.YtfeeahjaeapkoaaW.PrintLast Go.Proofs.YtfeeahjaeapkoaaW.PrintMore Go.Proofs.Ytfeeahjaeapkoaa.Lib
abbrev SL := Option Addr × Nat × Nat
def encSL (s : SL) : Value := .slice s.1 s.2.1 s.2.2
def kS : Kd SL := Kd.scalar encSL (fun _ => rfl)
abbrev Q := Int × SL × SL × Int
def kq : Kd Q := Kd.pair (Kd.int .i64) (Kd.pair kS (Kd.pair kS (Kd.int .u64)))
def encQ (q : Q) : List Value := [.int .i64 q.1, encSL q.2.1, encSL q.2.2.1, .int .u64 q.2.2.2]
def zQ : Q := (0, (none, 0, 0), (none, 0, 0), 0)
theorem kq_M {w : World} {base : Nat} {ok : Nat → Prop} {q : Q} {cs : List Value} : kq.M w base ok q cs ↔ cs = encQ q := by
  constructor
  · rintro ⟨_, _, rfl, rfl, _, _, rfl, rfl, _, _, rfl, rfl, rfl⟩; rfl
  · rintro rfl; exact ⟨[_], _, rfl, rfl, [_], _, rfl, rfl, [_], [_], rfl, rfl, rfl⟩
theorem kq_get {w : World} {base : Nat} {ok : Nat → Prop} {g n c : Nat} {xs : List Q} {e : TypeId} (h : kq.R e w base ok (.slice (some ⟨g, 0, none⟩) n c) xs) (i : Nat) (hi : i < n) :
    w.cell? ⟨g, i * 4, none⟩ = some (.int .i64 (xs.getD i zQ).1) ∧ w.cell? ⟨g, i * 4 + 1, none⟩ = some (encSL (xs.getD i zQ).2.1) ∧ w.cell? ⟨g, i * 4 + 2, none⟩ = some (encSL (xs.getD i zQ).2.2.1) ∧ w.cell? ⟨g, i * 4 + 3, none⟩ = some (.int .u64 (xs.getD i zQ).2.2.2) := by
  obtain ⟨cs, hcl, hM, hcc⟩ := Kd.R_getA h zQ (i : Int) (by omega) (by omega)
  rw [Int.toNat_natCast] at hM hcc
  have e1 := kq_M.1 hM
  subst e1
  have e4 : kq.sz = 4 := rfl
  have key : ∀ j u, (encQ (xs.getD i zQ))[j]? = some u → w.cell? ⟨g, i * 4 + j, none⟩ = some u := fun j u hu => by
    have := hcc j u hu
    rw [e4, add_at, Nat.zero_add] at this
    exact this
  exact ⟨key 0 _ rfl, key 1 _ rfl, key 2 _ rfl, key 3 _ rfl⟩
theorem kq_put {w : World} {base : Nat} {ok : Nat → Prop} {g n c : Nat} {xs : List Q} {e : TypeId} (h : kq.R e w base ok (.slice (some ⟨g, 0, none⟩) n c) xs) (i : Nat) (hi : i < n) (x : Q) :
    kq.R e (w.setCells g (i * 4) (encQ x)) base ok (.slice (some ⟨g, 0, none⟩) n c) (xs.set i x) ∧ w.grownBy (w.setCells g (i * 4) (encQ x)) (some g) := by
  obtain ⟨cs, hcl, hM, hcc⟩ := Kd.R_getA h zQ (i : Int) (by omega) (by omega)
  have e4 : kq.sz = 4 := rfl
  have hl : cs.length = 4 := hcl
  have := Kd.R_seg h (i : Int) (by omega) (by omega) (c := cs) (seg := encQ x) (j := 0) (x' := x) (okp := fun _ => False) hcl (fun j u hu => by have := hcc j u hu; rw [add_at, Nat.zero_add] at this; rw [Int.toNat_natCast]; exact this) (by rw [e4]; exact Nat.le_refl _)
    (kq_M.2 (by
      have e5 : (encQ x).length = 4 := rfl
      rw [List.take_zero, List.nil_append, e5, Nat.zero_add, List.drop_of_length_le (by omega), List.append_nil])) (fun _ hk => hk.elim)
  rw [Int.toNat_natCast, e4, Nat.add_zero] at this
  exact this
def insJ (cf : Q → Q → Int) (a : Nat) : Nat → List Q → List Q
  | 0, xs => xs
  | j + 1, xs => if a < j + 1 ∧ cf (xs.getD (j + 1) zQ) (xs.getD j zQ) < 0 then insJ cf a j ((xs.set (j + 1) (xs.getD j zQ)).set j (xs.getD (j + 1) zQ)) else xs
def insI (cf : Q → Q → Int) (a : Nat) : Nat → Nat → List Q → List Q
  | 0, _, xs => xs
  | n + 1, i, xs => insI cf a n (i + 1) (insJ cf a i xs)
theorem insJ_length (cf : Q → Q → Int) (a : Nat) : ∀ (j : Nat) (xs : List Q), (insJ cf a j xs).length = xs.length
  | 0, xs => rfl
  | j + 1, xs => by
    rw [insJ]
    split
    · rw [insJ_length cf a j]; simp
    · rfl
theorem swap_perm (xs : List Q) (j : Nat) (h : j + 1 < xs.length) : ((xs.set (j + 1) (xs.getD j zQ)).set j (xs.getD (j + 1) zQ)).Perm xs := by
  have h1 : xs.getD j zQ = xs[j] := by rw [List.getD_eq_getElem?_getD, List.getElem?_eq_getElem (by omega)]; rfl
  have h2 : xs.getD (j + 1) zQ = xs[j + 1] := by rw [List.getD_eq_getElem?_getD, List.getElem?_eq_getElem h]; rfl
  rw [h1, h2]
  have e : xs = xs.take j ++ xs[j] :: xs[j + 1] :: xs.drop (j + 2) := by
    rw [← List.drop_eq_getElem_cons h, ← List.drop_eq_getElem_cons (by omega : j < xs.length), List.take_append_drop]
  have e2 : (xs.set (j + 1) xs[j]).set j xs[j + 1] = xs.take j ++ xs[j + 1] :: xs[j] :: xs.drop (j + 2) := by
    refine List.ext_getElem? (fun i => ?_)
    have hl : (xs.take j).length = j := by rw [List.length_take]; omega
    rw [List.getElem?_set, List.getElem?_set, List.getElem?_append, hl]
    by_cases c1 : i < j
    · rw [if_neg (by omega), if_neg (by omega), if_pos c1, List.getElem?_take, if_pos c1]
    · rw [if_neg c1]
      by_cases c2 : i = j
      · subst c2
        rw [if_pos rfl, if_pos (by rw [List.length_set]; omega), Nat.sub_self]; rfl
      · rw [if_neg (by omega)]
        by_cases c3 : i = j + 1
        · subst c3
          rw [if_pos rfl, if_pos h, show j + 1 - j = 1 by omega]; rfl
        · rw [if_neg (by omega), show i - j = (i - (j + 2)) + 2 by omega]
          simp only [List.getElem?_cons_succ, List.getElem?_drop]
          rw [show j + 2 + (i - (j + 2)) = i by omega]
  rw [e2]
  conv => rhs; rw [e]
  exact List.Perm.append_left _ (List.Perm.swap _ _ _)
end Go.Proofs.Ytfeeahjaeapkoaa.Ext
end

section
namespace Go.Proofs.Ytfeeahjaeapkoaa.Ext
set_option linter.unusedVariables false
set_option linter.unusedSimpArgs false
open Go.RowKit Go.Proofs.YtfeeahjaeapkoaaW.PrintWords Go.Proofs.YtfeeahjaeapkoaaW.PrintLast Go.Proofs.YtfeeahjaeapkoaaW.PrintMore Go.Proofs.Ytfeeahjaeapkoaa.Lib
structure RS (w w' : World) (base : Nat) (ok : Nat → Prop) (g n c : Nat) (xs ys : List Q) : Prop where
  row : kq.R 40 w' base ok (.slice (some ⟨g, 0, none⟩) n c) ys
  perm : ys.Perm xs
  grown : w.grownBy w' (some g)
def CmpOk (f : FuncId) (cf : Q → Q → Int) (w : World) (g : Nat) (xs : List Q) : Prop :=
  ∀ w', w.grownBy w' (some g) → ∀ p ∈ xs, ∀ q ∈ xs, Calls Try.prog f (#[] ++ #[.agg #[.int .i64 p.1, .slice p.2.1.1 p.2.1.2.1 p.2.1.2.2, .slice p.2.2.1.1 p.2.2.1.2.1 p.2.2.1.2.2, .int .u64 p.2.2.2], .agg #[.int .i64 q.1, .slice q.2.1.1 q.2.1.2.1 q.2.1.2.2, .slice q.2.2.1.1 q.2.2.1.2.1 q.2.2.1.2.2, .int .u64 q.2.2.2]] ++ #[]) w' fun e w'' => e = .returned (.int .i64 (cf p q)) ∧ Below w'.heap.size w' w''
theorem grown_drew {w w' : World} {r : Option Nat} (h : w.grownBy w' r) : w.grownBy w'.drew r := ⟨h.os, h.tape, h.output, h.size, h.block⟩
theorem grown_below {w w' w2 : World} {r : Option Nat} (h : w.grownBy w' r) (hb : Below w'.heap.size w' w2) : w.grownBy w2 r := ⟨hb.os.trans h.os, hb.tape.trans h.tape, hb.output.trans h.output, Nat.le_trans h.size hb.size, fun k hk hne => (hb.block k (Nat.lt_of_lt_of_le hk h.size)).trans (h.block k hk hne)⟩
theorem RS.below {w w' w2 : World} {base : Nat} {ok : Nat → Prop} {g n c : Nat} {xs ys : List Q} (h : RS w w' base ok g n c xs ys) (hb : Below w'.heap.size w' w2) : RS w w2 base ok g n c xs ys := ⟨Kd.R_below h.row hb, h.perm, grown_below h.grown hb⟩
theorem grown_trans {w w' w2 : World} {r : Option Nat} (h : w.grownBy w' r) (hb : w'.grownBy w2 r) : w.grownBy w2 r := ⟨hb.os.trans h.os, hb.tape.trans h.tape, hb.output.trans h.output, Nat.le_trans h.size hb.size, fun k hk hne => (hb.block k (Nat.lt_of_lt_of_le hk h.size) hne).trans (h.block k hk hne)⟩
theorem grown_drews {w w' : World} {r : Option Nat} (h : w.grownBy w' r) (m : Nat) : w.grownBy (w'.drewN m) r := ⟨h.os, h.tape, h.output, h.size, h.block⟩
theorem RS.drewN {w w' : World} {base : Nat} {ok : Nat → Prop} {g n c : Nat} {xs ys : List Q} (h : RS w w' base ok g n c xs ys) (m : Nat) : RS w (w'.drewN m) base ok g n c xs ys := ⟨Kd.R_drewN h.row m, h.perm, grown_drews h.grown m⟩
theorem set4 (w : World) (g o : Nat) (q : Q) : w.setCells g o (encQ q) = ((((w.setCell ⟨g, o, none⟩ (.int .i64 q.1)).setCell ⟨g, o + 1, none⟩ (.slice q.2.1.1 q.2.1.2.1 q.2.1.2.2)).setCell ⟨g, o + 2, none⟩ (.slice q.2.2.1.1 q.2.2.1.2.1 q.2.2.1.2.2)).setCell ⟨g, o + 3, none⟩ (.int .u64 q.2.2.2)) := rfl
theorem RS.swap {w w' : World} {base : Nat} {ok : Nat → Prop} {g n c : Nat} {xs zs : List Q} (h : RS w w' base ok g n c xs zs) (j : Nat) (hj : j + 1 < n) (p q : Q) (hp : ((zs.set (j + 1) q).set j p).Perm zs) :
    RS w ((((((((w'.setCell ⟨g, (j + 1) * 4, none⟩ (.int .i64 q.1)).setCell ⟨g, (j + 1) * 4 + 1, none⟩ (.slice q.2.1.1 q.2.1.2.1 q.2.1.2.2)).setCell ⟨g, (j + 1) * 4 + 2, none⟩ (.slice q.2.2.1.1 q.2.2.1.2.1 q.2.2.1.2.2)).setCell ⟨g, (j + 1) * 4 + 3, none⟩ (.int .u64 q.2.2.2)).setCell ⟨g, j * 4, none⟩ (.int .i64 p.1)).setCell ⟨g, j * 4 + 1, none⟩ (.slice p.2.1.1 p.2.1.2.1 p.2.1.2.2)).setCell ⟨g, j * 4 + 2, none⟩ (.slice p.2.2.1.1 p.2.2.1.2.1 p.2.2.1.2.2)).setCell ⟨g, j * 4 + 3, none⟩ (.int .u64 p.2.2.2)) base ok g n c xs ((zs.set (j + 1) q).set j p) := by
  obtain ⟨r1, g1⟩ := kq_put h.row (j + 1) hj q
  obtain ⟨r2, g2⟩ := kq_put r1 j (by omega) p
  have := (show RS w ((w'.setCells g ((j + 1) * 4) (encQ q)).setCells g (j * 4) (encQ p)) base ok g n c xs ((zs.set (j + 1) q).set j p) from ⟨r2, hp.trans h.perm, grown_trans (grown_trans h.grown g1) g2⟩)
  rw [set4, set4] at this
  exact this
theorem RS.drew {w w' : World} {base : Nat} {ok : Nat → Prop} {g n c : Nat} {xs ys : List Q} (h : RS w w' base ok g n c xs ys) : RS w w'.drew base ok g n c xs ys := ⟨Kd.R_drew h.row, h.perm, grown_drew h.grown⟩
theorem insJ_stop (cf : Q → Q → Int) (a : Nat) : ∀ (j : Nat) (zs : List Q), ¬ a < j → insJ cf a j zs = zs
  | 0, zs, _ => rfl
  | j + 1, zs, h => by rw [insJ, if_neg (fun hh => h hh.1)]
set_option maxRecDepth 100000 in
set_option maxHeartbeats 1600000 in
theorem ins_calls (cf : Q → Q → Int) (f : FuncId) (fn : Func) (hf : Try.prog.funcs[f]? = some fn) (hname : (fn.name == "runtime.NumGoroutine") = false) (hbody : fn.body.isSome = true) (g c n a b : Nat) (xs : List Q) (w : World) (base : Nat) (ok : Nat → Prop)
    (hrow : kq.R 40 w base ok (.slice (some ⟨g, 0, none⟩) n c) xs) (hab : a ≤ b) (hb : b ≤ n) (hn : n ≤ 1152921504606846976) (hcmp : CmpOk f cf w g xs) (hg0 : w.grownBy w (some g)) :
    Calls Try.prog 57 #[.slice (some ⟨g, 0, none⟩) n c, .int .i64 a, .int .i64 b, .func (.func f) #[] #[]] w fun e w' => e = .returned (.tuple #[]) ∧ RS w w' base ok g n c xs (insI cf a (b - (a + 1)) (a + 1) xs) := by
  have HF := Aside0.mk hf
  have HNm := Aside0.mk hname
  have HBd := Aside0.mk hbody
  have HCmp := Aside0.mk hcmp
  have HR := Aside0.mk (show RS w w base ok g n c xs xs from ⟨hrow, List.Perm.refl _, hg0⟩)
  have HN := Aside0.mk (show n = xs.length from (Kd.R_reads' hrow).1)
  clear hf hname hbody hcmp hrow hg0
  go_enter Try.func57, Try.ntmps57
  go_wp2_with fail
  go_loopw [8] (fun v8 w' => ∃ (i : Nat) (ys : List Q), a + 1 ≤ i ∧ (i ≤ b ∨ i = a + 1) ∧ v8 = .int .i64 i ∧ Aside0 (insI cf a (b - i) i ys = insI cf a (b - (a + 1)) (a + 1) xs) ∧ Aside0 (RS w w' base ok g n c xs ys)) (fun v8 _ => b - (intOf v8).toNat)
  case atStart => exact ⟨a + 1, xs, Nat.le_refl _, .inr rfl, by go_num, ⟨rfl⟩, HR⟩
  case round =>
    clear HR
    obtain ⟨i, ys, hi1, hi2, rfl, HI, HR⟩ := hrel
    by_cases hlt : i < b
    · have hii : (i : Int) < (b : Int) := by omega
      have HI2 := Aside0.mk (show insI cf a (b - (i + 1)) (i + 1) (insJ cf a i ys) = insI cf a (b - (a + 1)) (a + 1) xs by
        have := HI.out
        rw [show b - i = (b - (i + 1)) + 1 by omega, insI] at this
        exact this)
      clear HI
      go_wp2_with fail
      go_loopw [9] (fun v9 w' => ∃ (j : Nat) (zs : List Q), j ≤ i ∧ v9 = .int .i64 j ∧ Aside0 (insJ cf a j zs = insJ cf a i ys) ∧ Aside0 (RS w w' base ok g n c xs zs)) (fun v9 _ => (intOf v9).toNat)
      case atStart => exact ⟨i, ys, Nat.le_refl _, rfl, ⟨rfl⟩, HR⟩
      case round =>
        clear HR
        obtain ⟨j, zs, hj, rfl, HJ, HR⟩ := hrel
        by_cases haj : a < j
        · obtain ⟨j, rfl⟩ : ∃ j', j = j' + 1 := ⟨j - 1, by omega⟩
          have c1 := kq_get HR.out.row (j + 1) (by omega)
          have c0 := kq_get HR.out.row j (by omega)
          have hm1 : zs.getD (j + 1) zQ ∈ xs := HR.out.perm.mem_iff.1 (by
            have := HN.out; have := HR.out.perm.length_eq
            rw [List.getD_eq_getElem?_getD, List.getElem?_eq_getElem (by omega)]; exact List.getElem_mem _)
          have hm0 : zs.getD j zQ ∈ xs := HR.out.perm.mem_iff.1 (by
            have := HN.out; have := HR.out.perm.length_eq
            rw [List.getD_eq_getElem?_getD, List.getElem?_eq_getElem (by omega)]; exact List.getElem_mem _)
          have HC := Aside0.mk (fun w' (h : w.grownBy w' (some g)) => HCmp.out w' h _ hm1 _ hm0)
          have HSw := Aside0.mk (swap_perm zs j (by have := HN.out; have := HR.out.perm.length_eq; omega))
          have HJ2 := Aside0.mk (show insJ cf a (j + 1) zs = if a < j + 1 ∧ cf (zs.getD (j + 1) zQ) (zs.getD j zQ) < 0 then insJ cf a j ((zs.set (j + 1) (zs.getD j zQ)).set j (zs.getD (j + 1) zQ)) else zs from rfl)
          obtain ⟨d10, d11, d12, d13⟩ := c1
          obtain ⟨d00, d01, d02, d03⟩ := c0
          simp only [encSL] at d11 d12 d01 d02
          generalize zs.getD (j + 1) zQ = p at *
          generalize zs.getD j zQ = q at *
          clear hm1 hm0
          go_wp2_with fail
          have hga : (a : Int) < (j : Int) + 1 := by omega
          have hjn : (j : Int) + 1 < (n : Int) := by omega
          have hjn0 : (j : Int) < (n : Int) := by omega
          have hj0 : (0 : Int) ≤ (j : Int) + 1 := by omega
          have hw1 : wrap64 (j : Int) = (j : Int) := by unfold wrap64; omega
          refine start_ (n := 17) (S := fun w' => w'.cell? ⟨g, (j + 1) * 4, none⟩ = some (.int .i64 p.1) ∧ w'.cell? ⟨g, (j + 1) * 4 + 1, none⟩ = some (.slice p.2.1.1 p.2.1.2.1 p.2.1.2.2) ∧ w'.cell? ⟨g, (j + 1) * 4 + 2, none⟩ = some (.slice p.2.2.1.1 p.2.2.1.2.1 p.2.2.1.2.2) ∧ w'.cell? ⟨g, (j + 1) * 4 + 3, none⟩ = some (.int .u64 p.2.2.2) ∧ w'.cell? ⟨g, j * 4, none⟩ = some (.int .i64 q.1) ∧ w'.cell? ⟨g, j * 4 + 1, none⟩ = some (.slice q.2.1.1 q.2.1.2.1 q.2.1.2.2) ∧ w'.cell? ⟨g, j * 4 + 2, none⟩ = some (.slice q.2.2.1.1 q.2.2.1.2.1 q.2.2.1.2.2) ∧ w'.cell? ⟨g, j * 4 + 3, none⟩ = some (.int .u64 q.2.2.2)) (ds := []) #[false, false, false, false, false, false, false, false, false, false, false, false, false, false, false, false, false] (by kernel_rfl) rfl rfl ⟨d10, d11, d12, d13, d00, d01, d02, d03⟩ (fun hHeld => ?_)
          refine pure_ (i := 0) (N := some 18) (v := ?_) (a' := ?_) #[true, false, false, false, false, false, false, false, false, false, false, false, false, false, false, false, false] rfl rfl (by kernel_rfl) (fun _ _ _ h => h) (Or.inl ⟨by rfl, ?_⟩) ?_ ?_
          rotate_left
          · intro w'
            go_simp
            with_reducible rfl
          rotate_left
          · simp only [Act.put, List.setIfInBounds_toArray, List.set_cons_zero, List.set_cons_succ, i64_w, i32_w]
            rfl
          refine pure_ (i := 1) (N := some 19) (v := ?_) (a' := ?_) #[true, true, false, false, false, false, false, false, false, false, false, false, false, false, false, false, false] rfl rfl (by kernel_rfl) (fun _ _ _ h => h) (Or.inl ⟨by rfl, ?_⟩) ?_ ?_
          rotate_left
          · intro w'
            go_simp
            with_reducible rfl
          rotate_left
          · simp only [Act.put, List.setIfInBounds_toArray, List.set_cons_zero, List.set_cons_succ, i64_w, i32_w]
            rfl
          refine pure_ (i := 2) (N := some 20) (v := ?_) (a' := ?_) #[true, true, true, false, false, false, false, false, false, false, false, false, false, false, false, false, false] rfl rfl (by kernel_rfl) (fun _ _ _ h => h) (Or.inl ⟨by rfl, ?_⟩) ?_ ?_
          rotate_left
          · intro w'
            go_simp
            with_reducible rfl
          rotate_left
          · simp only [Act.put, List.setIfInBounds_toArray, List.set_cons_zero, List.set_cons_succ, i64_w, i32_w]
            rfl
          refine pure_ (i := 3) (N := some 21) (v := ?_) (a' := ?_) #[true, true, true, true, false, false, false, false, false, false, false, false, false, false, false, false, false] rfl rfl (by kernel_rfl) (fun _ _ _ h => h) (Or.inl ⟨by rfl, ?_⟩) ?_ ?_
          rotate_left
          · intro w'
            go_simp
            with_reducible rfl
          rotate_left
          · simp only [Act.put, List.setIfInBounds_toArray, List.set_cons_zero, List.set_cons_succ, i64_w, i32_w]
            rfl
          refine pure_ (i := 4) (N := some 22) (v := ?_) (a' := ?_) #[true, true, true, true, true, false, false, false, false, false, false, false, false, false, false, false, false] rfl rfl (by kernel_rfl) (fun _ _ _ h => h) (Or.inl ⟨by rfl, ?_⟩) ?_ ?_
          rotate_left
          · intro w'
            go_simp
            with_reducible rfl
          rotate_left
          · simp only [Act.put, List.setIfInBounds_toArray, List.set_cons_zero, List.set_cons_succ, i64_w, i32_w]
            rfl
          refine pure_ (i := 5) (N := some 23) (v := ?_) (a' := ?_) #[true, true, true, true, true, true, false, false, false, false, false, false, false, false, false, false, false] rfl rfl (by kernel_rfl) (fun _ _ _ h => h) (Or.inl ⟨by rfl, ?_⟩) ?_ ?_
          rotate_left
          · intro w'
            go_simp
            with_reducible rfl
          rotate_left
          · simp only [Act.put, List.setIfInBounds_toArray, List.set_cons_zero, List.set_cons_succ, i64_w, i32_w]
            rfl
          refine pure_ (i := 6) (N := some 24) (v := ?_) (a' := ?_) #[true, true, true, true, true, true, true, false, false, false, false, false, false, false, false, false, false] rfl rfl (by kernel_rfl) (fun _ _ _ h => h) (Or.inl ⟨by rfl, ?_⟩) ?_ ?_
          rotate_left
          · intro w'
            go_simp
            with_reducible rfl
          rotate_left
          · simp only [Act.put, List.setIfInBounds_toArray, List.set_cons_zero, List.set_cons_succ, i64_w, i32_w]
            rfl
          refine pure_ (i := 7) (N := some 25) (v := ?_) (a' := ?_) #[true, true, true, true, true, true, true, true, false, false, false, false, false, false, false, false, false] rfl rfl (by kernel_rfl) (fun _ _ _ h => h) (Or.inl ⟨by rfl, ?_⟩) ?_ ?_
          rotate_left
          · intro w'
            go_simp
            with_reducible rfl
          rotate_left
          · simp only [Act.put, List.setIfInBounds_toArray, List.set_cons_zero, List.set_cons_succ, i64_w, i32_w]
            rfl
          refine pure_ (i := 9) (N := some 27) (v := ?_) (a' := ?_) #[true, true, true, true, true, true, true, true, false, true, false, false, false, false, false, false, false] rfl rfl (by kernel_rfl) (fun _ _ _ h => h) (Or.inl ⟨by rfl, ?_⟩) ?_ ?_
          rotate_left
          · intro w'
            go_simp
            with_reducible rfl
          rotate_left
          · simp only [Act.put, List.setIfInBounds_toArray, List.set_cons_zero, List.set_cons_succ, i64_w, i32_w]
            rfl
          refine pure_ (i := 10) (N := some 28) (v := ?_) (a' := ?_) #[true, true, true, true, true, true, true, true, false, true, true, false, false, false, false, false, false] rfl rfl (by kernel_rfl) (fun _ _ _ h => h) (Or.inl ⟨by rfl, ?_⟩) ?_ ?_
          rotate_left
          · intro w'
            go_simp
            with_reducible rfl
          rotate_left
          · simp only [Act.put, List.setIfInBounds_toArray, List.set_cons_zero, List.set_cons_succ, i64_w, i32_w]
            rfl
          refine pure_ (i := 11) (N := some 29) (v := ?_) (a' := ?_) #[true, true, true, true, true, true, true, true, false, true, true, true, false, false, false, false, false] rfl rfl (by kernel_rfl) (fun _ _ _ h => h) (Or.inl ⟨by rfl, ?_⟩) ?_ ?_
          rotate_left
          · intro w'
            go_simp
            with_reducible rfl
          rotate_left
          · simp only [Act.put, List.setIfInBounds_toArray, List.set_cons_zero, List.set_cons_succ, i64_w, i32_w]
            rfl
          refine pure_ (i := 12) (N := some 30) (v := ?_) (a' := ?_) #[true, true, true, true, true, true, true, true, false, true, true, true, true, false, false, false, false] rfl rfl (by kernel_rfl) (fun _ _ _ h => h) (Or.inl ⟨by rfl, ?_⟩) ?_ ?_
          rotate_left
          · intro w'
            go_simp
            with_reducible rfl
          rotate_left
          · simp only [Act.put, List.setIfInBounds_toArray, List.set_cons_zero, List.set_cons_succ, i64_w, i32_w]
            rfl
          refine take_ (i := 8) (N := some 26) (v := ?_) (a' := ?_) #[true, true, true, true, true, true, true, true, true, true, true, true, true, false, false, false, false] rfl rfl (by kernel_rfl) (fun _ _ _ h => h) (Or.inl ⟨by rfl, ?_⟩) hHeld ?_ ?_
          rotate_left
          · rintro w' ⟨s0, s1, s2, s3, s4, s5, s6, s7⟩
            go_simp
            with_reducible rfl
          rotate_left
          · simp only [Act.put, List.setIfInBounds_toArray, List.set_cons_zero, List.set_cons_succ, i64_w, i32_w]
            rfl
          refine take_ (i := 13) (N := some 31) (v := ?_) (a' := ?_) #[true, true, true, true, true, true, true, true, true, true, true, true, true, true, false, false, false] rfl rfl (by kernel_rfl) (fun _ _ _ h => h) (Or.inl ⟨by rfl, ?_⟩) hHeld ?_ ?_
          rotate_left
          · rintro w' ⟨s0, s1, s2, s3, s4, s5, s6, s7⟩
            go_simp
            with_reducible rfl
          rotate_left
          · simp only [Act.put, List.setIfInBounds_toArray, List.set_cons_zero, List.set_cons_succ, i64_w, i32_w]
            rfl
          refine one_ (i := 14) (N := some 32) #[true, true, true, true, true, true, true, true, true, true, true, true, true, true, true, false, false] rfl rfl (by kernel_rfl) (by decide) (fun K hK => ?_)
          refine goesv_ HF.out HNm.out HBd.out (#[.agg #[.int .i64 p.1, .slice p.2.1.1 p.2.1.2.1 p.2.1.2.2, .slice p.2.2.1.1 p.2.2.1.2.1 p.2.2.1.2.2, .int .u64 p.2.2.2], .agg #[.int .i64 q.1, .slice q.2.1.1 q.2.1.2.1 q.2.1.2.2, .slice q.2.2.1.1 q.2.2.1.2.1 q.2.2.1.2.2, .int .u64 q.2.2.2]]) (by rfl) rfl rfl rfl (by simp only [List.map_toArray, List.map_cons, List.map_nil]; rfl) ?_
          with_reducible refine (HC.out _ (grown_drew HR.out.grown)).mono ?_
          rintro e w3 ⟨rfl, hb⟩
          refine ⟨_, rfl, ?_⟩
          have hbx := Aside0.mk (below_then (below_drew (Below.refl _ _)) (Nat.le_refl _) hb)
          have HR3 := Aside0.mk (HR.out.below hbx.out)
          clear hb
          refine hK.out _ _ ⟨(pw_cell_below hbx.out d10), (pw_cell_below hbx.out d11), (pw_cell_below hbx.out d12), (pw_cell_below hbx.out d13), (pw_cell_below hbx.out d00), (pw_cell_below hbx.out d01), (pw_cell_below hbx.out d02), (pw_cell_below hbx.out d03)⟩ (fun hHeld => ?_)
          clear hK K
          refine norm_ (a' := ?_) ?_ ?_
          rotate_left
          · show Act.put _ (some 32) _ = _
            simp only [Act.put, List.setIfInBounds_toArray, List.set_cons_zero, List.set_cons_succ, i64_w, i32_w]
            rfl
          refine pure_ (i := 15) (N := some 33) (v := ?_) (a' := ?_) #[true, true, true, true, true, true, true, true, true, true, true, true, true, true, true, true, false] rfl rfl (by kernel_rfl) (fun _ _ _ h => h) (Or.inl ⟨by rfl, ?_⟩) ?_ ?_
          rotate_left
          · intro w'
            go_simp
            with_reducible rfl
          rotate_left
          · simp only [Act.put, List.setIfInBounds_toArray, List.set_cons_zero, List.set_cons_succ, i64_w, i32_w]
            rfl
          refine pure_ (i := 16) (N := some 34) (v := ?_) (a' := ?_) #[true, true, true, true, true, true, true, true, true, true, true, true, true, true, true, true, true] rfl rfl (by kernel_rfl) (fun _ _ _ h => h) (Or.inl ⟨by rfl, ?_⟩) ?_ ?_
          rotate_left
          · intro w'
            go_simp
            with_reducible rfl
          rotate_left
          · simp only [Act.put, List.setIfInBounds_toArray, List.set_cons_zero, List.set_cons_succ, i64_w, i32_w]
            rfl
          refine done_ (by kernel_rfl) ?_
          have hbe : ∀ {o u}, wr.cell? ⟨g, o, none⟩ = some u → w3.cell? ⟨g, o, none⟩ = some u := fun h => pw_cell_below hbx.out h
          have e10 := hbe d10
          have e11 := hbe d11
          have e12 := hbe d12
          have e13 := hbe d13
          have e00 := hbe d00
          have e01 := hbe d01
          have e02 := hbe d02
          have e03 := hbe d03
          obtain ⟨cs3, hcs3⟩ := Kd.R_typed HR3.out.row g rfl
          have hfz : ∀ o, w3.frozen? ⟨g, o, none⟩ = false := fun o => blk_frozen hcs3 o
          clear hbe d10 d11 d12 d13 d00 d01 d02 d03 HR HC hbx hHeld
          by_cases hc : cf p q < 0
          · have hcd : decide (cf p q < 0) = true := decide_eq_true hc
            have HJ3 := Aside0.mk (HJ2.out.trans (if_pos ⟨by omega, hc⟩))
            clear hc HJ2
            rw [hcd]
            go_wp2_with fail
            refine start_ (n := 18) (S := fun w' => w'.cell? ⟨g, (j + 1) * 4, none⟩ = some (.int .i64 p.1) ∧ w'.cell? ⟨g, (j + 1) * 4 + 1, none⟩ = some (.slice p.2.1.1 p.2.1.2.1 p.2.1.2.2) ∧ w'.cell? ⟨g, (j + 1) * 4 + 2, none⟩ = some (.slice p.2.2.1.1 p.2.2.1.2.1 p.2.2.1.2.2) ∧ w'.cell? ⟨g, (j + 1) * 4 + 3, none⟩ = some (.int .u64 p.2.2.2) ∧ w'.cell? ⟨g, j * 4, none⟩ = some (.int .i64 q.1) ∧ w'.cell? ⟨g, j * 4 + 1, none⟩ = some (.slice q.2.1.1 q.2.1.2.1 q.2.1.2.2) ∧ w'.cell? ⟨g, j * 4 + 2, none⟩ = some (.slice q.2.2.1.1 q.2.2.1.2.1 q.2.2.1.2.2) ∧ w'.cell? ⟨g, j * 4 + 3, none⟩ = some (.int .u64 q.2.2.2) ∧ ∀ o, w'.frozen? ⟨g, o, none⟩ = false) (ds := [15, 17]) #[false, false, false, false, false, false, false, false, false, false, false, false, false, false, false, false, false, false] (by kernel_rfl) rfl rfl ⟨e10, e11, e12, e13, e00, e01, e02, e03, hfz⟩ (fun hHeld => ?_)
            refine pure_ (i := 0) (N := some 37) (v := ?_) (a' := ?_) #[true, false, false, false, false, false, false, false, false, false, false, false, false, false, false, false, false, false] rfl rfl (by kernel_rfl) (fun _ _ _ h => h) (Or.inl ⟨by rfl, ?_⟩) ?_ ?_
            rotate_left
            · intro w'
              go_simp
              with_reducible rfl
            rotate_left
            · simp only [Act.put, List.setIfInBounds_toArray, List.set_cons_zero, List.set_cons_succ, i64_w, i32_w]
              rfl
            refine pure_ (i := 1) (N := some 38) (v := ?_) (a' := ?_) #[true, true, false, false, false, false, false, false, false, false, false, false, false, false, false, false, false, false] rfl rfl (by kernel_rfl) (fun _ _ _ h => h) (Or.inl ⟨by rfl, ?_⟩) ?_ ?_
            rotate_left
            · intro w'
              go_simp
              with_reducible rfl
            rotate_left
            · simp only [Act.put, List.setIfInBounds_toArray, List.set_cons_zero, List.set_cons_succ, i64_w, i32_w]
              rfl
            refine pure_ (i := 2) (N := some 39) (v := ?_) (a' := ?_) #[true, true, true, false, false, false, false, false, false, false, false, false, false, false, false, false, false, false] rfl rfl (by kernel_rfl) (fun _ _ _ h => h) (Or.inl ⟨by rfl, ?_⟩) ?_ ?_
            rotate_left
            · intro w'
              go_simp
              with_reducible rfl
            rotate_left
            · simp only [Act.put, List.setIfInBounds_toArray, List.set_cons_zero, List.set_cons_succ, i64_w, i32_w]
              rfl
            refine pure_ (i := 3) (N := some 40) (v := ?_) (a' := ?_) #[true, true, true, true, false, false, false, false, false, false, false, false, false, false, false, false, false, false] rfl rfl (by kernel_rfl) (fun _ _ _ h => h) (Or.inl ⟨by rfl, ?_⟩) ?_ ?_
            rotate_left
            · intro w'
              go_simp
              with_reducible rfl
            rotate_left
            · simp only [Act.put, List.setIfInBounds_toArray, List.set_cons_zero, List.set_cons_succ, i64_w, i32_w]
              rfl
            refine pure_ (i := 4) (N := some 41) (v := ?_) (a' := ?_) #[true, true, true, true, true, false, false, false, false, false, false, false, false, false, false, false, false, false] rfl rfl (by kernel_rfl) (fun _ _ _ h => h) (Or.inl ⟨by rfl, ?_⟩) ?_ ?_
            rotate_left
            · intro w'
              go_simp
              with_reducible rfl
            rotate_left
            · simp only [Act.put, List.setIfInBounds_toArray, List.set_cons_zero, List.set_cons_succ, i64_w, i32_w]
              rfl
            refine pure_ (i := 5) (N := some 42) (v := ?_) (a' := ?_) #[true, true, true, true, true, true, false, false, false, false, false, false, false, false, false, false, false, false] rfl rfl (by kernel_rfl) (fun _ _ _ h => h) (Or.inl ⟨by rfl, ?_⟩) ?_ ?_
            rotate_left
            · intro w'
              go_simp
              with_reducible rfl
            rotate_left
            · simp only [Act.put, List.setIfInBounds_toArray, List.set_cons_zero, List.set_cons_succ, i64_w, i32_w]
              rfl
            refine pure_ (i := 6) (N := some 43) (v := ?_) (a' := ?_) #[true, true, true, true, true, true, true, false, false, false, false, false, false, false, false, false, false, false] rfl rfl (by kernel_rfl) (fun _ _ _ h => h) (Or.inl ⟨by rfl, ?_⟩) ?_ ?_
            rotate_left
            · intro w'
              go_simp
              with_reducible rfl
            rotate_left
            · simp only [Act.put, List.setIfInBounds_toArray, List.set_cons_zero, List.set_cons_succ, i64_w, i32_w]
              rfl
            refine pure_ (i := 7) (N := some 44) (v := ?_) (a' := ?_) #[true, true, true, true, true, true, true, true, false, false, false, false, false, false, false, false, false, false] rfl rfl (by kernel_rfl) (fun _ _ _ h => h) (Or.inl ⟨by rfl, ?_⟩) ?_ ?_
            rotate_left
            · intro w'
              go_simp
              with_reducible rfl
            rotate_left
            · simp only [Act.put, List.setIfInBounds_toArray, List.set_cons_zero, List.set_cons_succ, i64_w, i32_w]
              rfl
            refine pure_ (i := 8) (N := some 45) (v := ?_) (a' := ?_) #[true, true, true, true, true, true, true, true, true, false, false, false, false, false, false, false, false, false] rfl rfl (by kernel_rfl) (fun _ _ _ h => h) (Or.inl ⟨by rfl, ?_⟩) ?_ ?_
            rotate_left
            · intro w'
              go_simp
              with_reducible rfl
            rotate_left
            · simp only [Act.put, List.setIfInBounds_toArray, List.set_cons_zero, List.set_cons_succ, i64_w, i32_w]
              rfl
            refine pure_ (i := 10) (N := some 47) (v := ?_) (a' := ?_) #[true, true, true, true, true, true, true, true, true, false, true, false, false, false, false, false, false, false] rfl rfl (by kernel_rfl) (fun _ _ _ h => h) (Or.inl ⟨by rfl, ?_⟩) ?_ ?_
            rotate_left
            · intro w'
              go_simp
              with_reducible rfl
            rotate_left
            · simp only [Act.put, List.setIfInBounds_toArray, List.set_cons_zero, List.set_cons_succ, i64_w, i32_w]
              rfl
            refine pure_ (i := 11) (N := some 48) (v := ?_) (a' := ?_) #[true, true, true, true, true, true, true, true, true, false, true, true, false, false, false, false, false, false] rfl rfl (by kernel_rfl) (fun _ _ _ h => h) (Or.inl ⟨by rfl, ?_⟩) ?_ ?_
            rotate_left
            · intro w'
              go_simp
              with_reducible rfl
            rotate_left
            · simp only [Act.put, List.setIfInBounds_toArray, List.set_cons_zero, List.set_cons_succ, i64_w, i32_w]
              rfl
            refine pure_ (i := 12) (N := some 49) (v := ?_) (a' := ?_) #[true, true, true, true, true, true, true, true, true, false, true, true, true, false, false, false, false, false] rfl rfl (by kernel_rfl) (fun _ _ _ h => h) (Or.inl ⟨by rfl, ?_⟩) ?_ ?_
            rotate_left
            · intro w'
              go_simp
              with_reducible rfl
            rotate_left
            · simp only [Act.put, List.setIfInBounds_toArray, List.set_cons_zero, List.set_cons_succ, i64_w, i32_w]
              rfl
            refine take_ (i := 9) (N := some 46) (v := ?_) (a' := ?_) #[true, true, true, true, true, true, true, true, true, true, true, true, true, false, false, false, false, false] rfl rfl (by kernel_rfl) (fun _ _ _ h => h) (Or.inl ⟨by rfl, ?_⟩) hHeld ?_ ?_
            rotate_left
            · rintro w' ⟨s0, s1, s2, s3, s4, s5, s6, s7, s8⟩
              go_simp
              with_reducible rfl
            rotate_left
            · simp only [Act.put, List.setIfInBounds_toArray, List.set_cons_zero, List.set_cons_succ, i64_w, i32_w]
              rfl
            refine take_ (i := 13) (N := some 50) (v := ?_) (a' := ?_) #[true, true, true, true, true, true, true, true, true, true, true, true, true, true, false, false, false, false] rfl rfl (by kernel_rfl) (fun _ _ _ h => h) (Or.inl ⟨by rfl, ?_⟩) hHeld ?_ ?_
            rotate_left
            · rintro w' ⟨s0, s1, s2, s3, s4, s5, s6, s7, s8⟩
              go_simp
              with_reducible rfl
            rotate_left
            · simp only [Act.put, List.setIfInBounds_toArray, List.set_cons_zero, List.set_cons_succ, i64_w, i32_w]
              rfl
            refine pure_ (i := 14) (N := some 51) (v := ?_) (a' := ?_) #[true, true, true, true, true, true, true, true, true, true, true, true, true, true, true, false, false, false] rfl rfl (by kernel_rfl) (fun _ _ _ h => h) (Or.inl ⟨by rfl, ?_⟩) ?_ ?_
            rotate_left
            · intro w'
              go_simp
              with_reducible rfl
            rotate_left
            · simp only [Act.put, List.setIfInBounds_toArray, List.set_cons_zero, List.set_cons_succ, i64_w, i32_w]
              rfl
            refine last_ (i := 15) (N := none) #[true, true, true, true, true, true, true, true, true, true, true, true, true, true, true, true, false, false] rfl rfl (by kernel_rfl) (by decide) (fun K hK => ?_)
            refine skip_ (w1 := ?_) (by rfl) rfl ?_ ?_
            rotate_left
            · go_simp
              rfl
            refine hK.out _ _ ?_
            clear hK K
            refine pure_ (i := 16) (N := some 52) (v := ?_) (a' := ?_) #[true, true, true, true, true, true, true, true, true, true, true, true, true, true, true, true, true, false] rfl rfl (by kernel_rfl) (fun _ _ _ h => h) (Or.inl ⟨by rfl, ?_⟩) ?_ ?_
            rotate_left
            · intro w'
              go_simp
              with_reducible rfl
            rotate_left
            · simp only [Act.put, List.setIfInBounds_toArray, List.set_cons_zero, List.set_cons_succ, i64_w, i32_w]
              rfl
            refine last_ (i := 17) (N := none) #[true, true, true, true, true, true, true, true, true, true, true, true, true, true, true, true, true, true] rfl rfl (by kernel_rfl) (by decide) (fun K hK => ?_)
            refine skip_ (w1 := ?_) (by rfl) rfl ?_ ?_
            rotate_left
            · go_simp
              rfl
            refine hK.out _ _ ?_
            clear hK K
            refine done_ (by kernel_rfl) ?_
            have HR4 := Aside0.mk (HR3.out.swap j (by omega) p q HSw.out).drew
            clear HR3 hHeld hcs3 hfz
            generalize World.drew _ = w4 at *
            go_wp2_with fail
            go_roundw
            case rel => exact ⟨j, (zs.set (j + 1) q).set j p, by omega, by go_num, ⟨HJ3.out.symm.trans HJ.out⟩, HR4⟩
            case measure => simp [intOf]
          · have hcd : decide (cf p q < 0) = false := decide_eq_false hc
            have HJ3 := Aside0.mk (HJ2.out.trans (if_neg (fun h => hc h.2)))
            clear hc HJ2 e10 e11 e12 e13 e00 e01 e02 e03 hfz hcs3
            rw [hcd]
            go_wp2_with fail
            go_roundw
            case rel => exact ⟨i + 1, zs, by omega, .inl (by omega), by go_num, ⟨by rw [← HI2.out, ← HJ.out, HJ3.out]⟩, HR3⟩
            case measure => simp [intOf]; omega
        · have HJ3 := Aside0.mk (insJ_stop cf a j zs haj)
          have hga : decide (a < j) = false := decide_eq_false haj
          clear haj
          go_wp2_with fail
          go_quiet (fail)
          go_wp2_with fail
          go_roundw
          case rel => exact ⟨i + 1, zs, by omega, .inl (by omega), by go_num, ⟨by rw [← HI2.out, ← HJ.out, HJ3.out]⟩, ⟨HR.out.drewN _⟩⟩
          case measure => simp [intOf]; omega
    · have e0 : b - i = 0 := by omega
      have HF0 := Aside0.mk (show ys = insI cf a (b - (a + 1)) (a + 1) xs by
        have := HI.out
        rw [e0, insI] at this
        exact this)
      have hii : decide (i < b) = false := decide_eq_false hlt
      clear HI e0 hlt
      go_wp2_with fail
      go_end0
      refine ⟨rfl, ?_⟩
      rw [← HF0.out]
      exact HR.out
end Go.Proofs.Ytfeeahjaeapkoaa.Ext
end

section
namespace Go.Proofs.Ytfeeahjaeapkoaa.Ext
set_option linter.unusedVariables false
set_option linter.unusedSimpArgs false
open Go.RowKit Go.Proofs.YtfeeahjaeapkoaaW.PrintWords Go.Proofs.YtfeeahjaeapkoaaW.PrintLast Go.Proofs.YtfeeahjaeapkoaaW.PrintMore Go.Proofs.Ytfeeahjaeapkoaa.Lib Go.Proofs.Ytfeeahjaeapkoaa.P
structure Dec (w : World) (g : Nat) (q : Q) (x : F) : Prop where
  t : q.1 = x.1
  dn : q.2.1.2.1 = x.2.1.length
  dc : x.2.1.length ≤ q.2.1.2.2
  d : ∀ w', KeepBut w w' g none → Kd.string.C w' q.2.1.1 x.2.1.length x.2.1
  mn : q.2.2.1.2.1 = x.2.2.length
  mc : x.2.2.length ≤ q.2.2.1.2.2
  m : ∀ w', KeepBut w w' g none → (Kd.int .i64).C w' q.2.2.1.1 x.2.2.length x.2.2
  dl : x.2.1.length ≤ 8796093022208
  ml : x.2.2.length ≤ 17592186044416
theorem keep_grown {w w' : World} {g : Nat} (h : w.grownBy w' (some g)) : KeepBut w w' g none := ⟨h.size, fun i hi hne _ => h.block i hi (fun e => hne (Option.some.inj e))⟩
set_option maxRecDepth 100000 in
set_option maxHeartbeats 400000 in
theorem cmp_ok (w : World) (g : Nat) (xs : List Q) (dec : Q → F) (hd : ∀ p ∈ xs, Dec w g p (dec p)) : CmpOk 46 (fun p q => fC (dec p) (dec q)) w g xs := by
  intro w' hg p hp q hq
  have Dp := Aside0.mk (hd p hp)
  have Dq := Aside0.mk (hd q hq)
  have HG := Aside0.mk hg
  show Calls Try.prog 46 #[.agg #[.int .i64 p.1, .slice p.2.1.1 p.2.1.2.1 p.2.1.2.2, .slice p.2.2.1.1 p.2.2.1.2.1 p.2.2.1.2.2, .int .u64 p.2.2.2], .agg #[.int .i64 q.1, .slice q.2.1.1 q.2.1.2.1 q.2.1.2.2, .slice q.2.2.1.1 q.2.2.1.2.1 q.2.2.1.2.2, .int .u64 q.2.2.2]] w' (fun e w'' => e = .returned (.int .i64 (fC (dec p) (dec q))) ∧ Below w'.heap.size w' w'')
  generalize dec p = x at *
  generalize dec q = y at *
  obtain ⟨pt, ⟨pA, pn, pc⟩, ⟨pB, pm, pd⟩, pk⟩ := p
  obtain ⟨qt, ⟨qA, qn, qc⟩, ⟨qB, qm, qd⟩, qk⟩ := q
  obtain ⟨xt, xd, xm⟩ := x
  obtain ⟨yt, yd, ym⟩ := y
  have e1 : pt = xt := Dp.out.t
  have e2 : pn = xd.length := Dp.out.dn
  have e3 : pm = xm.length := Dp.out.mn
  have e4 : qt = yt := Dq.out.t
  have e5 : qn = yd.length := Dq.out.dn
  have e6 : qm = ym.length := Dq.out.mn
  subst e1 e2 e3 e4 e5 e6
  clear hp hq
  have Fp := Aside0.mk (show xd.length ≤ pc ∧ xm.length ≤ pd ∧ xd.length < 4611686018427387904 ∧ xm.length < 4611686018427387904 ∧ (∀ w', KeepBut w w' g none → Kd.string.C w' pA xd.length xd) ∧ (∀ w', KeepBut w w' g none → (Kd.int .i64).C w' pB xm.length xm) from ⟨Dp.out.dc, Dp.out.mc, Nat.lt_of_le_of_lt Dp.out.dl (by decide), Nat.lt_of_le_of_lt Dp.out.ml (by decide), Dp.out.d, Dp.out.m⟩)
  have Fq := Aside0.mk (show yd.length ≤ qc ∧ ym.length ≤ qd ∧ (∀ w', KeepBut w w' g none → Kd.string.C w' qA yd.length yd) ∧ (∀ w', KeepBut w w' g none → (Kd.int .i64).C w' qB ym.length ym) from ⟨Dq.out.dc, Dq.out.mc, Dq.out.d, Dq.out.m⟩)
  have HCo := Aside0.mk (compare_is pt qt xd yd xm ym Fp.out.2.2.1 Fp.out.2.2.2.1 (xd.length + xm.length + 5) (Nat.le_refl _))
  show Calls Try.prog 46 #[.agg #[.int .i64 pt, .slice pA xd.length pc, .slice pB xm.length pd, .int .u64 pk], .agg #[.int .i64 qt, .slice qA yd.length qc, .slice qB ym.length qd, .int .u64 qk]] w' (fun e w'' => e = .returned (.int .i64 (factC pt qt xd yd xm ym)) ∧ Below w'.heap.size w' w'')
  generalize factC pt qt xd yd xm ym = r at *
  clear Dp Dq
  clear hd hg
  have HX0 := Aside0.mk (Below.refl w'.heap.size w')
  go_enter Try.func46, Try.ntmps46
  go_wp2_with (first
    | ((with_reducible refine gate_dst (N := 2) rfl ?_); refine box_event ?hg (N := 2) ?hd (cs := #[.int .i64 pt, .slice pA xd.length pc, .slice pB xm.length pd, .int .u64 pk]) (t := 40) ?hr ?_; (case hd => rfl); (case hg => rfl); (case hr => first | (go_simp; done) | (go_simp; rfl)); intro g1 hg w1 hbox hb; have GE1 := Aside0.mk (Nat.le_of_eq hg.symm); have BK1 := Aside0.mk hbox; have HX1 := Aside0.mk hb; clear hg hbox hb)
    | (((with_reducible refine gate_dst (N := 3) rfl ?_); refine box_event ?hg (N := 3) ?hd (cs := #[.int .i64 qt, .slice qA yd.length qc, .slice qB ym.length qd, .int .u64 qk]) (t := 40) ?hr ?_; (case hd => rfl); (case hg => rfl); (case hr => first | (go_simp; done) | (go_simp; rfl)); intro g2 hg w2 hbox hb; have GE2 := Aside0.mk (Nat.le_of_eq hg.symm); have BK2 := Aside0.mk hbox; have HX2 := Aside0.mk hb; clear hg hbox hb); have BK1b := Aside0.mk (blk_below BK1.out HX2.out); have HB2 := Aside0.mk (below_then HX1.out HX1.out.size HX2.out); (have hg1_0 : w2.cell? ⟨g1, 0, none⟩ = some (.int .i64 pt) := (blk_cell BK1b.out 0).trans rfl; have hfg1_0 := blk_frozen BK1b.out 0; have hg1_1 : w2.cell? ⟨g1, 1, none⟩ = some (.slice pA xd.length pc) := (blk_cell BK1b.out 1).trans rfl; have hfg1_1 := blk_frozen BK1b.out 1; have hg1_2 : w2.cell? ⟨g1, 2, none⟩ = some (.slice pB xm.length pd) := (blk_cell BK1b.out 2).trans rfl; have hfg1_2 := blk_frozen BK1b.out 2; have hg1_3 : w2.cell? ⟨g1, 3, none⟩ = some (.int .u64 pk) := (blk_cell BK1b.out 3).trans rfl; have hfg1_3 := blk_frozen BK1b.out 3); (have hg2_0 : w2.cell? ⟨g2, 0, none⟩ = some (.int .i64 qt) := (blk_cell BK2.out 0).trans rfl; have hfg2_0 := blk_frozen BK2.out 0; have hg2_1 : w2.cell? ⟨g2, 1, none⟩ = some (.slice qA yd.length qc) := (blk_cell BK2.out 1).trans rfl; have hfg2_1 := blk_frozen BK2.out 1; have hg2_2 : w2.cell? ⟨g2, 2, none⟩ = some (.slice qB ym.length qd) := (blk_cell BK2.out 2).trans rfl; have hfg2_2 := blk_frozen BK2.out 2; have hg2_3 : w2.cell? ⟨g2, 3, none⟩ = some (.int .u64 qk) := (blk_cell BK2.out 3).trans rfl; have hfg2_3 := blk_frozen BK2.out 3))
    | fail)
  have hk : KeepBut w w2 g none := keep_grown (grown_below HG.out HB2.out)
  refine (fact_Compare.calls (xd.length + xm.length + 5) pt pA pc xd pB pd xm qt qA qc yd qB qd ym r w2 (Fp.out.2.2.2.2.1 w2 hk) Fp.out.1 (Fp.out.2.2.2.2.2 w2 hk) Fp.out.2.1 (Fq.out.2.2.1 w2 hk) Fq.out.1 (Fq.out.2.2.2 w2 hk) Fq.out.2.1 HCo.out).mono ?_
  rintro e w3 ⟨rfl, hb⟩
  have HB3 := Aside0.mk (below_then HB2.out HB2.out.size hb)
  clear hb hk
  go_wp2_with fail
  go_ret
  exact ⟨rfl, HB3.out⟩
end Go.Proofs.Ytfeeahjaeapkoaa.Ext
end

section
namespace Go.Proofs.Ytfeeahjaeapkoaa.Ext
set_option linter.unusedVariables false
set_option linter.unusedSimpArgs false
open Go.RowKit Go.Proofs.YtfeeahjaeapkoaaW.PrintWords
def insRev (cf : Q → Q → Int) (x : Q) : List Q → List Q
  | [] => [x]
  | y :: t => if cf x y < 0 then y :: insRev cf x t else x :: y :: t
theorem two_swap (L R : List Q) (x y : Q) : ((L ++ y :: x :: R).set (L.length + 1) y).set L.length x = L ++ x :: y :: R := by
  rw [List.set_append_right _ _ (by omega), show L.length + 1 - L.length = 1 by omega, List.set_append_right _ _ (Nat.le_refl _), Nat.sub_self]
  rfl
theorem at_len (L R : List Q) (x : Q) : (L ++ x :: R).getD L.length zQ = x := by
  rw [List.getD_eq_getElem?_getD, List.getElem?_append_right (Nat.le_refl _), Nat.sub_self]; rfl
theorem at_len1 (L R : List Q) (x y : Q) : (L ++ y :: x :: R).getD (L.length + 1) zQ = x := by
  rw [List.getD_eq_getElem?_getD, List.getElem?_append_right (by omega), show L.length + 1 - L.length = 1 by omega]; rfl
theorem insJ_rev (cf : Q → Q → Int) (x : Q) : ∀ (t A R : List Q), insJ cf A.length (A.length + t.length) (A ++ t.reverse ++ x :: R) = A ++ (insRev cf x t).reverse ++ R
  | [], A, R => by
    have : insJ cf A.length A.length (A ++ [].reverse ++ x :: R) = A ++ [].reverse ++ x :: R := by
      cases h : A.length with
      | zero => rfl
      | succ j => rw [insJ, if_neg (fun hh => by omega)]
    rw [List.length_nil, Nat.add_zero, this, insRev]
    simp
  | y :: t, A, R => by
    have hl : (A ++ t.reverse).length = A.length + t.length := by simp
    have e : A ++ (y :: t).reverse ++ x :: R = (A ++ t.reverse) ++ y :: x :: R := by simp
    have h1 := at_len1 (A ++ t.reverse) R x y
    have h2 := at_len (A ++ t.reverse) (x :: R) y
    have h3 := two_swap (A ++ t.reverse) R x y
    rw [hl] at h1 h2 h3
    rw [List.length_cons, show A.length + (t.length + 1) = (A.length + t.length) + 1 by omega, e, insJ, h1, h2, h3, insRev]
    by_cases hc : cf x y < 0
    · rw [if_pos ⟨by omega, hc⟩, if_pos hc, insJ_rev cf x t A (y :: R)]
      simp
    · rw [if_neg (fun h => hc h.2), if_neg hc]
      simp
structure Pre (cf : Q → Q → Int) : Prop where
  asym : ∀ x y, cf x y < 0 → ¬ cf y x < 0
  trans : ∀ x y z, ¬ cf x y < 0 → ¬ cf y z < 0 → ¬ cf x z < 0
theorem insRev_mem (cf : Q → Q → Int) (x : Q) : ∀ (t : List Q) (z : Q), z ∈ insRev cf x t → z = x ∨ z ∈ t
  | [], z, h => by rw [insRev, List.mem_singleton] at h; exact .inl h
  | y :: t, z, h => by
    rw [insRev] at h
    split at h
    · rcases List.mem_cons.1 h with h | h
      · exact .inr (by simp [h])
      · rcases insRev_mem cf x t z h with h | h
        · exact .inl h
        · exact .inr (by simp [h])
    · rcases List.mem_cons.1 h with h | h
      · exact .inl h
      · exact .inr h
theorem insRev_desc {cf : Q → Q → Int} (hp : Pre cf) (x : Q) : ∀ t : List Q, t.Pairwise (fun y z => ¬ cf y z < 0) → (insRev cf x t).Pairwise (fun y z => ¬ cf y z < 0)
  | [], _ => by rw [insRev]; exact List.pairwise_singleton _ _
  | y :: t, h => by
    have h' := List.pairwise_cons.1 h
    rw [insRev]
    by_cases hc : cf x y < 0
    · rw [if_pos hc]
      refine List.pairwise_cons.2 ⟨fun z hz => ?_, insRev_desc hp x t h'.2⟩
      rcases insRev_mem cf x t z hz with e | e
      · rw [e]; exact hp.asym x y hc
      · exact h'.1 z e
    · rw [if_neg hc]
      refine List.pairwise_cons.2 ⟨fun z hz => ?_, h⟩
      rcases List.mem_cons.1 hz with e | e
      · rw [e]; exact hc
      · exact hp.trans x y z hc (h'.1 z e)
end Go.Proofs.Ytfeeahjaeapkoaa.Ext
end

section
namespace Go.Proofs.Ytfeeahjaeapkoaa.P
set_option linter.unusedVariables false
set_option linter.unusedSimpArgs false
open Go.RowKit Go.Proofs.YtfeeahjaeapkoaaW.PrintWords Go.Proofs.YtfeeahjaeapkoaaW.PrintLast Go.Proofs.YtfeeahjaeapkoaaW.PrintMore Go.Proofs.Ytfeeahjaeapkoaa.Lib
theorem infoStr : (Try.prog.info? 9).map (fun i => (i.zero, i.size, i.bytes)) = some (some (.string ⟨#[]⟩), 1, 16) := by kernel_rfl
theorem infoI64 : (Try.prog.info? 2).map (fun i => (i.zero, i.size, i.bytes)) = some (some (.int .i64 0), 1, 8) := by kernel_rfl
set_option maxRecDepth 100000 in
set_option maxHeartbeats 400000 in
theorem clone_strings (xs : List ByteArray) (len : Nat) (A : Option Addr) (c : Nat) (w : World) (hr : Kd.C Kd.string w A len xs) (hl : xs.length * 16 ≤ 140737488355328) :
    Calls Try.prog 53 #[.slice A len c] w fun e w' => ∃ v, e = .returned v ∧ Kd.R Kd.string 9 w' w.heap.size (fun _ => True) v xs ∧ Below w.heap.size w w' := by
  obtain rfl := hr.1
  have HR := Aside0.mk hr
  have HB := Aside0.mk (Below.refl w.heap.size w)
  clear hr
  have heq := fun u : World => Lib.run_eql_slice_nil (P := Try.prog) u 24 9 A xs.length c 0 0 Try.underlying24
  rcases A with _ | ad
  · have hx : xs = [] := by
      rcases xs with _ | ⟨x, l⟩
      · rfl
      · obtain ⟨ad, h, _⟩ := HR.out.2.2 (by simp)
        cases h
    subst hx
    simp only [List.length_nil, Option.isNone_none] at heq
    go_enter Try.func53, Try.ntmps53
    go_wp2
    go_ret
    exact ⟨_, rfl, Kd.R_nil _ _ _ _ _, HB.out⟩
  · go_enter Try.func53, Try.ntmps53
    go_wp2_with (first
      | ((with_reducible refine gate_dst (N := 5) rfl ?_); refine Kd.R_lit Kd.string (w0 := w) w.heap.size 9 ?hg (N := 5) ?hd (xs := ([] : List ByteArray)) (inner := []) (ok := fun _ => True) (okp := fun _ => True) ?hr (Reps.none _ _) (fun _ hk => hk) trivial HB.out (Nat.le_refl _) (by simp) ?_; (case hd => rfl); (case hg => rfl); (case hr => first | (go_simp; done) | (go_simp; rfl)); intro v1 w1 ho1 hb1 hg1 ha1; have HO := Aside0.mk ho1; have HB1 := Aside0.mk hb1; have HR1 := Aside0.mk (Kd.C_below HR.out hb1); clear ho1 hb1 hg1 ha1)
      | ((with_reducible refine gate_builtin (b := .append) (xs := #[.tmp 5, .tmp 6]) rfl ?_); at_builtin; refine Kd.R_append_rows Kd.string (w0 := w) w.heap.size rfl (.tmp 5) (.tmp 6) 24 9 (.string ⟨#[]⟩) 16 rfl Try.underlying24 infoStr rfl (by decide) (by omega) v1 [] xs (some ad) xs.length c (fun _ => True) (fun _ => False) rfl rfl HO.out HR1.out ?aK (fun _ h => h.elim) (fun _ _ => trivial) HB1.out HB1.out.size ?aL ?_; (case aK => exact fun _ _ h => h); (case aL => simp only [List.length_nil, Nat.zero_add]; exact hl); intro v2 w2 ho2 hb2 hg2 ha2; have HO2 := Aside0.mk ho2; have HB2 := Aside0.mk hb2; clear ho2 hb2 hg2 ha2))
    go_ret
    exact ⟨_, rfl, HO2.out, HB2.out⟩
set_option maxRecDepth 100000 in
set_option maxHeartbeats 400000 in
theorem clone_i64s (xs : List Int) (len : Nat) (A : Option Addr) (c : Nat) (w : World) (hr : Kd.C (Kd.int .i64) w A len xs) (hl : xs.length * 8 ≤ 140737488355328) :
    Calls Try.prog 54 #[.slice A len c] w fun e w' => ∃ v, e = .returned v ∧ Kd.R (Kd.int .i64) 2 w' w.heap.size (fun _ => True) v xs ∧ Below w.heap.size w w' := by
  obtain rfl := hr.1
  have HR := Aside0.mk hr
  have HB := Aside0.mk (Below.refl w.heap.size w)
  clear hr
  have heq := fun u : World => Lib.run_eql_slice_nil (P := Try.prog) u 25 2 A xs.length c 0 0 Try.underlying25
  rcases A with _ | ad
  · have hx : xs = [] := by
      rcases xs with _ | ⟨x, l⟩
      · rfl
      · obtain ⟨ad, h, _⟩ := HR.out.2.2 (by simp)
        cases h
    subst hx
    simp only [List.length_nil, Option.isNone_none] at heq
    go_enter Try.func54, Try.ntmps54
    go_wp2
    go_ret
    exact ⟨_, rfl, Kd.R_nil _ _ _ _ _, HB.out⟩
  · go_enter Try.func54, Try.ntmps54
    go_wp2_with (first
      | ((with_reducible refine gate_dst (N := 5) rfl ?_); refine Kd.R_lit (Kd.int .i64) (w0 := w) w.heap.size 2 ?hg (N := 5) ?hd (xs := ([] : List Int)) (inner := []) (ok := fun _ => True) (okp := fun _ => True) ?hr (Reps.none _ _) (fun _ hk => hk) trivial HB.out (Nat.le_refl _) (by simp) ?_; (case hd => rfl); (case hg => rfl); (case hr => first | (go_simp; done) | (go_simp; rfl)); intro v1 w1 ho1 hb1 hg1 ha1; have HO := Aside0.mk ho1; have HB1 := Aside0.mk hb1; have HR1 := Aside0.mk (Kd.C_below HR.out hb1); clear ho1 hb1 hg1 ha1)
      | ((with_reducible refine gate_builtin (b := .append) (xs := #[.tmp 5, .tmp 6]) rfl ?_); at_builtin; refine Kd.R_append_rows (Kd.int .i64) (w0 := w) w.heap.size rfl (.tmp 5) (.tmp 6) 25 2 (.int .i64 0) 8 rfl Try.underlying25 infoI64 rfl (by decide) (by omega) v1 [] xs (some ad) xs.length c (fun _ => True) (fun _ => False) rfl rfl HO.out HR1.out ?aK (fun _ h => h.elim) (fun _ _ => trivial) HB1.out HB1.out.size ?aL ?_; (case aK => exact fun _ _ h => h); (case aL => simp only [List.length_nil, Nat.zero_add]; exact hl); intro v2 w2 ho2 hb2 hg2 ha2; have HO2 := Aside0.mk ho2; have HB2 := Aside0.mk hb2; clear ho2 hb2 hg2 ha2))
    go_ret
    exact ⟨_, rfl, HO2.out, HB2.out⟩
def slices_Clone_string_string.f (l0 : List ByteArray) : Option (List ByteArray) := if l0.length ≤ 8796093022208 then some l0 else none
theorem slices_Clone_string_string.calls (A0 : Option Addr) (c0 : Nat) (l0 : List ByteArray) (r : List ByteArray) (w : World) (hr0 : Kd.C Kd.string w A0 l0.length l0) (hc0 : l0.length ≤ c0) (h : slices_Clone_string_string.f l0 = some r) :
    Calls Try.prog 53 #[.slice A0 l0.length c0] w fun e w' => ∃ v0_ : Value, e = .returned v0_ ∧ Kd.R Kd.string 9 w' w.heap.size (fun _ => True) v0_ r ∧ Below w.heap.size w w' := by
  unfold slices_Clone_string_string.f at h
  split at h
  · injection h with h
    subst h
    exact clone_strings _ _ _ _ _ hr0 (by omega)
  · cases h
def slices_Clone_int64_int64.f (l0 : List Int) : Option (List Int) := if l0.length ≤ 17592186044416 then some l0 else none
theorem slices_Clone_int64_int64.calls (A0 : Option Addr) (c0 : Nat) (l0 : List Int) (r : List Int) (w : World) (hr0 : Kd.C (Kd.int .i64) w A0 l0.length l0) (hc0 : l0.length ≤ c0) (h : slices_Clone_int64_int64.f l0 = some r) :
    Calls Try.prog 54 #[.slice A0 l0.length c0] w fun e w' => ∃ v0_ : Value, e = .returned v0_ ∧ Kd.R (Kd.int .i64) 2 w' w.heap.size (fun _ => True) v0_ r ∧ Below w.heap.size w w' := by
  unfold slices_Clone_int64_int64.f at h
  split at h
  · injection h with h
    subst h
    exact clone_i64s _ _ _ _ _ hr0 (by omega)
  · cases h
end Go.Proofs.Ytfeeahjaeapkoaa.P
end

section
namespace Go.Proofs.Ytfeeahjaeapkoaa.P
open Go.RowKit Go.Proofs.YtfeeahjaeapkoaaW.PrintWords Go.Proofs.YtfeeahjaeapkoaaW.PrintLast Go.Proofs.YtfeeahjaeapkoaaW.PrintMore
attribute [local go_sem] max2_int min2_int max_two min_two max_three min_three max_four min_four   -- for this text's walks alone
set_option linter.unusedVariables false
set_option linter.unusedSimpArgs false
open Go.Proofs.Ytfeeahjaeapkoaa.Ext (q1_ q2_ q3_ bk_ bw_ sz_ ne_ bx_)
attribute [local go_sem high] Go.Proofs.Ytfeeahjaeapkoaa.Ext.gtr_str Go.Proofs.Ytfeeahjaeapkoaa.Ext.leq_str Go.Proofs.Ytfeeahjaeapkoaa.Ext.geq_str
def fact_own.f (a0_0 : Int) (l0_1 : List ByteArray) (l0_2 : List Int) : Option (Int × List ByteArray × List Int) := (slices_Clone_string_string.f l0_1).bind fun t341 => ((slices_Clone_int64_int64.f l0_2).bind fun t344 => (some (a0_0, t341, t344)))
def fact_own.T1 : Bool × List (List Nat × List Nat) := (true, [([], []), ([0], [0]), ([], []), ([2], [2]), ([3], [3]), ([], []), ([5], [5]), ([6, 4], [6]), ([1, 4, 7], [1, 4, 7]), ([8, 7, 0, 1, 2, 3, 4, 5, 6, 7, 8], [8])])
def fact_own.B1 : List Nat := [0, 1, 0, 4, 12, 0, 32, 124, 255, 511]
theorem fact_own.tab1 : rtab .any (opsOf Try.f47 1) = fact_own.T1 := by kernel_rfl
theorem fact_own.bits1 : waitsOk fact_own.T1.2 fact_own.B1 = true := by kernel_rfl
set_option maxHeartbeats 8000000 in
set_option maxRecDepth 100000 in
theorem fact_own.calls (a0_0 : Int) (A0_1 : Option Addr) (c0_1 : Nat) (l0_1 : List ByteArray) (A0_2 : Option Addr) (c0_2 : Nat) (l0_2 : List Int) (r1 : Int) (r2 : List ByteArray) (r3 : List Int) (w : World) (hr0_1 : Kd.C Kd.string w A0_1 l0_1.length l0_1) (hc0_1 : l0_1.length ≤ c0_1) (hr0_2 : Kd.C (Kd.int .i64) w A0_2 l0_2.length l0_2) (hc0_2 : l0_2.length ≤ c0_2) (h : fact_own.f a0_0 l0_1 l0_2 = some (r1, r2, r3)) :
  Calls Try.prog 47 #[.agg #[.int .i64 a0_0, .slice A0_1 l0_1.length c0_1, .slice A0_2 l0_2.length c0_2]] w fun e w' => ∃ v1_ v2_ : Value, e = .returned (.agg #[.int .i64 r1, v1_, v2_]) ∧ Kd.R Kd.string 9 w' w.heap.size (fun _ => True) v1_ r2 ∧ Kd.R (Kd.int .i64) 2 w' w.heap.size (fun _ => True) v2_ r3 ∧ Below w.heap.size w w' := by
 have hu27 := Try.underlying27
 have HR0_1 := Aside0.mk hr0_1
 have HC0_1 := Aside0.mk hc0_1
 clear hr0_1 hc0_1
 have HR0_2 := Aside0.mk hr0_2
 have HC0_2 := Aside0.mk hc0_2
 clear hr0_2 hc0_2
 have HB := Aside0.mk (Below.refl w.heap.size w)
 have H : ((slices_Clone_string_string.f l0_1).bind fun t341 => ((slices_Clone_int64_int64.f l0_2).bind fun t344 => (some (a0_0, t341, t344)))) = some (r1, r2, r3) := h
 clear h
 replace H := Option.bind_eq_some_iff.mp H
 obtain ⟨t341, A20, H⟩ := H
 replace H : ((slices_Clone_int64_int64.f l0_2).bind fun t344 => (some (a0_0, t341, t344))) = some (r1, r2, r3) := H
 have A2 := Aside0.mk A20
 clear A20
 replace H := Option.bind_eq_some_iff.mp H
 obtain ⟨t344, A30, H⟩ := H
 replace H : (some (a0_0, t341, t344)) = some (r1, r2, r3) := H
 have A3 := Aside0.mk A30
 clear A30
 simp only [Option.some.injEq, Prod.mk.injEq] at H
 obtain ⟨rfl, rfl, rfl⟩ := H
 go_enter Try.func47, Try.ntmps47
 try go_wp2_with (first | ((with_reducible refine gate_dst (N := 1) rfl ?_); refine bx_ (N := 1) (cs := #[.int .i64 a0_0, .slice A0_1 l0_1.length c0_1, .slice A0_2 l0_2.length c0_2]) (t := 27) ?_; intro gb339 hg w4 hbox hb; have n0_ := Aside0.mk (below_step (bw_ HB.out) hb); have n1_ := Aside0.mk (hbox); have n2_ := Aside0.mk (sz_ hg (bw_ HB.out)); have n3_ := n2_; clear HB; have HB := n0_; have BK339 := n1_; have GW339 := n2_; have GE339 := n3_; clear n0_ n1_ n2_ n3_; clear hb hbox hg) | ((with_reducible refine gate_dst (N := 2) rfl ?_); refine bx_ (N := 2) (cs := #[.int .i64 0, .slice none 0 0, .slice none 0 0]) (t := 27) ?_; intro gb340 hg w5 hbox hb; have n0_ := Aside0.mk (blk_below (bk_ BK339.out) hb); have n1_ := Aside0.mk (below_step (bw_ HB.out) hb); have n2_ := Aside0.mk (hbox); have n3_ := Aside0.mk (sz_ hg (bw_ HB.out)); have n4_ := n3_; have n5_ := Aside0.mk (ne_ hg (blk_lt (bk_ BK339.out))); have n6_ := Aside0.mk n5_.out.symm; clear BK339 HB; have BK339 := n0_; have HB := n1_; have BK340 := n2_; have GW340 := n3_; have GE340 := n4_; have NB339_340 := n5_; have NB340_339 := n6_; clear n0_ n1_ n2_ n3_ n4_ n5_ n6_; clear hb hbox hg))
 have n0_ := Aside0.mk (blk_drew BK339.out)
 have n1_ := Aside0.mk (blk_drew BK340.out)
 have n2_ := Aside0.mk (below_drew1 HB.out)
 clear BK339
 clear BK340
 clear HB
 have BK339 := n0_
 have BK340 := n1_
 have HB := n2_
 clear n0_ n1_ n2_
 refine start_ (n := 10) (S := fun w' => w'.cell? ⟨gb339, 0, none⟩ = some (.int .i64 a0_0) ∧ w'.cell? ⟨gb339, 1, none⟩ = some (.slice A0_1 l0_1.length c0_1) ∧ w'.cell? ⟨gb339, 2, none⟩ = some (.slice A0_2 l0_2.length c0_2)) (ds := []) #[false, false, false, false, false, false, false, false, false, false] (by kernel_rfl) rfl rfl ⟨(blk_cell BK339.out 0).trans rfl, (blk_cell BK339.out 1).trans rfl, (blk_cell BK339.out 2).trans rfl⟩ (fun hHeld => ?_); refine with_tabW fact_own.tab1 fact_own.bits1 (fun HT_ HW_ => ?_)
 generalize w5.drew = w6 at BK339 BK340 HB hHeld ⊢
 refine pure_ (i := 0) (N := some 3) (v := ?_) (a' := ?_) #[true, false, false, false, false, false, false, false, false, false] rfl rfl (any_of HT_.out (by kernel_rfl)) (fun _ _ _ h => h) (Or.inl ⟨by rfl, ?_⟩) ?_ ?_
 rotate_left
 ·intro w'
  go_simp
  with_reducible rfl
 rotate_left
 ·simp only [Act.put, q1_, q2_, q3_, i64_w, i32_w]
  rfl
 refine pure_ (i := 2) (N := some 5) (v := ?_) (a' := ?_) #[true, false, true, false, false, false, false, false, false, false] rfl rfl (any_of HT_.out (by kernel_rfl)) (fun _ _ _ h => h) (Or.inl ⟨by rfl, ?_⟩) ?_ ?_
 rotate_left
 ·intro w'
  go_simp
  with_reducible rfl
 rotate_left
 ·simp only [Act.put, q1_, q2_, q3_, i64_w, i32_w]
  rfl
 refine pure_ (i := 5) (N := some 8) (v := ?_) (a' := ?_) #[true, false, true, false, false, true, false, false, false, false] rfl rfl (any_of HT_.out (by kernel_rfl)) (fun _ _ _ h => h) (Or.inl ⟨by rfl, ?_⟩) ?_ ?_
 rotate_left
 ·intro w'
  go_simp
  with_reducible rfl
 rotate_left
 ·simp only [Act.put, q1_, q2_, q3_, i64_w, i32_w]
  rfl
 refine take_ (i := 1) (N := some 4) (v := ?_) (a' := ?_) #[true, true, true, false, false, true, false, false, false, false] rfl rfl (take_ofW HT_.out HW_.out (by kernel_rfl)) (fun _ _ _ h => h) (Or.inl ⟨by rfl, ?_⟩) hHeld ?_ ?_
 rotate_left
 ·rintro w' ⟨s0, s1, s2⟩
  go_simp
  with_reducible rfl
 rotate_left
 ·simp only [Act.put, q1_, q2_, q3_, i64_w, i32_w]
  rfl
 refine take_ (i := 3) (N := some 6) (v := ?_) (a' := ?_) #[true, true, true, true, false, true, false, false, false, false] rfl rfl (take_ofW HT_.out HW_.out (by kernel_rfl)) (fun _ _ _ h => h) (Or.inl ⟨by rfl, ?_⟩) hHeld ?_ ?_
 rotate_left
 ·rintro w' ⟨s0, s1, s2⟩
  go_simp
  with_reducible rfl
 rotate_left
 ·simp only [Act.put, q1_, q2_, q3_, i64_w, i32_w]
  rfl
 refine take_ (i := 6) (N := some 9) (v := ?_) (a' := ?_) #[true, true, true, true, false, true, true, false, false, false] rfl rfl (take_ofW HT_.out HW_.out (by kernel_rfl)) (fun _ _ _ h => h) (Or.inl ⟨by rfl, ?_⟩) hHeld ?_ ?_
 rotate_left
 ·rintro w' ⟨s0, s1, s2⟩
  go_simp
  with_reducible rfl
 rotate_left
 ·simp only [Act.put, q1_, q2_, q3_, i64_w, i32_w]
  rfl
 refine one_ (i := 4) (N := some 7) #[true, true, true, true, true, true, true, false, false, false] rfl rfl (one_of HT_.out (by kernel_rfl)) (by decide) (fun K hK => ?_)
 refine goes_ Try.func53 (by kernel_rfl) rfl #[.slice A0_1 l0_1.length c0_1] (by rfl) rfl rfl (by (try simp only [List.map_toArray, List.map_cons, List.map_nil]); first | done | rfl | (simp only [List.length_drop, List.length_take]; rfl)) ?_
 with_reducible refine (slices_Clone_string_string.calls _ _ l0_1 t341 _ ?side1 ?side2 A2.out).mono ?_
 (case side1 => repeat (first | exact (Kd.C_below HR0_1.out HB.out) | (with_reducible refine Kd.C_alloc ?_ _) | (with_reducible refine Kd.C_drewN ?_ _) | (with_reducible refine Kd.C_drew ?_)))
 (case side2 => exact HC0_1.out)
 rintro e w7 ⟨v342, rfl, ho0, hb⟩
 refine ⟨_, rfl, ?_⟩
 have n0_ := Aside0.mk (Kd.R_lower ho0 (below_size (bw_ HB.out)))
 have n1_ := Aside0.mk (blk_below (bk_ BK339.out) hb)
 have n2_ := Aside0.mk (blk_below (bk_ BK340.out) hb)
 have n3_ := Aside0.mk (below_step (bw_ HB.out) hb)
 clear BK339
 clear BK340
 clear HB
 have HO343 := n0_
 have BK339 := n1_
 have BK340 := n2_
 have HB := n3_
 clear n0_ n1_ n2_ n3_
 (try clear hb)
 (try clear hb2)
 (try clear hk)
 (try clear hi)
 (try clear ho0)
 refine hK.out _ _ ⟨(blk_cell BK339.out 0).trans rfl, (blk_cell BK339.out 1).trans rfl, (blk_cell BK339.out 2).trans rfl⟩ (fun hHeld => ?_)
 clear hK K
 refine norm_ (a' := ?_) ?_ ?_
 rotate_left
 ·show Act.put _ (some 7) _ = _
  simp only [Act.put, q1_, q2_, q3_, i64_w, i32_w]
  rfl
 refine one_ (i := 7) (N := some 10) #[true, true, true, true, true, true, true, true, false, false] rfl rfl (one_of HT_.out (by kernel_rfl)) (by decide) (fun K hK => ?_)
 refine goes_ Try.func54 (by kernel_rfl) rfl #[.slice A0_2 l0_2.length c0_2] (by rfl) rfl rfl (by (try simp only [List.map_toArray, List.map_cons, List.map_nil]); first | done | rfl | (simp only [List.length_drop, List.length_take]; rfl)) ?_
 with_reducible refine (slices_Clone_int64_int64.calls _ _ l0_2 t344 _ ?side1 ?side2 A3.out).mono ?_
 (case side1 => repeat (first | exact (Kd.C_below HR0_2.out HB.out) | (with_reducible refine Kd.C_alloc ?_ _) | (with_reducible refine Kd.C_drewN ?_ _) | (with_reducible refine Kd.C_drew ?_)))
 (case side2 => exact HC0_2.out)
 rintro e w8 ⟨v345, rfl, ho0, hb⟩
 refine ⟨_, rfl, ?_⟩
 have n0_ := Aside0.mk (Kd.R_below (by (with_reducible repeat (first | apply Kd.R_alloc | apply Kd.R_drewN | apply Kd.R_drew)); exact HO343.out) hb)
 have n1_ := Aside0.mk (Kd.R_lower ho0 (below_size (bw_ HB.out)))
 have n2_ := Aside0.mk (blk_below (bk_ BK339.out) hb)
 have n3_ := Aside0.mk (blk_below (bk_ BK340.out) hb)
 have n4_ := Aside0.mk (below_step (bw_ HB.out) hb)
 clear HO343
 clear BK339
 clear BK340
 clear HB
 have HO343 := n0_
 have HO346 := n1_
 have BK339 := n2_
 have BK340 := n3_
 have HB := n4_
 clear n0_ n1_ n2_ n3_ n4_
 (try clear hb)
 (try clear hb2)
 (try clear hk)
 (try clear hi)
 (try clear ho0)
 obtain ⟨Ao9, co9, eo9⟩ := Kd.R_slice HO346.out
 (first | subst eo9 | (injection eo9 with f1_ f2_ f3_; have f4_ := f1_.symm; have f5_ := f3_.symm; clear f1_ f2_ f3_; subst f4_; subst f5_))
 obtain ⟨Ao10, co10, eo10⟩ := Kd.R_slice HO343.out
 (first | subst eo10 | (injection eo10 with f1_ f2_ f3_; have f4_ := f1_.symm; have f5_ := f3_.symm; clear f1_ f2_ f3_; subst f4_; subst f5_))
 refine hK.out _ _ ⟨(blk_cell BK339.out 0).trans rfl, (blk_cell BK339.out 1).trans rfl, (blk_cell BK339.out 2).trans rfl⟩ (fun hHeld => ?_)
 clear hK K
 refine norm_ (a' := ?_) ?_ ?_
 rotate_left
 ·show Act.put _ (some 10) _ = _
  simp only [Act.put, q1_, q2_, q3_, i64_w, i32_w]
  rfl
 refine pure_ (i := 8) (N := some 11) (v := ?_) (a' := ?_) #[true, true, true, true, true, true, true, true, true, false] rfl rfl (any_of HT_.out (by kernel_rfl)) (fun _ _ _ h => h) (Or.inl ⟨by rfl, ?_⟩) ?_ ?_
 rotate_left
 ·intro w'
  go_simp
  with_reducible rfl
 rotate_left
 ·simp only [Act.put, q1_, q2_, q3_, i64_w, i32_w]
  rfl
 refine one_ (i := 9) (N := none) #[true, true, true, true, true, true, true, true, true, true] rfl rfl (one_of HT_.out (by kernel_rfl)) (by decide) (fun K hK => ?_)
 have hs11 : w8.cell? ⟨gb340, 0, none⟩ = some (.int .i64 0) := (blk_cell BK340.out 0).trans rfl
 have hfs11 := blk_frozen BK340.out 0
 have hns11_0 := NB339_340.out
 have hms11_0 := NB340_339.out
 have hs12 : w8.cell? ⟨gb340, 1, none⟩ = some (.slice none 0 0) := (blk_cell BK340.out 1).trans rfl
 have hfs12 := blk_frozen BK340.out 1
 have hns12_0 := NB339_340.out
 have hms12_0 := NB340_339.out
 have hs13 : w8.cell? ⟨gb340, 2, none⟩ = some (.slice none 0 0) := (blk_cell BK340.out 2).trans rfl
 have hfs13 := blk_frozen BK340.out 2
 have hns13_0 := NB339_340.out
 have hms13_0 := NB340_339.out
 refine skip_ (w1 := ?_) (by rfl) rfl ?_ ?_
 rotate_left
 ·go_simp
  rfl
 refine hK.out _ _ ⟨((cell_far (p := ⟨gb340, _, none⟩) NB339_340.out _).trans (((cell_far (p := ⟨gb340, _, none⟩) NB339_340.out _).trans (((cell_far (p := ⟨gb340, _, none⟩) NB339_340.out _).trans (hHeld.1)))))), ((cell_far (p := ⟨gb340, _, none⟩) NB339_340.out _).trans (((cell_far (p := ⟨gb340, _, none⟩) NB339_340.out _).trans (((cell_far (p := ⟨gb340, _, none⟩) NB339_340.out _).trans (hHeld.2.1)))))), ((cell_far (p := ⟨gb340, _, none⟩) NB339_340.out _).trans (((cell_far (p := ⟨gb340, _, none⟩) NB339_340.out _).trans (((cell_far (p := ⟨gb340, _, none⟩) NB339_340.out _).trans (hHeld.2.2))))))⟩ (fun hHeld => ?_)
 clear hK K
 refine done_ (done_of HT_.out (by kernel_rfl)) ?_
 try go_wp2
 refine bodyPost_ret (results_cell_row rfl _ _ gb340 27 #[.int .i64 a0_0, .slice Ao10 t341.length co10, .slice Ao9 t344.length co9] (0, 0) _ rfl (by (with_reducible repeat (first | refine blk_drewN ?_ _ | refine blk_drew ?_ | refine blk_alloc ?_ _)); refine blk_put (cs := #[.int .i64 a0_0, .slice Ao10 t341.length co10, .slice none 0 0]) ?_ 2 _ rfl; (with_reducible repeat (first | refine blk_drewN ?_ _ | refine blk_drew ?_ | refine blk_alloc ?_ _)); refine blk_put (cs := #[.int .i64 a0_0, .slice none 0 0, .slice none 0 0]) ?_ 1 _ rfl; (with_reducible repeat (first | refine blk_drewN ?_ _ | refine blk_drew ?_ | refine blk_alloc ?_ _)); refine blk_put (cs := #[.int .i64 0, .slice none 0 0, .slice none 0 0]) ?_ 0 _ rfl; (with_reducible repeat (first | refine blk_drewN ?_ _ | refine blk_drew ?_ | refine blk_alloc ?_ _)); exact BK340.out) Try.underlying27 rfl (by kernel_rfl)) rfl ?_
 exact ⟨_, _, by first | rfl | (simp [errW_none, errW_some] <;> rfl) | (simp [*, errW_none, errW_some] <;> rfl), by (with_reducible repeat (first | apply Kd.R_alloc | apply Kd.R_drewN | apply Kd.R_drew)); exact Kd.R_mono (Kd.R_far (p := ⟨gb340, 2, none⟩) (Kd.R_far (p := ⟨gb340, 1, none⟩) (Kd.R_far (p := ⟨gb340, 0, none⟩) (Kd.R_types HO343.out BK340.out (by decide)) (fun _ hk => hk.2) (.int .i64 a0_0)) (fun _ hk => hk.2) (.slice Ao10 t341.length co10)) (fun _ hk => hk.2) (.slice Ao9 t344.length co9)) (fun _ hk => trivial), by (with_reducible repeat (first | apply Kd.R_alloc | apply Kd.R_drewN | apply Kd.R_drew)); exact Kd.R_mono (Kd.R_far (p := ⟨gb340, 2, none⟩) (Kd.R_far (p := ⟨gb340, 1, none⟩) (Kd.R_far (p := ⟨gb340, 0, none⟩) (Kd.R_types HO346.out BK340.out (by decide)) (fun _ hk => hk.2) (.int .i64 a0_0)) (fun _ hk => hk.2) (.slice Ao10 t341.length co10)) (fun _ hk => hk.2) (.slice Ao9 t344.length co9)) (fun _ hk => trivial), by repeat (first | (with_reducible first | exact HB.out | apply below_alloc | apply pw_below_drewN | apply below_drew1 | refine below_set ?_ GE339.out | refine below_set ?_ GE340.out) | exact HB.out)⟩
end Go.Proofs.Ytfeeahjaeapkoaa.P
end

section
namespace Go.Proofs.Ytfeeahjaeapkoaa.Ext
set_option linter.unusedVariables false
set_option linter.unusedSimpArgs false
open Go.RowKit Go.Proofs.YtfeeahjaeapkoaaW.PrintWords Go.Proofs.YtfeeahjaeapkoaaW.PrintLast Go.Proofs.YtfeeahjaeapkoaaW.PrintMore Go.Proofs.Ytfeeahjaeapkoaa.Lib Go.Proofs.Ytfeeahjaeapkoaa.P
def zM : M := ((0, [], []), 0)
def upB (l : List M) (i : Nat) : List M := bagB [] (l.take i)
theorem bagB_append (b l k : List M) : bagB b (l ++ k) = bagB (bagB b l) k := by unfold bagB; rw [List.foldl_append]
theorem upB_first (l : List M) : upB l 0 = [] := rfl
theorem upB_all (l : List M) : upB l l.length = bagB [] l := by unfold upB; rw [List.take_length]
theorem upB_succ (l : List M) (i : Nat) (h : i < l.length) : upB l (i + 1) = putB (upB l i) l[i].1 l[i].2 := by
  unfold upB
  rw [List.take_succ_eq_append_getElem h, bagB_append]
  rfl
theorem upB_strict (l : List M) (i : Nat) : Strict (upB l i) := bagB_strict _ _ List.Pairwise.nil
theorem bagB_mem : ∀ (l b : List M) (y : M), y ∈ bagB b l → y ∈ b ∨ (∃ z ∈ l, y.1 = z.1) ∨ ∃ z ∈ b, y.1 = z.1
  | [], b, y, h => .inl h
  | x :: l, b, y, h => by
    have key : ∀ z, z ∈ putB b x.1 x.2 → z.1 = x.1 ∨ z ∈ b := fun z hz => putB_mem b x.1 x.2 z hz
    rcases bagB_mem l (putB b x.1 x.2) y h with h | ⟨z, hz, e⟩ | ⟨z, hz, e⟩
    · rcases key y h with h | h
      · exact .inr (.inl ⟨x, by simp, h⟩)
      · exact .inl h
    · exact .inr (.inl ⟨z, by simp [hz], e⟩)
    · rcases key z hz with h | h
      · exact .inr (.inl ⟨x, by simp, e.trans h⟩)
      · exact .inr (.inr ⟨z, h, e⟩)
def SortedM (l : List M) : Prop := l.Pairwise fun x y => ¬ fC y.1 x.1 < 0
theorem up_below {l : List M} (hs : SortedM l) (i : Nat) (hi : i < l.length) (y : M) (hy : y ∈ upB l i) : fC y.1 l[i].1 = -1 ∨ fC y.1 l[i].1 = 0 := by
  have key : ∀ z ∈ l.take i, fC z.1 l[i].1 = -1 ∨ fC z.1 l[i].1 = 0 := by
    intro z hz
    obtain ⟨j, hj, rfl⟩ := List.getElem_of_mem hz
    have hj2 : j < i := by rw [List.length_take] at hj; omega
    rw [List.getElem_take]
    have := List.pairwise_iff_getElem.1 hs j i (by omega) hi hj2
    rw [fC_anti] at this
    have := fC_vals l[j].1 l[i].1
    omega
  rcases bagB_mem _ _ _ hy with h | ⟨z, hz, e⟩ | ⟨z, hz, e⟩
  · simp at h
  · rw [e]; exact key z hz
  · simp at hz
theorem last_split (b : List M) (k : Nat) (hk : b.length = k + 1) : b = b.take k ++ [b.getD k zM] := by
  have h : k < b.length := by omega
  conv => lhs; rw [← List.take_length (l := b), hk, List.take_succ_eq_append_getElem h]
  rw [List.getD_eq_getElem?_getD, List.getElem?_eq_getElem h]; rfl
theorem strict_last (b : List M) (hs : Strict b) (k : Nat) (hk : b.length = k + 1) : ∀ y ∈ b.take k, fC y.1 (b.getD k zM).1 = -1 := by
  intro y hy
  have := hs
  unfold Strict at this
  rw [last_split b k hk, List.pairwise_append] at this
  exact this.2.2 y hy _ (by simp)
theorem up_new {l : List M} (hs : SortedM l) (i : Nat) (hi : i < l.length) (hne : ∀ k, (upB l i).length = k + 1 → fC ((upB l i).getD k zM).1 l[i].1 ≠ 0) : upB l (i + 1) = upB l i ++ [l[i]] := by
  rw [upB_succ l i hi]
  refine put_last _ _ _ (fun y hy => ?_)
  rcases hk : (upB l i).length with _ | k
  · rw [List.length_eq_zero_iff] at hk; rw [hk] at hy; simp at hy
  · have hb := last_split _ k hk
    have hlast : fC ((upB l i).getD k zM).1 l[i].1 = -1 := by
      rcases up_below hs i hi ((upB l i).getD k zM) (by
        have h : k < (upB l i).length := by omega
        rw [List.getD_eq_getElem?_getD, List.getElem?_eq_getElem h]; exact List.getElem_mem h) with h | h
      · exact h
      · exact absurd h (hne k hk)
    rw [hb, List.mem_append] at hy
    rcases hy with hy | hy
    · exact fC_trans (strict_last _ (upB_strict l i) k hk y hy) hlast
    · rw [List.mem_singleton] at hy; rw [hy]; exact hlast
theorem set_last (b : List M) (y x : M) (k : Nat) (hk : b.length = k) : (b ++ [y]).set k x = b ++ [x] := by
  rw [List.set_append_right _ _ (by omega), hk, Nat.sub_self]; rfl
theorem up_same {l : List M} (hs : SortedM l) (i : Nat) (hi : i < l.length) (k : Nat) (hk : (upB l i).length = k + 1) (h : fC ((upB l i).getD k zM).1 l[i].1 = 0) :
    upB l (i + 1) = (upB l i).set k (((upB l i).getD k zM).1, W64 (((upB l i).getD k zM).2 + l[i].2)) := by
  rw [upB_succ l i hi]
  have hb := last_split _ k hk
  have e := fC_eq h
  have hl : ((upB l i).take k).length = k := by rw [List.length_take]; omega
  have hst := strict_last _ (upB_strict l i) k hk
  generalize (upB l i).getD k zM = y at *
  generalize (upB l i).take k = b0 at *
  rw [hb, set_last b0 _ _ k hl, ← e]
  obtain ⟨yf, yn⟩ := y
  exact put_same b0 yf yn _ hst
theorem putB_len : ∀ (b : List M) (f : F) (n : Int), (putB b f n).length ≤ b.length + 1
  | [], _, _ => by simp [putB]
  | (g, m) :: r, f, n => by
    rw [putB]
    have := putB_len r f n
    split
    · simp; omega
    · split <;> simp
theorem upB_len (l : List M) : ∀ i, i ≤ l.length → (upB l i).length ≤ i
  | 0, _ => by rw [upB_first]; exact Nat.le_refl _
  | i + 1, h => by
    rw [upB_succ l i (by omega)]
    have := putB_len (upB l i) l[i].1 l[i].2
    have := upB_len l i (by omega)
    omega
structure OwnD (w : World) (base g : Nat) (q : Q) (x : M) : Prop where
  t : q.1 = x.1.1
  n : q.2.2.2 = x.2
  d : Kd.string.R 9 w base (fun k => True ∧ some k ≠ some g) (.slice q.2.1.1 q.2.1.2.1 q.2.1.2.2) x.1.2.1
  m : (Kd.int .i64).R 2 w base (fun k => True ∧ some k ≠ some g) (.slice q.2.2.1.1 q.2.2.1.2.1 q.2.2.1.2.2) x.1.2.2
  dl : x.1.2.1.length ≤ 8796093022208
  ml : x.1.2.2.length ≤ 17592186044416
theorem OwnD.below {w w' : World} {base g : Nat} {q : Q} {x : M} (h : OwnD w base g q x) (hb : Below w.heap.size w w') : OwnD w' base g q x := ⟨h.t, h.n, Kd.R_below h.d hb, Kd.R_below h.m hb, h.dl, h.ml⟩
theorem OwnD.grown {w w' : World} {base g : Nat} {q : Q} {x : M} (h : OwnD w base g q x) (hb : w.grownBy w' (some g)) : OwnD w' base g q x := ⟨h.t, h.n, Kd.R_grown h.d hb (fun _ hk => hk.2), Kd.R_grown h.m hb (fun _ hk => hk.2), h.dl, h.ml⟩
theorem own_new {w w' : World} {g base : Nat} {t N : Int} {dA mA : Option Addr} {dn dc mn mc : Nat} {x : M} (hg : g < w.heap.size) (hle : base ≤ w.heap.size) (ht : t = x.1.1) (hn : N = x.2) (hd : Kd.string.R 9 w' w.heap.size (fun _ => True) (.slice dA dn dc) x.1.2.1) (hm : (Kd.int .i64).R 2 w' w.heap.size (fun _ => True) (.slice mA mn mc) x.1.2.2) (dl : x.1.2.1.length ≤ 8796093022208) (ml : x.1.2.2.length ≤ 17592186044416) :
    OwnD w' base g (t, (dA, dn, dc), (mA, mn, mc), N) x :=
  ⟨ht, hn, Kd.R_lower (Kd.R_mono (Kd.R_bound hd) (fun k hk => ⟨trivial, fun h => by injection h with h; have := hk.2.1; omega⟩)) hle, Kd.R_lower (Kd.R_mono (Kd.R_bound hm) (fun k hk => ⟨trivial, fun h => by injection h with h; have := hk.2.1; omega⟩)) hle, dl, ml⟩
def s40 (x : M) : S40 := ⟨⟨x.1.1, x.1.2.1, x.1.2.2⟩, x.2⟩
theorem own_row {w : World} {base g n c : Nat} {ys : List Q} {b : List M} (h : kq.R 40 w base (fun _ => True) (.slice (some ⟨g, 0, none⟩) n c) ys) (hl : b.length = ys.length) (ho : ∀ j, j < b.length → OwnD w base g (ys.getD j zQ) (b.getD j zM)) :
    k40.R 40 w base (fun _ => True) (.slice (some ⟨g, 0, none⟩) n c) (b.map s40) := by
  obtain ⟨h0, inner, hw, hr⟩ := h
  refine ⟨h0, inner, ?_, ?_⟩
  · rw [List.length_map, hl]; exact hw
  · refine ⟨?_, fun j p hj => ?_⟩
    · rw [List.length_map, hl]; exact hr.1
    · rw [List.getElem?_map] at hj
      obtain ⟨x, hx, rfl⟩ := Option.map_eq_some_iff.1 hj
      obtain ⟨hjl, rfl⟩ := List.getElem?_eq_some_iff.1 hx
      have hy : ys[j]? = some (ys.getD j zQ) := by rw [List.getD_eq_getElem?_getD, List.getElem?_eq_getElem (by omega)]; rfl
      have o := ho j hjl
      have eb : b.getD j zM = b[j] := by rw [List.getD_eq_getElem?_getD, List.getElem?_eq_getElem hjl]; rfl
      rw [eb] at o
      have hM := hr.2 j _ hy
      have e := kq_M.1 hM
      have hM2 : k40.M w base (fun k => True ∧ some k ≠ (Value.slice (some ⟨g, 0, none⟩) n c).ownBlock) (s40 b[j]) (encQ (ys.getD j zQ)) := by
        have := k40_mkM w base (fun k => True ∧ some k ≠ some g) (s40 b[j]) o.d o.m
        unfold encQ
        rw [o.t, o.n]
        exact this
      exact e ▸ hM2
theorem kq_putN {w : World} {base : Nat} {ok : Nat → Prop} {g n c : Nat} {xs : List Q} {e : TypeId} (h : kq.R e w base ok (.slice (some ⟨g, 0, none⟩) n c) xs) (i : Nat) (hi : i < n) (N : Int) :
    kq.R e (w.setCell ⟨g, i * 4 + 3, none⟩ (.int .u64 N)) base ok (.slice (some ⟨g, 0, none⟩) n c) (xs.set i ((xs.getD i zQ).1, (xs.getD i zQ).2.1, (xs.getD i zQ).2.2.1, N)) ∧ w.grownBy (w.setCell ⟨g, i * 4 + 3, none⟩ (.int .u64 N)) (some g) := by
  obtain ⟨cs, hcl, hM, hcc⟩ := Kd.R_getA h zQ (i : Int) (by omega) (by omega)
  have e4 : kq.sz = 4 := rfl
  have hl : cs.length = 4 := hcl
  have e1 := kq_M.1 hM
  rw [Int.toNat_natCast] at e1
  have := Kd.R_seg h (i : Int) (by omega) (by omega) (c := cs) (seg := [.int .u64 N]) (j := 3) (x' := ((xs.getD i zQ).1, (xs.getD i zQ).2.1, (xs.getD i zQ).2.2.1, N)) (okp := fun _ => False) hcl (fun j u hu => by have := hcc j u hu; rw [add_at, Nat.zero_add] at this; rw [Int.toNat_natCast]; exact this) (by rw [e4]; exact Nat.le_refl _)
    (kq_M.2 (by rw [e1]; rfl)) (fun _ hk => hk.elim)
  rw [Int.toNat_natCast, e4] at this
  exact this
theorem R_cases {α : Type} {d : Kd α} {e : TypeId} {w : World} {base : Nat} {ok : Nat → Prop} {v : Value} {xs : List α} (h : d.R e w base ok v xs) : (v = .slice none 0 0 ∧ xs = []) ∨ ∃ g c, v = .slice (some ⟨g, 0, none⟩) xs.length c ∧ base ≤ g ∧ g < w.heap.size := by
  obtain ⟨_, inner, ho, hr⟩ := h
  have hlt := own_lt ho
  have hbs := own_base ho
  rcases ho.2 with h2 | ⟨g, cap, cur, rfl, hg, _⟩
  · exact .inl ⟨h2.1, List.length_eq_zero_iff.1 h2.2⟩
  · exact .inr ⟨g, cap, rfl, hg, hlt g rfl⟩
structure Fl (w : World) (q : Q) (x : F) : Prop where
  t : q.1 = x.1
  dn : q.2.1.2.1 = x.2.1.length
  dc : x.2.1.length ≤ q.2.1.2.2
  d : Kd.string.C w q.2.1.1 x.2.1.length x.2.1
  mn : q.2.2.1.2.1 = x.2.2.length
  mc : x.2.2.length ≤ q.2.2.1.2.2
  m : (Kd.int .i64).C w q.2.2.1.1 x.2.2.length x.2.2
  dl : x.2.1.length ≤ 8796093022208
  ml : x.2.2.length ≤ 17592186044416
theorem Dec.fl {w w' : World} {g : Nat} {q : Q} {x : F} (h : Dec w g q x) (hk : w.grownBy w' (some g)) : Fl w' q x := ⟨h.t, h.dn, h.dc, h.d _ (keep_grown hk), h.mn, h.mc, h.m _ (keep_grown hk), h.dl, h.ml⟩
theorem OwnD.fl {w : World} {base g : Nat} {q : Q} {x : M} (h : OwnD w base g q x) : Fl w q x.1 := by
  obtain ⟨e1, l1, c1⟩ := Kd.R_reads' h.d
  obtain ⟨e2, l2, c2⟩ := Kd.R_reads' h.m
  exact ⟨h.t, e1, e1 ▸ l1, c1, e2, e2 ▸ l2, c2, h.dl, h.ml⟩
theorem Fl.below {w w' : World} {q : Q} {x : F} (h : Fl w q x) (hb : Below w.heap.size w w') : Fl w' q x := ⟨h.t, h.dn, h.dc, Kd.C_below h.d hb, h.mn, h.mc, Kd.C_below h.m hb, h.dl, h.ml⟩
abbrev qV (q : Q) : Value := .agg #[.int .i64 q.1, .slice q.2.1.1 q.2.1.2.1 q.2.1.2.2, .slice q.2.2.1.1 q.2.2.1.2.1 q.2.2.1.2.2]
theorem qV_is {w : World} {q : Q} {x : F} (h : Fl w q x) : qV q = .agg #[.int .i64 x.1, .slice q.2.1.1 x.2.1.length q.2.1.2.2, .slice q.2.2.1.1 x.2.2.length q.2.2.1.2.2] := by unfold qV; rw [h.t, h.dn, h.mn]
theorem cmp_flat {w : World} {p q : Q} {x y : F} (hp : Fl w p x) (hq : Fl w q y) : Calls Try.prog 14 #[qV p, qV q] w fun e w' => e = .returned (.int .i64 (fC x y)) ∧ Below w.heap.size w w' := by
  rw [qV_is hp, qV_is hq]
  exact fact_Compare.calls _ x.1 p.2.1.1 p.2.1.2.2 x.2.1 p.2.2.1.1 p.2.2.1.2.2 x.2.2 y.1 q.2.1.1 q.2.1.2.2 y.2.1 q.2.2.1.1 q.2.2.1.2.2 y.2.2 _ w hp.d hp.dc hp.m hp.mc hq.d hq.dc hq.m hq.mc (compare_is x.1 y.1 x.2.1 y.2.1 x.2.2 y.2.2 (Nat.lt_of_le_of_lt hp.dl (by decide)) (Nat.lt_of_le_of_lt hp.ml (by decide)) _ (Nat.le_refl _))
theorem own_flat {w : World} {q : Q} {x : F} (hq : Fl w q x) : Calls Try.prog 47 #[qV q] w fun e w' => ∃ (dA : Option Addr) (dn dc : Nat) (mA : Option Addr) (mn mc : Nat), e = .returned (.agg #[.int .i64 x.1, .slice dA dn dc, .slice mA mn mc]) ∧ Kd.string.R 9 w' w.heap.size (fun _ => True) (.slice dA dn dc) x.2.1 ∧ (Kd.int .i64).R 2 w' w.heap.size (fun _ => True) (.slice mA mn mc) x.2.2 ∧ Below w.heap.size w w' := by
  rw [qV_is hq]
  refine (fact_own.calls x.1 q.2.1.1 q.2.1.2.2 x.2.1 q.2.2.1.1 q.2.2.1.2.2 x.2.2 x.1 x.2.1 x.2.2 w hq.d hq.dc hq.m hq.mc (by unfold fact_own.f slices_Clone_string_string.f slices_Clone_int64_int64.f; rw [if_pos hq.dl, if_pos hq.ml]; rfl)).mono ?_
  rintro e w' ⟨v1, v2, rfl, r1, r2, hb⟩
  obtain ⟨A1, c1, rfl, -, -⟩ := Kd.R_reads r1
  obtain ⟨A2, c2, rfl, -, -⟩ := Kd.R_reads r2
  exact ⟨A1, _, c1, A2, _, c2, rfl, r1, r2, hb⟩
structure Inv2 (w0 w5 w' : World) (base g m c : Nat) (zs ys : List Q) (l : List M) (i : Nat) : Prop where
  row : kq.R 40 w' base (fun _ => True) (.slice (some ⟨g, 0, none⟩) m c) ys
  rest : ∀ j, i ≤ j → ys.getD j zQ = zs.getD j zQ
  own : ∀ j, j < (upB l i).length → OwnD w' base g (ys.getD j zQ) ((upB l i).getD j zM)
  below : Below w0.heap.size w0 w'
  grown : w5.grownBy w' (some g)
section
variable {w0 w5 w' w'' : World} {base g m c : Nat} {zs ys : List Q} {l : List M} {i : Nat}
theorem Inv2.step (h : Inv2 w0 w5 w' base g m c zs ys l i) (hb : Below w'.heap.size w' w'') : Inv2 w0 w5 w'' base g m c zs ys l i :=
  ⟨Kd.R_below h.row hb, h.rest, fun j hj => (h.own j hj).below hb, below_then h.below h.below.size hb, grown_below h.grown hb⟩
theorem getD_set_ne {α : Type} {z : α} (ys : List α) (i j : Nat) (q : α) (h : i ≠ j) : (ys.set i q).getD j z = ys.getD j z := by
  rw [List.getD_eq_getElem?_getD, List.getElem?_set_ne h, ← List.getD_eq_getElem?_getD]
theorem getD_set_eq {α : Type} {z : α} (ys : List α) (i : Nat) (q : α) (h : i < ys.length) : (ys.set i q).getD i z = q := by
  rw [List.getD_eq_getElem?_getD, List.getElem?_set_self h]; rfl
theorem Inv2.same (h : Inv2 w0 w5 w' base g m c zs ys l i) (hs : SortedM l) (hi : i < l.length) (hm : l.length = m) (hbg : w0.heap.size ≤ g) (k : Nat) (hk : (upB l i).length = k + 1) (he : fC ((upB l i).getD k zM).1 l[i].1 = 0) :
    Inv2 w0 w5 (w'.setCell ⟨g, k * 4 + 3, none⟩ (.int .u64 (W64 ((ys.getD k zQ).2.2.2 + l[i].2)))) base g m c zs (ys.set k ((ys.getD k zQ).1, (ys.getD k zQ).2.1, (ys.getD k zQ).2.2.1, W64 ((ys.getD k zQ).2.2.2 + l[i].2))) l (i + 1) := by
  have hki := upB_len l i (Nat.le_of_lt hi)
  obtain ⟨r1, g1⟩ := kq_putN h.row k (by omega) (W64 ((ys.getD k zQ).2.2.2 + l[i].2))
  have hyl : ys.length = m := (Kd.R_reads' h.row).1.symm
  refine ⟨r1, fun j hj => ?_, fun j hj => ?_, below_set h.below hbg, grown_trans h.grown g1⟩
  · rw [getD_set_ne _ _ _ _ (by omega)]; exact h.rest j (by omega)
  · rw [up_same hs i hi k hk he] at hj ⊢
    rw [List.length_set] at hj
    by_cases e : j = k
    · subst e
      have o := (h.own j (by omega)).grown g1
      have hn := o.n
      rw [getD_set_eq ys _ _ (by omega), getD_set_eq (upB l i) _ _ (by omega)]
      exact ⟨o.t, by rw [hn], o.d, o.m, o.dl, o.ml⟩
    · rw [getD_set_ne ys _ _ _ (fun h => e h.symm), getD_set_ne (upB l i) _ _ _ (fun h => e h.symm)]
      exact (h.own j (by omega)).grown g1
theorem Inv2.put (h : Inv2 w0 w5 w' base g m c zs ys l i) (hs : SortedM l) (hi : i < l.length) (hm : l.length = m) (hbg : w0.heap.size ≤ g) (hne : ∀ k, (upB l i).length = k + 1 → fC ((upB l i).getD k zM).1 l[i].1 ≠ 0) (q : Q) (ho : OwnD w' base g q l[i]) :
    Inv2 w0 w5 (w'.setCells g ((upB l i).length * 4) (encQ q)) base g m c zs (ys.set (upB l i).length q) l (i + 1) := by
  have hki := upB_len l i (Nat.le_of_lt hi)
  obtain ⟨r1, g1⟩ := kq_put h.row (upB l i).length (by omega) q
  have hyl : ys.length = m := (Kd.R_reads' h.row).1.symm
  refine ⟨r1, fun j hj => ?_, fun j hj => ?_, ?_, grown_trans h.grown g1⟩
  · rw [getD_set_ne _ _ _ _ (by omega)]; exact h.rest j (by omega)
  · rw [up_new hs i hi hne] at hj ⊢
    rw [List.length_append, List.length_singleton] at hj
    by_cases e : j = (upB l i).length
    · subst e
      rw [getD_set_eq _ _ _ (by omega), show (upB l i ++ [l[i]]).getD (upB l i).length zM = l[i] by rw [List.getD_eq_getElem?_getD, List.getElem?_append_right (Nat.le_refl _), Nat.sub_self]; rfl]
      exact ho.grown g1
    · rw [getD_set_ne _ _ _ _ (fun h => e h.symm), show (upB l i ++ [l[i]]).getD j zM = (upB l i).getD j zM by rw [List.getD_eq_getElem?_getD, List.getElem?_append_left (by omega), ← List.getD_eq_getElem?_getD]]
      exact (h.own j (by omega)).grown g1
  · rw [set4]
    exact below_set (below_set (below_set (below_set h.below hbg) hbg) hbg) hbg
end
end Go.Proofs.Ytfeeahjaeapkoaa.Ext
end
