/- Texts of this repo, joined, without what this claim does not use: P13, P14, P15, FactCmp, FactOrd, FactBag, Lib, Reg, FSort, FIns, FCmp, FSorted, FClone, P30, FBagP, FDel2, FBagQ, P19, FBagL, FBagV, FBag1, FFlat, FSym. -/
import Derived.Test.YtfeeahjaeapkoaaDFactOwn1
import Derived.Laws.CopyOwn
import Derived.Lib.SlBytesConst
import Derived.Laws.BitsLemmas
import Derived.WalkSpells
import Derived.Outline
section
namespace Go.Proofs.Ytfeeahjaeapkoaa.P
open Go.RowKit Go.Proofs.YtfeeahjaeapkoaaW.PrintWords Go.Proofs.YtfeeahjaeapkoaaW.PrintLast Go.Proofs.YtfeeahjaeapkoaaW.PrintMore
attribute [local go_sem] max2_int min2_int max_two min_two max_three min_three max_four min_four   -- for this text's walks alone
set_option linter.unusedVariables false
set_option linter.unusedSimpArgs false
open Go.Proofs.Ytfeeahjaeapkoaa.Ext (q1_ q2_ q3_)
attribute [local go_sem high] Go.Proofs.Ytfeeahjaeapkoaa.Ext.gtr_str Go.Proofs.Ytfeeahjaeapkoaa.Ext.leq_str Go.Proofs.Ytfeeahjaeapkoaa.Ext.geq_str
def slices_Compare_int64_int64.l0 : Nat → List Int → List Int → List Int → Int → Int → Option (Int)
 | 0, _, _, _, _, _ => none
 | k + 1, x0, x1, x9, x10, x11 => if x11 < x10 then (if 0 ≤ x11 then (if x11 < (x9.length : Int) then (if x11 ≥ (x1.length : Int) then (some 1) else (if x11 < (x1.length : Int) then ((cmp_Compare_int64.f (rd x9 x11) (rd x1 x11)).bind fun t122 => (if t122 = 0 then (slices_Compare_int64_int64.l0 k x0 x1 x9 x10 (wrap64 (x11 + 1))) else (some t122))) else (none))) else (none)) else (none)) else (if (x0.length : Int) < (x1.length : Int) then (some (-1)) else (some 0))
def slices_Compare_int64_int64.f (k : Nat) (l0 : List Int) (l1 : List Int) : Option (Int) := slices_Compare_int64_int64.l0 k l0 l1 l0 (l0.length : Int) 0
set_option maxHeartbeats 8000000 in
set_option maxRecDepth 100000 in
theorem slices_Compare_int64_int64.calls (k : Nat) (A0 : Option Addr) (c0 : Nat) (l0 : List Int) (A1 : Option Addr) (c1 : Nat) (l1 : List Int) (r : Int) (w : World) (hr0 : Kd.C (Kd.int .i64) w A0 l0.length l0) (hc0 : l0.length ≤ c0) (hr1 : Kd.C (Kd.int .i64) w A1 l1.length l1) (hc1 : l1.length ≤ c1) (h : slices_Compare_int64_int64.f k l0 l1 = some r) :
  Calls Try.prog 44 #[.slice A0 l0.length c0, .slice A1 l1.length c1] w fun e w' => e = .returned (.int .i64 r) ∧ Drawn0 w w' := by
 have HR0 := Aside0.mk hr0
 have HC0 := Aside0.mk hc0
 clear hr0 hc0
 have HR1 := Aside0.mk hr1
 have HC1 := Aside0.mk hc1
 clear hr1 hc1
 have H : (slices_Compare_int64_int64.l0 k l0 l1 l0 (l0.length : Int) 0) = some r := h
 clear h
 have H' := Aside0.mk H
 clear H
 go_enter Try.func44, Try.ntmps44
 go_wp2
 go_loopg [11] k (fun kq v11 w' => ∃ (x11_1 : Int), v11 = .int .i64 x11_1 ∧ Aside0 (slices_Compare_int64_int64.l0 kq l0 l1 l0 (l0.length : Int) x11_1 = some r) ∧ Aside0 (kq ≤ k) ∧ Drawn0 w w')
 case atStart => exact ⟨(0), (by first | rfl | (simp; done) | (simp [*]; done)), H', ⟨Nat.le_refl _⟩, by repeat (first | exact Drawn0.refl _ | apply Drawn0.step)⟩
 case round =>
  clear H'
  try clear c1
  try clear p2
  obtain ⟨x11_1, rfl, HA, HK1, ⟨m1, rfl⟩⟩ := hrel
  cases gk with
  | zero => exact absurd HA.out (by simp [slices_Compare_int64_int64.l0])
  | succ k1 =>
   have H := HA.out
   clear HA
   simp only [slices_Compare_int64_int64.l0] at H
   by_cases c3 : x11_1 < (l0.length : Int)
   ·rw [if_pos c3] at H
    have c3b0 : decide (x11_1 < (l0.length : Int)) = true := decide_eq_true c3
    clear c3
    by_cases c4 : 0 ≤ x11_1
    ·rw [if_pos c4] at H
     have c4b0 : decide (0 ≤ x11_1) = true := decide_eq_true c4
     clear c4
     by_cases c5 : x11_1 < (l0.length : Int)
     ·rw [if_pos c5] at H
      have c5b0 : decide (x11_1 < (l0.length : Int)) = true := decide_eq_true c5
      clear c5
      by_cases c6 : x11_1 ≥ (l1.length : Int)
      ·rw [if_pos c6] at H
       have c6b0 : decide ((l1.length : Int) ≤ x11_1) = true := decide_eq_true c6
       clear c6
       obtain rfl := Option.some.inj H
       have p120 : 0 ≤ (x11_1 : Int) := of_decide_eq_true (by assumption)
       have q120 : x11_1 < (l0.length : Int) := of_decide_eq_true (by assumption)
       obtain ⟨ad120, e120, hx120_0⟩ := Kd.at_int HR0.out x11_1 p120 q120
       cases e120
       replace p120 := eq_true p120
       replace q120 := eq_true q120
       go_wp2
       go_ret
       exact ⟨by first | rfl | (simp; done) | (simp [*]; done), by repeat (first | exact Drawn0.refl _ | apply Drawn0.step)⟩
      ·rw [if_neg c6] at H
       have c6b0 : decide ((l1.length : Int) ≤ x11_1) = false := decide_eq_false c6
       clear c6
       by_cases c7 : x11_1 < (l1.length : Int)
       ·rw [if_pos c7] at H
        have c7b0 : decide (x11_1 < (l1.length : Int)) = true := decide_eq_true c7
        clear c7
        replace H := Option.bind_eq_some_iff.mp H
        obtain ⟨t122, A80, H⟩ := H
        replace H : (if t122 = 0 then (slices_Compare_int64_int64.l0 k1 l0 l1 l0 (l0.length : Int) (wrap64 (x11_1 + 1))) else (some t122)) = some r := H
        have A8 := Aside0.mk A80
        clear A80
        by_cases c9 : t122 = 0
        ·rw [if_pos c9] at H
         have c9b0 : (t122 == 0) = true := beq_iff_eq.mpr c9
         have c9b1 : (t122 != 0) = false := bne_eq_false_iff_eq.mpr c9
         clear c9
         have H' := Aside0.mk H
         clear H
         have p120 : 0 ≤ (x11_1 : Int) := of_decide_eq_true (by assumption)
         have q120 : x11_1 < (l0.length : Int) := of_decide_eq_true (by assumption)
         obtain ⟨ad120, e120, hx120_0⟩ := Kd.at_int HR0.out x11_1 p120 q120
         cases e120
         replace p120 := eq_true p120
         replace q120 := eq_true q120
         have p121 : 0 ≤ (x11_1 : Int) := of_decide_eq_true (by assumption)
         have q121 : x11_1 < (l1.length : Int) := of_decide_eq_true (by assumption)
         obtain ⟨ad121, e121, hx121_0⟩ := Kd.at_int HR1.out x11_1 p121 q121
         cases e121
         replace p121 := eq_true p121
         replace q121 := eq_true q121
         go_wp2_with (first | ((with_reducible refine gate_callee (f := 30) rfl ?_); refine goesL_ (some 26) rfl rfl Try.func30 (by kernel_rfl) rfl #[.int .i64 (rd l0 x11_1), .int .i64 (rd l1 x11_1)] rfl (by (try simp only [List.map_toArray, List.map_cons, List.map_nil]); first | done | rfl | (simp only [List.length_drop, List.length_take]; rfl)) ?_; (with_reducible refine (cmp_Compare_int64.calls (rd l0 x11_1) (rd l1 x11_1) t122 _ A8.out).mono ?_); rintro e w' ⟨rfl, ⟨nd, rfl⟩⟩; refine ⟨_, rfl, ?_⟩))
         go_roundg k1
         case measure => have := HK1.out; omega
         case rel => exact ⟨(wrap64 (x11_1 + 1)), (by first | rfl | (simp; done) | (simp [*]; done)), H', ⟨by have := HK1.out; omega⟩, by repeat (first | exact Drawn0.refl _ | apply Drawn0.step)⟩
        ·rw [if_neg c9] at H
         have c9b0 : (t122 == 0) = false := beq_eq_false_iff_ne.mpr c9
         have c9b1 : (t122 != 0) = true := bne_iff_ne.mpr c9
         obtain rfl := Option.some.inj H
         have p120 : 0 ≤ (x11_1 : Int) := of_decide_eq_true (by assumption)
         have q120 : x11_1 < (l0.length : Int) := of_decide_eq_true (by assumption)
         obtain ⟨ad120, e120, hx120_0⟩ := Kd.at_int HR0.out x11_1 p120 q120
         cases e120
         replace p120 := eq_true p120
         replace q120 := eq_true q120
         have p121 : 0 ≤ (x11_1 : Int) := of_decide_eq_true (by assumption)
         have q121 : x11_1 < (l1.length : Int) := of_decide_eq_true (by assumption)
         obtain ⟨ad121, e121, hx121_0⟩ := Kd.at_int HR1.out x11_1 p121 q121
         cases e121
         replace p121 := eq_true p121
         replace q121 := eq_true q121
         go_wp2_with (first | ((with_reducible refine gate_callee (f := 30) rfl ?_); refine goesL_ (some 26) rfl rfl Try.func30 (by kernel_rfl) rfl #[.int .i64 (rd l0 x11_1), .int .i64 (rd l1 x11_1)] rfl (by (try simp only [List.map_toArray, List.map_cons, List.map_nil]); first | done | rfl | (simp only [List.length_drop, List.length_take]; rfl)) ?_; (with_reducible refine (cmp_Compare_int64.calls (rd l0 x11_1) (rd l1 x11_1) t122 _ A8.out).mono ?_); rintro e w' ⟨rfl, ⟨nd, rfl⟩⟩; refine ⟨_, rfl, ?_⟩))
         go_ret
         exact ⟨by first | rfl | (simp; done) | (simp [*]; done), by repeat (first | exact Drawn0.refl _ | apply Drawn0.step)⟩
       ·rw [if_neg c7] at H
        exact absurd H (by simp)
     ·rw [if_neg c5] at H
      exact absurd H (by simp)
    ·rw [if_neg c4] at H
     exact absurd H (by simp)
   ·rw [if_neg c3] at H
    have c3b0 : decide (x11_1 < (l0.length : Int)) = false := decide_eq_false c3
    clear c3
    by_cases c10 : (l0.length : Int) < (l1.length : Int)
    ·rw [if_pos c10] at H
     have c10b0 : decide ((l0.length : Int) < (l1.length : Int)) = true := decide_eq_true c10
     have c10b1 : decide (l0.length < l1.length) = true := decide_eq_true (Int.ofNat_lt.mp c10)
     clear c10
     obtain rfl := Option.some.inj H
     go_wp2
     go_ret
     exact ⟨by first | rfl | (simp; done) | (simp [*]; done), by repeat (first | exact Drawn0.refl _ | apply Drawn0.step)⟩
    ·rw [if_neg c10] at H
     have c10b0 : decide ((l0.length : Int) < (l1.length : Int)) = false := decide_eq_false c10
     have c10b1 : decide (l0.length < l1.length) = false := decide_eq_false (fun h => c10 (Int.ofNat_lt.mpr h))
     clear c10
     obtain rfl := Option.some.inj H
     go_wp2
     go_ret
     exact ⟨by first | rfl | (simp; done) | (simp [*]; done), by repeat (first | exact Drawn0.refl _ | apply Drawn0.step)⟩
end Go.Proofs.Ytfeeahjaeapkoaa.P
end

section
namespace Go.Proofs.Ytfeeahjaeapkoaa.P
open Go.RowKit Go.Proofs.YtfeeahjaeapkoaaW.PrintWords Go.Proofs.YtfeeahjaeapkoaaW.PrintLast Go.Proofs.YtfeeahjaeapkoaaW.PrintMore
attribute [local go_sem] max2_int min2_int max_two min_two max_three min_three max_four min_four   -- for this text's walks alone
set_option linter.unusedVariables false
set_option linter.unusedSimpArgs false
open Go.Proofs.Ytfeeahjaeapkoaa.Ext (q1_ q2_ q3_)
attribute [local go_sem high] Go.Proofs.Ytfeeahjaeapkoaa.Ext.gtr_str Go.Proofs.Ytfeeahjaeapkoaa.Ext.leq_str Go.Proofs.Ytfeeahjaeapkoaa.Ext.geq_str
def fact_rows_int64.f (k : Nat) (l0 : List Int) (l1 : List Int) : Option (Int) := (slices_Compare_int64_int64.f k l0 l1).bind fun t123 => (some t123)
set_option maxHeartbeats 8000000 in
set_option maxRecDepth 100000 in
theorem fact_rows_int64.calls (k : Nat) (A0 : Option Addr) (c0 : Nat) (l0 : List Int) (A1 : Option Addr) (c1 : Nat) (l1 : List Int) (r : Int) (w : World) (hr0 : Kd.C (Kd.int .i64) w A0 l0.length l0) (hc0 : l0.length ≤ c0) (hr1 : Kd.C (Kd.int .i64) w A1 l1.length l1) (hc1 : l1.length ≤ c1) (h : fact_rows_int64.f k l0 l1 = some r) :
  Calls Try.prog 32 #[.slice A0 l0.length c0, .slice A1 l1.length c1] w fun e w' => e = .returned (.int .i64 r) ∧ Drawn0 w w' := by
 have HR0 := Aside0.mk hr0
 have HC0 := Aside0.mk hc0
 clear hr0 hc0
 have HR1 := Aside0.mk hr1
 have HC1 := Aside0.mk hc1
 clear hr1 hc1
 have H : ((slices_Compare_int64_int64.f k l0 l1).bind fun t123 => (some t123)) = some r := h
 clear h
 replace H := Option.bind_eq_some_iff.mp H
 obtain ⟨t123, A30, H⟩ := H
 replace H : (some t123) = some r := H
 have A3 := Aside0.mk A30
 clear A30
 obtain rfl := Option.some.inj H
 go_enter Try.func32, Try.ntmps32
 go_wp2_with (first | ((with_reducible refine gate_callee (f := 44) rfl ?_); refine goesL_ (some 7) rfl rfl Try.func44 (by kernel_rfl) rfl #[.slice A0 l0.length c0, .slice A1 l1.length c1] rfl (by (try simp only [List.map_toArray, List.map_cons, List.map_nil]); first | done | rfl | (simp only [List.length_drop, List.length_take]; rfl)) ?_; (with_reducible refine (slices_Compare_int64_int64.calls k _ _ l0 _ _ l1 t123 _ ?side1 ?side2 ?side3 ?side4 A3.out).mono ?_); (case side1 => repeat (first | exact HR0.out | (with_reducible refine Kd.C_alloc ?_ _) | (with_reducible refine Kd.C_drewN ?_ _) | (with_reducible refine Kd.C_drew ?_))); (case side2 => exact HC0.out); (case side3 => repeat (first | exact HR1.out | (with_reducible refine Kd.C_alloc ?_ _) | (with_reducible refine Kd.C_drewN ?_ _) | (with_reducible refine Kd.C_drew ?_))); (case side4 => exact HC1.out); rintro e w' ⟨rfl, ⟨nd, rfl⟩⟩; refine ⟨_, rfl, ?_⟩))
 go_ret
 exact ⟨by first | rfl | (simp; done) | (simp [*]; done), by repeat (first | exact Drawn0.refl _ | apply Drawn0.step)⟩
end Go.Proofs.Ytfeeahjaeapkoaa.P
end

section
namespace Go.Proofs.Ytfeeahjaeapkoaa.P
open Go.RowKit Go.Proofs.YtfeeahjaeapkoaaW.PrintWords Go.Proofs.YtfeeahjaeapkoaaW.PrintLast Go.Proofs.YtfeeahjaeapkoaaW.PrintMore
attribute [local go_sem] max2_int min2_int max_two min_two max_three min_three max_four min_four   -- for this text's walks alone
set_option linter.unusedVariables false
set_option linter.unusedSimpArgs false
open Go.Proofs.Ytfeeahjaeapkoaa.Ext (q1_ q2_ q3_ bk_ bw_ sz_ ne_ bx_)
attribute [local go_sem high] Go.Proofs.Ytfeeahjaeapkoaa.Ext.gtr_str Go.Proofs.Ytfeeahjaeapkoaa.Ext.leq_str Go.Proofs.Ytfeeahjaeapkoaa.Ext.geq_str
def fact_Compare.f (k : Nat) (a0_0 : Int) (l0_1 : List ByteArray) (l0_2 : List Int) (a1_0 : Int) (l1_1 : List ByteArray) (l1_2 : List Int) : Option (Int) := (cmp_Compare_int64.f a0_0 a1_0).bind fun t126 => ((fact_rows_string.f k l0_1 l1_1).bind fun t127 => ((fact_rows_int64.f k l0_2 l1_2).bind fun t128 => ((cmp_Or_int.f k (([t126, t127, t128] : List Int))).bind fun t132 => (some t132))))
def fact_Compare.T1 : Bool × List (List Nat × List Nat) := (true, [([], []), ([0], [0]), ([], []), ([2], [2]), ([1, 3], [1, 3]), ([], []), ([5], [5]), ([], []), ([7], [7]), ([6, 8, 4], [6, 8]), ([], []), ([10], [10]), ([], []), ([12], [12]), ([11, 13, 9], [11, 13]), ([4, 9, 14], [4, 9, 14]), ([15, 14], [15]), ([16, 16, 0, 1, 2, 3, 4, 5, 6, 7, 8, 9, 10, 11, 12, 13, 14, 15, 16], [16])])
def fact_Compare.B1 : List Nat := [0, 1, 0, 4, 15, 0, 32, 0, 128, 511, 0, 1024, 0, 4096, 16383, 32767, 65535, 131071]
theorem fact_Compare.tab1 : rtab .any (opsOf Try.f14 1) = fact_Compare.T1 := by kernel_rfl
theorem fact_Compare.bits1 : waitsOk fact_Compare.T1.2 fact_Compare.B1 = true := by kernel_rfl
set_option maxHeartbeats 8000000 in
set_option maxRecDepth 100000 in
theorem fact_Compare.calls (k : Nat) (a0_0 : Int) (A0_1 : Option Addr) (c0_1 : Nat) (l0_1 : List ByteArray) (A0_2 : Option Addr) (c0_2 : Nat) (l0_2 : List Int) (a1_0 : Int) (A1_1 : Option Addr) (c1_1 : Nat) (l1_1 : List ByteArray) (A1_2 : Option Addr) (c1_2 : Nat) (l1_2 : List Int) (r : Int) (w : World) (hr0_1 : Kd.C Kd.string w A0_1 l0_1.length l0_1) (hc0_1 : l0_1.length ≤ c0_1) (hr0_2 : Kd.C (Kd.int .i64) w A0_2 l0_2.length l0_2) (hc0_2 : l0_2.length ≤ c0_2) (hr1_1 : Kd.C Kd.string w A1_1 l1_1.length l1_1) (hc1_1 : l1_1.length ≤ c1_1) (hr1_2 : Kd.C (Kd.int .i64) w A1_2 l1_2.length l1_2) (hc1_2 : l1_2.length ≤ c1_2) (h : fact_Compare.f k a0_0 l0_1 l0_2 a1_0 l1_1 l1_2 = some r) :
  Calls Try.prog 14 #[.agg #[.int .i64 a0_0, .slice A0_1 l0_1.length c0_1, .slice A0_2 l0_2.length c0_2], .agg #[.int .i64 a1_0, .slice A1_1 l1_1.length c1_1, .slice A1_2 l1_2.length c1_2]] w fun e w' => e = .returned (.int .i64 r) ∧ Below w.heap.size w w' := by
 have hu27 := Try.underlying27
 have HR0_1 := Aside0.mk hr0_1
 have HC0_1 := Aside0.mk hc0_1
 clear hr0_1 hc0_1
 have HR0_2 := Aside0.mk hr0_2
 have HC0_2 := Aside0.mk hc0_2
 clear hr0_2 hc0_2
 have HR1_1 := Aside0.mk hr1_1
 have HC1_1 := Aside0.mk hc1_1
 clear hr1_1 hc1_1
 have HR1_2 := Aside0.mk hr1_2
 have HC1_2 := Aside0.mk hc1_2
 clear hr1_2 hc1_2
 have HB := Aside0.mk (Below.refl w.heap.size w)
 have H : ((cmp_Compare_int64.f a0_0 a1_0).bind fun t126 => ((fact_rows_string.f k l0_1 l1_1).bind fun t127 => ((fact_rows_int64.f k l0_2 l1_2).bind fun t128 => ((cmp_Or_int.f k (([t126, t127, t128] : List Int))).bind fun t132 => (some t132))))) = some r := h
 clear h
 replace H := Option.bind_eq_some_iff.mp H
 obtain ⟨t126, A30, H⟩ := H
 replace H : ((fact_rows_string.f k l0_1 l1_1).bind fun t127 => ((fact_rows_int64.f k l0_2 l1_2).bind fun t128 => ((cmp_Or_int.f k (([t126, t127, t128] : List Int))).bind fun t132 => (some t132)))) = some r := H
 have A3 := Aside0.mk A30
 clear A30
 replace H := Option.bind_eq_some_iff.mp H
 obtain ⟨t127, A40, H⟩ := H
 replace H : ((fact_rows_int64.f k l0_2 l1_2).bind fun t128 => ((cmp_Or_int.f k (([t126, t127, t128] : List Int))).bind fun t132 => (some t132))) = some r := H
 have A4 := Aside0.mk A40
 clear A40
 replace H := Option.bind_eq_some_iff.mp H
 obtain ⟨t128, A50, H⟩ := H
 replace H : ((cmp_Or_int.f k (([t126, t127, t128] : List Int))).bind fun t132 => (some t132)) = some r := H
 have A5 := Aside0.mk A50
 clear A50
 obtain ⟨y129, hy129⟩ : ∃ y_ : List Int, y_ = (([t126, t127, t128] : List Int)) := ⟨_, rfl⟩
 replace H : ((cmp_Or_int.f k y129).bind fun t132 => (some t132)) = some r := by first | (rw [hy129]; with_reducible exact H) | (have H2_ := (Option.bind_some _ _).symm.trans H; rw [hy129]; with_reducible exact H2_) | (have H2_ := (Option.bind_some _ _).symm.trans H; with_reducible exact H2_) | with_reducible exact H | (rw [hy129]; exact H) | exact H
 have Ny129 := Aside0.mk hy129
 clear hy129
 replace H := Option.bind_eq_some_iff.mp H
 obtain ⟨t132, A60, H⟩ := H
 replace H : (some t132) = some r := H
 have A6 := Aside0.mk A60
 clear A60
 obtain rfl := Option.some.inj H
 go_enter Try.func14, Try.ntmps14
 try go_wp2_with (first | ((with_reducible refine gate_dst (N := 2) rfl ?_); refine bx_ (N := 2) (cs := #[.int .i64 a0_0, .slice A0_1 l0_1.length c0_1, .slice A0_2 l0_2.length c0_2]) (t := 27) ?_; intro gb124 hg w7 hbox hb; have n0_ := Aside0.mk (below_step (bw_ HB.out) hb); have n1_ := Aside0.mk (hbox); have n2_ := Aside0.mk (sz_ hg (bw_ HB.out)); have n3_ := n2_; clear HB; have HB := n0_; have BK124 := n1_; have GW124 := n2_; have GE124 := n3_; clear n0_ n1_ n2_ n3_; clear hb hbox hg) | ((with_reducible refine gate_dst (N := 3) rfl ?_); refine bx_ (N := 3) (cs := #[.int .i64 a1_0, .slice A1_1 l1_1.length c1_1, .slice A1_2 l1_2.length c1_2]) (t := 27) ?_; intro gb125 hg w8 hbox hb; have n0_ := Aside0.mk (blk_below (bk_ BK124.out) hb); have n1_ := Aside0.mk (below_step (bw_ HB.out) hb); have n2_ := Aside0.mk (hbox); have n3_ := Aside0.mk (sz_ hg (bw_ HB.out)); have n4_ := n3_; have n5_ := Aside0.mk (ne_ hg (blk_lt (bk_ BK124.out))); have n6_ := Aside0.mk n5_.out.symm; clear BK124 HB; have BK124 := n0_; have HB := n1_; have BK125 := n2_; have GW125 := n3_; have GE125 := n4_; have NB124_125 := n5_; have NB125_124 := n6_; clear n0_ n1_ n2_ n3_ n4_ n5_ n6_; clear hb hbox hg))
 have n0_ := Aside0.mk (blk_drew BK124.out)
 have n1_ := Aside0.mk (blk_drew BK125.out)
 have n2_ := Aside0.mk (below_drew1 HB.out)
 clear BK124
 clear BK125
 clear HB
 have BK124 := n0_
 have BK125 := n1_
 have HB := n2_
 clear n0_ n1_ n2_
 refine start_ (n := 18) (S := fun w' => w'.cell? ⟨gb124, 0, none⟩ = some (.int .i64 a0_0) ∧ w'.cell? ⟨gb124, 1, none⟩ = some (.slice A0_1 l0_1.length c0_1) ∧ w'.cell? ⟨gb124, 2, none⟩ = some (.slice A0_2 l0_2.length c0_2) ∧ w'.cell? ⟨gb125, 0, none⟩ = some (.int .i64 a1_0) ∧ w'.cell? ⟨gb125, 1, none⟩ = some (.slice A1_1 l1_1.length c1_1) ∧ w'.cell? ⟨gb125, 2, none⟩ = some (.slice A1_2 l1_2.length c1_2)) (ds := []) #[false, false, false, false, false, false, false, false, false, false, false, false, false, false, false, false, false, false] (by kernel_rfl) rfl rfl ⟨(blk_cell BK124.out 0).trans rfl, (blk_cell BK124.out 1).trans rfl, (blk_cell BK124.out 2).trans rfl, (blk_cell BK125.out 0).trans rfl, (blk_cell BK125.out 1).trans rfl, (blk_cell BK125.out 2).trans rfl⟩ (fun hHeld => ?_); refine with_tabW fact_Compare.tab1 fact_Compare.bits1 (fun HT_ HW_ => ?_)
 generalize w8.drew = w9 at BK124 BK125 HB hHeld ⊢
 refine pure_ (i := 0) (N := some 5) (v := ?_) (a' := ?_) #[true, false, false, false, false, false, false, false, false, false, false, false, false, false, false, false, false, false] rfl rfl (any_of HT_.out (by kernel_rfl)) (fun _ _ _ h => h) (Or.inl ⟨by rfl, ?_⟩) ?_ ?_
 rotate_left
 ·intro w'
  go_simp
  with_reducible rfl
 rotate_left
 ·simp only [Act.put, q1_, q2_, q3_, i64_w, i32_w]
  rfl
 refine pure_ (i := 2) (N := some 7) (v := ?_) (a' := ?_) #[true, false, true, false, false, false, false, false, false, false, false, false, false, false, false, false, false, false] rfl rfl (any_of HT_.out (by kernel_rfl)) (fun _ _ _ h => h) (Or.inl ⟨by rfl, ?_⟩) ?_ ?_
 rotate_left
 ·intro w'
  go_simp
  with_reducible rfl
 rotate_left
 ·simp only [Act.put, q1_, q2_, q3_, i64_w, i32_w]
  rfl
 refine pure_ (i := 5) (N := some 10) (v := ?_) (a' := ?_) #[true, false, true, false, false, true, false, false, false, false, false, false, false, false, false, false, false, false] rfl rfl (any_of HT_.out (by kernel_rfl)) (fun _ _ _ h => h) (Or.inl ⟨by rfl, ?_⟩) ?_ ?_
 rotate_left
 ·intro w'
  go_simp
  with_reducible rfl
 rotate_left
 ·simp only [Act.put, q1_, q2_, q3_, i64_w, i32_w]
  rfl
 refine pure_ (i := 7) (N := some 12) (v := ?_) (a' := ?_) #[true, false, true, false, false, true, false, true, false, false, false, false, false, false, false, false, false, false] rfl rfl (any_of HT_.out (by kernel_rfl)) (fun _ _ _ h => h) (Or.inl ⟨by rfl, ?_⟩) ?_ ?_
 rotate_left
 ·intro w'
  go_simp
  with_reducible rfl
 rotate_left
 ·simp only [Act.put, q1_, q2_, q3_, i64_w, i32_w]
  rfl
 refine pure_ (i := 10) (N := some 15) (v := ?_) (a' := ?_) #[true, false, true, false, false, true, false, true, false, false, true, false, false, false, false, false, false, false] rfl rfl (any_of HT_.out (by kernel_rfl)) (fun _ _ _ h => h) (Or.inl ⟨by rfl, ?_⟩) ?_ ?_
 rotate_left
 ·intro w'
  go_simp
  with_reducible rfl
 rotate_left
 ·simp only [Act.put, q1_, q2_, q3_, i64_w, i32_w]
  rfl
 refine pure_ (i := 12) (N := some 17) (v := ?_) (a' := ?_) #[true, false, true, false, false, true, false, true, false, false, true, false, true, false, false, false, false, false] rfl rfl (any_of HT_.out (by kernel_rfl)) (fun _ _ _ h => h) (Or.inl ⟨by rfl, ?_⟩) ?_ ?_
 rotate_left
 ·intro w'
  go_simp
  with_reducible rfl
 rotate_left
 ·simp only [Act.put, q1_, q2_, q3_, i64_w, i32_w]
  rfl
 refine take_ (i := 1) (N := some 6) (v := ?_) (a' := ?_) #[true, true, true, false, false, true, false, true, false, false, true, false, true, false, false, false, false, false] rfl rfl (take_ofW HT_.out HW_.out (by kernel_rfl)) (fun _ _ _ h => h) (Or.inl ⟨by rfl, ?_⟩) hHeld ?_ ?_
 rotate_left
 ·rintro w' ⟨s0, s1, s2, s3, s4, s5⟩
  go_simp
  with_reducible rfl
 rotate_left
 ·simp only [Act.put, q1_, q2_, q3_, i64_w, i32_w]
  rfl
 refine take_ (i := 3) (N := some 8) (v := ?_) (a' := ?_) #[true, true, true, true, false, true, false, true, false, false, true, false, true, false, false, false, false, false] rfl rfl (take_ofW HT_.out HW_.out (by kernel_rfl)) (fun _ _ _ h => h) (Or.inl ⟨by rfl, ?_⟩) hHeld ?_ ?_
 rotate_left
 ·rintro w' ⟨s0, s1, s2, s3, s4, s5⟩
  go_simp
  with_reducible rfl
 rotate_left
 ·simp only [Act.put, q1_, q2_, q3_, i64_w, i32_w]
  rfl
 refine take_ (i := 6) (N := some 11) (v := ?_) (a' := ?_) #[true, true, true, true, false, true, true, true, false, false, true, false, true, false, false, false, false, false] rfl rfl (take_ofW HT_.out HW_.out (by kernel_rfl)) (fun _ _ _ h => h) (Or.inl ⟨by rfl, ?_⟩) hHeld ?_ ?_
 rotate_left
 ·rintro w' ⟨s0, s1, s2, s3, s4, s5⟩
  go_simp
  with_reducible rfl
 rotate_left
 ·simp only [Act.put, q1_, q2_, q3_, i64_w, i32_w]
  rfl
 refine take_ (i := 8) (N := some 13) (v := ?_) (a' := ?_) #[true, true, true, true, false, true, true, true, true, false, true, false, true, false, false, false, false, false] rfl rfl (take_ofW HT_.out HW_.out (by kernel_rfl)) (fun _ _ _ h => h) (Or.inl ⟨by rfl, ?_⟩) hHeld ?_ ?_
 rotate_left
 ·rintro w' ⟨s0, s1, s2, s3, s4, s5⟩
  go_simp
  with_reducible rfl
 rotate_left
 ·simp only [Act.put, q1_, q2_, q3_, i64_w, i32_w]
  rfl
 refine take_ (i := 11) (N := some 16) (v := ?_) (a' := ?_) #[true, true, true, true, false, true, true, true, true, false, true, true, true, false, false, false, false, false] rfl rfl (take_ofW HT_.out HW_.out (by kernel_rfl)) (fun _ _ _ h => h) (Or.inl ⟨by rfl, ?_⟩) hHeld ?_ ?_
 rotate_left
 ·rintro w' ⟨s0, s1, s2, s3, s4, s5⟩
  go_simp
  with_reducible rfl
 rotate_left
 ·simp only [Act.put, q1_, q2_, q3_, i64_w, i32_w]
  rfl
 refine take_ (i := 13) (N := some 18) (v := ?_) (a' := ?_) #[true, true, true, true, false, true, true, true, true, false, true, true, true, true, false, false, false, false] rfl rfl (take_ofW HT_.out HW_.out (by kernel_rfl)) (fun _ _ _ h => h) (Or.inl ⟨by rfl, ?_⟩) hHeld ?_ ?_
 rotate_left
 ·rintro w' ⟨s0, s1, s2, s3, s4, s5⟩
  go_simp
  with_reducible rfl
 rotate_left
 ·simp only [Act.put, q1_, q2_, q3_, i64_w, i32_w]
  rfl
 refine one_ (i := 4) (N := some 9) #[true, true, true, true, true, true, true, true, true, false, true, true, true, true, false, false, false, false] rfl rfl (one_of HT_.out (by kernel_rfl)) (by decide) (fun K hK => ?_)
 refine goes_ Try.func30 (by kernel_rfl) rfl #[.int .i64 a0_0, .int .i64 a1_0] (by rfl) rfl rfl (by (try simp only [List.map_toArray, List.map_cons, List.map_nil]); first | done | rfl | (simp only [List.length_drop, List.length_take]; rfl)) ?_
 with_reducible refine (cmp_Compare_int64.calls a0_0 a1_0 t126 _ A3.out).mono ?_
 rintro e w' ⟨rfl, ⟨nd, rfl⟩⟩
 refine ⟨_, rfl, ?_⟩
 refine hK.out _ _ ⟨(blk_cell BK124.out 0).trans rfl, (blk_cell BK124.out 1).trans rfl, (blk_cell BK124.out 2).trans rfl, (blk_cell BK125.out 0).trans rfl, (blk_cell BK125.out 1).trans rfl, (blk_cell BK125.out 2).trans rfl⟩ (fun hHeld => ?_)
 clear hK K
 refine norm_ (a' := ?_) ?_ ?_
 rotate_left
 ·show Act.put _ (some 9) _ = _
  simp only [Act.put, q1_, q2_, q3_, i64_w, i32_w]
  rfl
 refine one_ (i := 9) (N := some 14) #[true, true, true, true, true, true, true, true, true, true, true, true, true, true, false, false, false, false] rfl rfl (one_of HT_.out (by kernel_rfl)) (by decide) (fun K hK => ?_)
 refine goes_ Try.func31 (by kernel_rfl) rfl #[.slice A0_1 l0_1.length c0_1, .slice A1_1 l1_1.length c1_1] (by rfl) rfl rfl (by (try simp only [List.map_toArray, List.map_cons, List.map_nil]); first | done | rfl | (simp only [List.length_drop, List.length_take]; rfl)) ?_
 with_reducible refine (fact_rows_string.calls k _ _ l0_1 _ _ l1_1 t127 _ ?side1 ?side2 ?side3 ?side4 A4.out).mono ?_
 (case side1 => repeat (first | exact (Kd.C_below HR0_1.out (bw_ HB.out)) | (with_reducible refine Kd.C_alloc ?_ _) | (with_reducible refine Kd.C_drewN ?_ _) | (with_reducible refine Kd.C_drew ?_)))
 (case side2 => exact HC0_1.out)
 (case side3 => repeat (first | exact (Kd.C_below HR1_1.out (bw_ HB.out)) | (with_reducible refine Kd.C_alloc ?_ _) | (with_reducible refine Kd.C_drewN ?_ _) | (with_reducible refine Kd.C_drew ?_)))
 (case side4 => exact HC1_1.out)
 rintro e w' ⟨rfl, ⟨nd, rfl⟩⟩
 refine ⟨_, rfl, ?_⟩
 refine hK.out _ _ ⟨(blk_cell BK124.out 0).trans rfl, (blk_cell BK124.out 1).trans rfl, (blk_cell BK124.out 2).trans rfl, (blk_cell BK125.out 0).trans rfl, (blk_cell BK125.out 1).trans rfl, (blk_cell BK125.out 2).trans rfl⟩ (fun hHeld => ?_)
 clear hK K
 refine norm_ (a' := ?_) ?_ ?_
 rotate_left
 ·show Act.put _ (some 14) _ = _
  simp only [Act.put, q1_, q2_, q3_, i64_w, i32_w]
  rfl
 refine one_ (i := 14) (N := some 19) #[true, true, true, true, true, true, true, true, true, true, true, true, true, true, true, false, false, false] rfl rfl (one_of HT_.out (by kernel_rfl)) (by decide) (fun K hK => ?_)
 refine goes_ Try.func32 (by kernel_rfl) rfl #[.slice A0_2 l0_2.length c0_2, .slice A1_2 l1_2.length c1_2] (by rfl) rfl rfl (by (try simp only [List.map_toArray, List.map_cons, List.map_nil]); first | done | rfl | (simp only [List.length_drop, List.length_take]; rfl)) ?_
 with_reducible refine (fact_rows_int64.calls k _ _ l0_2 _ _ l1_2 t128 _ ?side1 ?side2 ?side3 ?side4 A5.out).mono ?_
 (case side1 => repeat (first | exact (Kd.C_below HR0_2.out (bw_ HB.out)) | (with_reducible refine Kd.C_alloc ?_ _) | (with_reducible refine Kd.C_drewN ?_ _) | (with_reducible refine Kd.C_drew ?_)))
 (case side2 => exact HC0_2.out)
 (case side3 => repeat (first | exact (Kd.C_below HR1_2.out (bw_ HB.out)) | (with_reducible refine Kd.C_alloc ?_ _) | (with_reducible refine Kd.C_drewN ?_ _) | (with_reducible refine Kd.C_drew ?_)))
 (case side4 => exact HC1_2.out)
 rintro e w' ⟨rfl, ⟨nd, rfl⟩⟩
 refine ⟨_, rfl, ?_⟩
 refine hK.out _ _ ⟨(blk_cell BK124.out 0).trans rfl, (blk_cell BK124.out 1).trans rfl, (blk_cell BK124.out 2).trans rfl, (blk_cell BK125.out 0).trans rfl, (blk_cell BK125.out 1).trans rfl, (blk_cell BK125.out 2).trans rfl⟩ (fun hHeld => ?_)
 clear hK K
 refine norm_ (a' := ?_) ?_ ?_
 rotate_left
 ·show Act.put _ (some 19) _ = _
  simp only [Act.put, q1_, q2_, q3_, i64_w, i32_w]
  rfl
 refine one_ (i := 15) (N := some 20) #[true, true, true, true, true, true, true, true, true, true, true, true, true, true, true, true, false, false] rfl rfl (one_of HT_.out (by kernel_rfl)) (by decide) (fun K hK => ?_)
 refine Kd.R_lit_step (Kd.int .i64) _ 3 ?hg (N := 20) ?hd (xs := ([t126, t127, t128] : List Int)) (inner := [.int .i64 t126, .int .i64 t127, .int .i64 t128]) (ok := fun _ => True) (okp := fun _ => True) ?hr ?hp (fun _ hk => hk) trivial (Below.refl _ _) (Nat.le_refl _) (by simp) ?_; (case hd => rfl); (case hg => rfl); (case hr => first | (go_simp; done) | (go_simp; rfl)); (case hp => exact (Reps.one (show Kd.M (Kd.int .i64) _ _ _ t126 [.int .i64 t126] from rfl) (Reps.one (show Kd.M (Kd.int .i64) _ _ _ t127 [.int .i64 t127] from rfl) (Reps.one (show Kd.M (Kd.int .i64) _ _ _ t128 [.int .i64 t128] from rfl) (Reps.none _ _)))))
 intro v130 w10 ho11 hb hg_ hnew_
 clear hg_ hnew_
 (first | rw [← Ny129.out] at ho11 | (simp only [Int.reduceToNat] at ho11; rw [← Ny129.out] at ho11))
 have n0_ := Aside0.mk (Kd.R_lower ho11 (below_size (bw_ HB.out)))
 have n1_ := Aside0.mk (blk_below (bk_ BK124.out) hb)
 have n2_ := Aside0.mk (blk_below (bk_ BK125.out) hb)
 have n3_ := Aside0.mk (below_step (bw_ HB.out) hb)
 clear BK124
 clear BK125
 clear HB
 have HO131 := n0_
 have BK124 := n1_
 have BK125 := n2_
 have HB := n3_
 clear n0_ n1_ n2_ n3_
 clear hb ho11
 obtain ⟨Ao12, co12, eo12⟩ := Kd.R_slice HO131.out
 (first | subst eo12 | (injection eo12 with f1_ f2_ f3_; have f4_ := f1_.symm; have f5_ := f3_.symm; clear f1_ f2_ f3_; subst f4_; subst f5_))
 refine hK.out _ _ ⟨(blk_cell BK124.out 0).trans rfl, (blk_cell BK124.out 1).trans rfl, (blk_cell BK124.out 2).trans rfl, (blk_cell BK125.out 0).trans rfl, (blk_cell BK125.out 1).trans rfl, (blk_cell BK125.out 2).trans rfl⟩ (fun hHeld => ?_)
 clear hK K
 refine norm_ (a' := ?_) ?_ ?_
 rotate_left
 ·show Act.put _ (some 20) _ = _
  simp only [Act.put, q1_, q2_, q3_, i64_w, i32_w]
  rfl
 refine one_ (i := 16) (N := some 21) #[true, true, true, true, true, true, true, true, true, true, true, true, true, true, true, true, true, false] rfl rfl (one_of HT_.out (by kernel_rfl)) (by decide) (fun K hK => ?_)
 refine goes_ Try.func29 (by kernel_rfl) rfl #[.slice Ao12 y129.length co12] (by rfl) rfl rfl (by (try simp only [List.map_toArray, List.map_cons, List.map_nil]); first | done | rfl | (simp only [List.length_drop, List.length_take]; rfl)) ?_
 with_reducible refine (cmp_Or_int.calls k _ _ y129 t132 _ ?side1 ?side2 A6.out).mono ?_
 (case side1 => repeat (first | exact (Kd.R_reads' HO131.out).2.2 | (with_reducible refine Kd.C_alloc ?_ _) | (with_reducible refine Kd.C_drewN ?_ _) | (with_reducible refine Kd.C_drew ?_)))
 (case side2 => exact (Kd.R_reads' HO131.out).2.1)
 rintro e w' ⟨rfl, ⟨nd, rfl⟩⟩
 refine ⟨_, rfl, ?_⟩
 refine hK.out _ _ ⟨(blk_cell BK124.out 0).trans rfl, (blk_cell BK124.out 1).trans rfl, (blk_cell BK124.out 2).trans rfl, (blk_cell BK125.out 0).trans rfl, (blk_cell BK125.out 1).trans rfl, (blk_cell BK125.out 2).trans rfl⟩ (fun hHeld => ?_)
 clear hK K
 refine norm_ (a' := ?_) ?_ ?_
 rotate_left
 ·show Act.put _ (some 21) _ = _
  simp only [Act.put, q1_, q2_, q3_, i64_w, i32_w]
  rfl
 refine pure_ (i := 17) (N := some 4) (v := ?_) (a' := ?_) #[true, true, true, true, true, true, true, true, true, true, true, true, true, true, true, true, true, true] rfl rfl (any_of HT_.out (by kernel_rfl)) (fun _ _ _ h => h) (Or.inl ⟨by rfl, ?_⟩) ?_ ?_
 rotate_left
 ·intro w'
  go_simp
  with_reducible rfl
 rotate_left
 ·simp only [Act.put, q1_, q2_, q3_, i64_w, i32_w]
  rfl
 refine done_ (done_of HT_.out (by kernel_rfl)) ?_
 try go_wp2
 go_ret
 exact ⟨by first | rfl | (simp [errW_none, errW_some] <;> rfl) | (simp [*, errW_none, errW_some] <;> rfl), by repeat (first | (with_reducible first | exact HB.out | apply below_alloc | apply pw_below_drewN | apply below_drew1 | refine below_set ?_ GE124.out | refine below_set ?_ GE125.out) | exact HB.out)⟩
end Go.Proofs.Ytfeeahjaeapkoaa.P
end

section
namespace Go.Proofs.Ytfeeahjaeapkoaa.Ext
set_option linter.unusedVariables false
set_option linter.unusedSimpArgs false
open Go.RowKit Go.Proofs.YtfeeahjaeapkoaaW.PrintWords Go.Proofs.Ytfeeahjaeapkoaa.P
def rowC {α : Type} (less : α → α → Bool) : List α → List α → Int
  | [], [] => 0
  | [], _ :: _ => -1
  | _ :: _, [] => 1
  | x :: a, y :: b => if less x y = true then -1 else if less y x = true then 1 else rowC less a b
def lessS (a b : ByteArray) : Bool := Op.bytesLess a.toList b.toList
def lessI (a b : Int) : Bool := decide (a < b)
def tC (a b : Int) : Int := if a < b then -1 else if a > b then 1 else 0
def factC (t0 t1 : Int) (d0 d1 : List ByteArray) (m0 m1 : List Int) : Int := if tC t0 t1 = 0 then (if rowC lessS d0 d1 = 0 then rowC lessI m0 m1 else rowC lessS d0 d1) else tC t0 t1
theorem rowC_nil {α : Type} (less : α → α → Bool) (y : List α) : rowC less [] y = if y.length = 0 then 0 else -1 := by cases y <;> rfl
theorem rowC_end {α : Type} (less : α → α → Bool) (x : List α) (h : 0 < x.length) : rowC less x [] = 1 := by
  cases x with
  | nil => exact absurd h (Nat.lt_irrefl _)
  | cons a b => rfl
theorem cmpS (a b : ByteArray) : cmp_Compare_string.f a b = some (if lessS a b = true then -1 else if lessS b a = true then 1 else 0) := by
  unfold cmp_Compare_string.f cmp_isNaN_string.f lessS
  simp only [bne_self_eq_false, Option.bind_some]
  by_cases h1 : Op.bytesLess a.toList b.toList = true
  · simp [h1]
  · by_cases h2 : Op.bytesLess b.toList a.toList = true <;> simp [h1, h2]
theorem cmpI (a b : Int) : cmp_Compare_int64.f a b = some (if lessI a b = true then -1 else if lessI b a = true then 1 else 0) := by
  unfold cmp_Compare_int64.f cmp_isNaN_int64.f lessI
  simp only [bne_self_eq_false, Option.bind_some, decide_eq_true_eq]
  by_cases h1 : a < b
  · simp [h1]
  · by_cases h2 : b < a <;> simp [h1, h2]
theorem tC_is (a b : Int) : (if lessI a b = true then -1 else if lessI b a = true then 1 else 0 : Int) = tC a b := by
  unfold lessI tC
  simp only [decide_eq_true_eq, gt_iff_lt]
theorem dropc {α : Type} (x : List α) (i : Nat) (h : i < x.length) : x.drop i = x[i] :: x.drop (i + 1) := List.drop_eq_getElem_cons h
theorem rdS (x : List ByteArray) (i : Nat) (h : i < x.length) : rdOf ByteArray.empty x (i : Int) = x[i] := by unfold rdOf; simp [h]
theorem rdI (x : List Int) (i : Nat) (h : i < x.length) : rd x (i : Int) = x[i] := by unfold rd; simp [h]
theorem sc_loop (x y : List ByteArray) (hx : x.length < 4611686018427387904) : ∀ (n i : Nat), i + n = x.length → i ≤ y.length → ∀ k, n + 1 ≤ k → slices_Compare_string_string.l0 k x y x (x.length : Int) (i : Int) = some (rowC lessS (x.drop i) (y.drop i)) := by
  intro n
  induction n with
  | zero =>
    intro i hi hy k hk
    obtain ⟨k, rfl⟩ : ∃ k', k = k' + 1 := ⟨k - 1, by omega⟩
    rw [slices_Compare_string_string.l0, if_neg (by omega), List.drop_of_length_le (by omega : x.length ≤ i), rowC_nil, List.length_drop]
    by_cases h : x.length < y.length
    · rw [if_pos (by omega), if_neg (by omega)]
    · rw [if_neg (by omega), if_pos (by omega)]
  | succ n ih =>
    intro i hi hy k hk
    obtain ⟨k, rfl⟩ : ∃ k', k = k' + 1 := ⟨k - 1, by omega⟩
    have hil : i < x.length := by omega
    have e : wrap64 ((i : Int) + 1) = ((i + 1 : Nat) : Int) := by unfold wrap64; omega
    rw [slices_Compare_string_string.l0, if_pos (by omega), if_pos (by omega), if_pos (by omega)]
    by_cases hge : y.length ≤ i
    · rw [if_pos (by omega), List.drop_of_length_le hge, rowC_end _ _ (by rw [List.length_drop]; omega)]
    · have hiy : i < y.length := by omega
      rw [if_neg (by omega), if_pos (by omega), rdS x i hil, rdS y i hiy, cmpS, dropc x i hil, dropc y i hiy, rowC]
      simp only [Option.bind_some]
      by_cases h1 : lessS x[i] y[i] = true
      · rw [if_pos h1, if_pos h1, if_neg (by decide)]
      · rw [if_neg h1, if_neg h1]
        by_cases h2 : lessS y[i] x[i] = true
        · rw [if_pos h2, if_pos h2, if_neg (by decide)]
        · rw [if_neg h2, if_neg h2, if_pos rfl, e]
          exact ih (i + 1) (by omega) (by omega) k (by omega)
theorem ic_loop (x y : List Int) (hx : x.length < 4611686018427387904) : ∀ (n i : Nat), i + n = x.length → i ≤ y.length → ∀ k, n + 1 ≤ k → slices_Compare_int64_int64.l0 k x y x (x.length : Int) (i : Int) = some (rowC lessI (x.drop i) (y.drop i)) := by
  intro n
  induction n with
  | zero =>
    intro i hi hy k hk
    obtain ⟨k, rfl⟩ : ∃ k', k = k' + 1 := ⟨k - 1, by omega⟩
    rw [slices_Compare_int64_int64.l0, if_neg (by omega), List.drop_of_length_le (by omega : x.length ≤ i), rowC_nil, List.length_drop]
    by_cases h : x.length < y.length
    · rw [if_pos (by omega), if_neg (by omega)]
    · rw [if_neg (by omega), if_pos (by omega)]
  | succ n ih =>
    intro i hi hy k hk
    obtain ⟨k, rfl⟩ : ∃ k', k = k' + 1 := ⟨k - 1, by omega⟩
    have hil : i < x.length := by omega
    have e : wrap64 ((i : Int) + 1) = ((i + 1 : Nat) : Int) := by unfold wrap64; omega
    rw [slices_Compare_int64_int64.l0, if_pos (by omega), if_pos (by omega), if_pos (by omega)]
    by_cases hge : y.length ≤ i
    · rw [if_pos (by omega), List.drop_of_length_le hge, rowC_end _ _ (by rw [List.length_drop]; omega)]
    · have hiy : i < y.length := by omega
      rw [if_neg (by omega), if_pos (by omega), rdI x i hil, rdI y i hiy, cmpI, dropc x i hil, dropc y i hiy, rowC]
      simp only [Option.bind_some]
      by_cases h1 : lessI x[i] y[i] = true
      · rw [if_pos h1, if_pos h1, if_neg (by decide)]
      · rw [if_neg h1, if_neg h1]
        by_cases h2 : lessI y[i] x[i] = true
        · rw [if_pos h2, if_pos h2, if_neg (by decide)]
        · rw [if_neg h2, if_neg h2, if_pos rfl, e]
          exact ih (i + 1) (by omega) (by omega) k (by omega)
theorem compare_is (t0 t1 : Int) (d0 d1 : List ByteArray) (m0 m1 : List Int) (hd : d0.length < 4611686018427387904) (hm : m0.length < 4611686018427387904) (k : Nat) (hk : d0.length + m0.length + 5 ≤ k) : fact_Compare.f k t0 d0 m0 t1 d1 m1 = some (factC t0 t1 d0 d1 m0 m1) := by
  have h1 := sc_loop d0 d1 hd d0.length 0 (by omega) (Nat.zero_le _) k (by omega)
  have h2 := ic_loop m0 m1 hm m0.length 0 (by omega) (Nat.zero_le _) k (by omega)
  have h1' : slices_Compare_string_string.l0 k d0 d1 d0 (d0.length : Int) 0 = some (rowC lessS d0 d1) := h1
  have h2' : slices_Compare_int64_int64.l0 k m0 m1 m0 (m0.length : Int) 0 = some (rowC lessI m0 m1) := h2
  unfold fact_Compare.f fact_rows_string.f fact_rows_int64.f slices_Compare_string_string.f slices_Compare_int64_int64.f
  rw [cmpI, tC_is, h1', h2']
  simp only [Option.bind_some]
  unfold cmp_Or_int.f factC
  generalize tC t0 t1 = a
  generalize rowC lessS d0 d1 = b
  generalize rowC lessI m0 m1 = c
  obtain ⟨k, rfl⟩ : ∃ k', k = k' + 4 := ⟨k - 4, by omega⟩
  have e1 : wrap64 (0 + 1) = 1 := by unfold wrap64; omega
  have e2 : wrap64 (1 + 1) = 2 := by unfold wrap64; omega
  have e3 : wrap64 (2 + 1) = 3 := by unfold wrap64; omega
  have e4 : wrap64 1 = 1 := by unfold wrap64; omega
  have e5 : wrap64 2 = 2 := by unfold wrap64; omega
  have e6 : wrap64 3 = 3 := by unfold wrap64; omega
  by_cases ha : a = 0
  · by_cases hb : b = 0
    · by_cases hc : c = 0
      · simp [cmp_Or_int.l0, rd, e1, e2, e3, e4, e5, e6, ha, hb, hc]
      · simp [cmp_Or_int.l0, rd, e1, e2, e3, e4, e5, e6, ha, hb, hc]
    · simp [cmp_Or_int.l0, rd, e1, e2, e3, e4, e5, e6, ha, hb]
  · simp [cmp_Or_int.l0, rd, e1, e2, e3, e4, e5, e6, ha]
theorem ref_meas (t0 t1 : Int) (d0 d1 : List ByteArray) (x y : List Int) (hx : x.length < 4611686018427387904) (hy : y.length < 4611686018427387904) : ∀ (n i : Nat), i + n = max x.length y.length → ∀ k, 2 * n + 2 ≤ k → gristmillref04_Compare.l1 k (i : Int) t0 d0 x t1 d1 y = some (rowC lessI (x.drop i) (y.drop i)) := by
  intro n
  induction n with
  | zero =>
    intro i hi k hk
    obtain ⟨k, rfl⟩ : ∃ k', k = k' + 2 := ⟨k - 2, by omega⟩
    rw [gristmillref04_Compare.l1, if_neg (by omega), decide_eq_false (by omega), gristmillref04_Compare.j3, if_neg (by decide), List.drop_of_length_le (by omega : x.length ≤ i), List.drop_of_length_le (by omega : y.length ≤ i)]
    rfl
  | succ n ih =>
    intro i hi k hk
    obtain ⟨k, rfl⟩ : ∃ k', k = k' + 2 := ⟨k - 2, by omega⟩
    have e : wrap64 ((i : Int) + 1) = ((i + 1 : Nat) : Int) := by unfold wrap64; omega
    have hj : gristmillref04_Compare.l1 (k + 2) (i : Int) t0 d0 x t1 d1 y = gristmillref04_Compare.j3 (k + 1) (i : Int) true t0 d0 x t1 d1 y := by
      rw [gristmillref04_Compare.l1]
      by_cases h : i < x.length
      · rw [if_pos (by omega)]
      · rw [if_neg (by omega), decide_eq_true (show (i : Int) < (y.length : Int) by omega)]
    rw [hj, gristmillref04_Compare.j3, if_pos rfl]
    by_cases hxi : x.length ≤ i
    · rw [if_pos (by omega), List.drop_of_length_le hxi, rowC_nil, List.length_drop, if_neg (by omega)]
    rw [if_neg (by omega)]
    by_cases hyi : y.length ≤ i
    · rw [if_pos (by omega), List.drop_of_length_le hyi, rowC_end _ _ (by rw [List.length_drop]; omega)]
    have h1x : i < x.length := by omega
    have h1y : i < y.length := by omega
    rw [if_neg (by omega), if_pos (by omega), if_pos (by omega), if_pos (by omega), rdI x i h1x, rdI y i h1y, dropc x i h1x, dropc y i h1y, rowC]
    by_cases h1 : x[i] < y[i]
    · have h1' : lessI x[i] y[i] = true := decide_eq_true h1
      rw [if_pos h1, if_pos h1']
    · have h1' : ¬ lessI x[i] y[i] = true := fun h => h1 (of_decide_eq_true h)
      rw [if_neg h1, if_neg h1']
      by_cases h2 : x[i] > y[i]
      · have h2' : lessI y[i] x[i] = true := decide_eq_true h2
        rw [if_pos h2, if_pos h2']
      · have h2' : ¬ lessI y[i] x[i] = true := fun h => h2 (of_decide_eq_true h)
        rw [if_neg h2, if_neg h2', e]
        exact ih (i + 1) (by omega) k (by omega)
theorem ref_dims (t0 t1 : Int) (x y : List ByteArray) (m0 m1 : List Int) (hx : x.length < 4611686018427387904) (hy : y.length < 4611686018427387904) : ∀ (n i : Nat), i + n = max x.length y.length → ∀ k, gristmillref04_Compare.l0 (k + 2 * n + 2) (i : Int) t0 x m0 t1 y m1 = if rowC lessS (x.drop i) (y.drop i) = 0 then gristmillref04_Compare.l1 k 0 t0 x m0 t1 y m1 else some (rowC lessS (x.drop i) (y.drop i)) := by
  intro n
  induction n with
  | zero =>
    intro i hi k
    rw [show k + 2 * 0 + 2 = (k + 1) + 1 by omega, gristmillref04_Compare.l0, if_neg (by omega), decide_eq_false (by omega), gristmillref04_Compare.j1, if_neg (by decide), List.drop_of_length_le (by omega : x.length ≤ i), List.drop_of_length_le (by omega : y.length ≤ i)]
    rfl
  | succ n ih =>
    intro i hi k
    have e : wrap64 ((i : Int) + 1) = ((i + 1 : Nat) : Int) := by unfold wrap64; omega
    rw [show k + 2 * (n + 1) + 2 = (k + 2 * n + 2) + 2 by omega]
    have hj : gristmillref04_Compare.l0 ((k + 2 * n + 2) + 2) (i : Int) t0 x m0 t1 y m1 = gristmillref04_Compare.j1 ((k + 2 * n + 2) + 1) (i : Int) true t0 x m0 t1 y m1 := by
      rw [gristmillref04_Compare.l0]
      by_cases h : i < x.length
      · rw [if_pos (by omega)]
      · rw [if_neg (by omega), decide_eq_true (show (i : Int) < (y.length : Int) by omega)]
    rw [hj, gristmillref04_Compare.j1, if_pos rfl]
    by_cases hxi : x.length ≤ i
    · have e2 : rowC lessS ([] : List ByteArray) (y.drop i) = -1 := by rw [rowC_nil, List.length_drop, if_neg (by omega)]
      rw [if_pos (by omega), List.drop_of_length_le hxi, e2, if_neg (by decide)]
    rw [if_neg (by omega)]
    by_cases hyi : y.length ≤ i
    · rw [if_pos (by omega), List.drop_of_length_le hyi, rowC_end _ _ (by rw [List.length_drop]; omega), if_neg (by decide)]
    have h1x : i < x.length := by omega
    have h1y : i < y.length := by omega
    rw [if_neg (by omega), if_pos (by omega), if_pos (by omega), if_pos (by omega), rdS x i h1x, rdS y i h1y, dropc x i h1x, dropc y i h1y, rowC]
    by_cases h1 : lessS x[i] y[i] = true
    · have h1' : Op.bytesLess x[i].toList y[i].toList = true := h1
      rw [if_pos h1', if_pos h1, if_neg (by decide)]
    · have h1' : ¬ Op.bytesLess x[i].toList y[i].toList = true := h1
      rw [if_neg h1', if_neg h1]
      by_cases h2 : lessS y[i] x[i] = true
      · have h2' : Op.bytesLess y[i].toList x[i].toList = true := h2
        rw [if_pos h2', if_pos h2, if_neg (by decide)]
      · have h2' : ¬ Op.bytesLess y[i].toList x[i].toList = true := h2
        rw [if_neg h2', if_neg h2, e]
        exact ih (i + 1) (by omega) k
theorem ref_is (t0 t1 : Int) (d0 d1 : List ByteArray) (m0 m1 : List Int) (hd : d0.length < 4611686018427387904) (hd1 : d1.length < 4611686018427387904) (hm : m0.length < 4611686018427387904) (hm1 : m1.length < 4611686018427387904) (k : Nat) (hk : 2 * (max d0.length d1.length) + 2 * (max m0.length m1.length) + 4 ≤ k) : gristmillref04_Compare.f k t0 d0 m0 t1 d1 m1 = some (factC t0 t1 d0 d1 m0 m1) := by
  have h1 := ref_dims t0 t1 d0 d1 m0 m1 hd hd1 (max d0.length d1.length) 0 (by omega) (k - 2 * (max d0.length d1.length) - 2)
  rw [show k - 2 * (max d0.length d1.length) - 2 + 2 * (max d0.length d1.length) + 2 = k by omega, List.drop_zero, List.drop_zero] at h1
  have h2 := ref_meas t0 t1 d0 d1 m0 m1 hm hm1 (max m0.length m1.length) 0 (by omega) (k - 2 * (max d0.length d1.length) - 2) (by omega)
  rw [List.drop_zero, List.drop_zero] at h2
  have h2' : gristmillref04_Compare.l1 (k - 2 * (max d0.length d1.length) - 2) 0 t0 d0 m0 t1 d1 m1 = some (rowC lessI m0 m1) := h2
  have h1' : gristmillref04_Compare.l0 k 0 t0 d0 m0 t1 d1 m1 = if rowC lessS d0 d1 = 0 then gristmillref04_Compare.l1 (k - 2 * (max d0.length d1.length) - 2) 0 t0 d0 m0 t1 d1 m1 else some (rowC lessS d0 d1) := h1
  unfold gristmillref04_Compare.f factC tC
  rw [h1', h2']
  by_cases ha : t0 < t1
  · rw [if_pos ha, if_pos ha, if_neg (by decide)]
  rw [if_neg ha, if_neg ha]
  by_cases hb : t0 > t1
  · rw [if_pos hb, if_pos hb, if_neg (by decide)]
  rw [if_neg hb, if_neg hb, if_pos rfl]
  split <;> rfl
theorem rowC_self {α : Type} (less : α → α → Bool) (h : ∀ a, less a a = false) : ∀ x : List α, rowC less x x = 0
  | [] => rfl
  | x :: a => by rw [rowC, h x, if_neg (by decide), if_neg (by decide)]; exact rowC_self less h a
theorem factC_self (t : Int) (d : List ByteArray) (m : List Int) : factC t t d d m m = 0 := by
  have e : tC t t = 0 := by unfold tC; simp
  unfold factC
  rw [e, if_pos rfl, rowC_self lessS (fun a => by unfold lessS; rw [Go.Proofs.Ytfeeahjaeapkoaa.Ext.less_dec]; exact decide_eq_false (List.lt_irrefl _)), if_pos rfl, rowC_self lessI (fun a => by unfold lessI; exact decide_eq_false (by omega))]
end Go.Proofs.Ytfeeahjaeapkoaa.Ext
end

section
namespace Go.Proofs.Ytfeeahjaeapkoaa.Ext
set_option linter.unusedVariables false
set_option linter.unusedSimpArgs false
open Go.RowKit Go.Proofs.YtfeeahjaeapkoaaW.PrintWords Go.Proofs.Ytfeeahjaeapkoaa.P
structure TO {α : Type} (less : α → α → Bool) : Prop where
  irr : ∀ a, less a a = false
  tri : ∀ a b, less a b = false → less b a = false → a = b
  trans : ∀ a b c, less a b = true → less b c = true → less a c = true
theorem TO.asym {α : Type} {less : α → α → Bool} (h : TO less) {a b : α} (h1 : less a b = true) : less b a = false := by
  cases h2 : less b a
  · rfl
  · have := h.trans a b a h1 h2
    rw [h.irr] at this
    cases this
theorem to_S : TO lessS where
  irr a := by unfold lessS; rw [less_dec]; exact decide_eq_false (List.lt_irrefl _)
  tri a b h1 h2 := by
    unfold lessS at h1 h2
    rw [less_dec, decide_eq_false_iff_not] at h1 h2
    rcases list_lt_or a.data.toList b.data.toList with h | h | h
    · exact absurd h h1
    · have e : ∀ x : ByteArray, x = ⟨x.data.toList.toArray⟩ := fun x => by cases x; simp
      rw [e a, e b, h]
    · exact absurd h h2
  trans a b c h1 h2 := by
    unfold lessS at h1 h2 ⊢
    rw [less_dec, decide_eq_true_iff] at h1 h2 ⊢
    exact List.lt_trans h1 h2
theorem to_I : TO lessI where
  irr a := by unfold lessI; exact decide_eq_false (by omega)
  tri a b h1 h2 := by
    unfold lessI at h1 h2
    rw [decide_eq_false_iff_not] at h1 h2
    omega
  trans a b c h1 h2 := by
    unfold lessI at h1 h2 ⊢
    rw [decide_eq_true_iff] at h1 h2 ⊢
    omega
theorem rowC_vals {α : Type} (less : α → α → Bool) : ∀ x y : List α, rowC less x y = -1 ∨ rowC less x y = 0 ∨ rowC less x y = 1
  | [], [] => .inr (.inl rfl)
  | [], _ :: _ => .inl rfl
  | _ :: _, [] => .inr (.inr rfl)
  | x :: a, y :: b => by
    rw [rowC]
    by_cases h1 : less x y = true
    · rw [if_pos h1]; exact .inl rfl
    · rw [if_neg h1]
      by_cases h2 : less y x = true
      · rw [if_pos h2]; exact .inr (.inr rfl)
      · rw [if_neg h2]; exact rowC_vals less a b
theorem rowC_eq {α : Type} {less : α → α → Bool} (t : TO less) : ∀ x y : List α, rowC less x y = 0 → x = y
  | [], [], _ => rfl
  | [], _ :: _, h => by cases h
  | _ :: _, [], h => by cases h
  | x :: a, y :: b, h => by
    rw [rowC] at h
    by_cases h1 : less x y = true
    · rw [if_pos h1] at h; cases h
    · rw [if_neg h1] at h
      by_cases h2 : less y x = true
      · rw [if_pos h2] at h; cases h
      · rw [if_neg h2] at h
        rw [t.tri x y (by simpa using h1) (by simpa using h2), rowC_eq t a b h]
theorem rowC_anti {α : Type} {less : α → α → Bool} (t : TO less) : ∀ x y : List α, rowC less y x = - rowC less x y
  | [], [] => rfl
  | [], _ :: _ => rfl
  | _ :: _, [] => rfl
  | x :: a, y :: b => by
    rw [rowC, rowC]
    by_cases h1 : less x y = true
    · rw [if_pos h1, if_neg (by rw [t.asym h1]; decide), if_pos h1]; rfl
    · by_cases h2 : less y x = true
      · rw [if_pos h2, if_neg h1, if_pos h2]
      · rw [if_neg h2, if_neg h1, if_neg h1, if_neg h2]; exact rowC_anti t a b
theorem rowC_trans {α : Type} {less : α → α → Bool} (t : TO less) : ∀ x y z : List α, rowC less x y = -1 → rowC less y z = -1 → rowC less x z = -1
  | [], [], _, h, _ => by cases h
  | [], _ :: _, [], _, h => by cases h
  | [], _ :: _, _ :: _, _, _ => rfl
  | _ :: _, [], _, h, _ => by cases h
  | _ :: _, _ :: _, [], _, h => by cases h
  | x :: a, y :: b, z :: c, h1, h2 => by
    rw [rowC] at h1 h2 ⊢
    by_cases p : less x y = true
    · by_cases q : less y z = true
      · rw [if_pos (t.trans _ _ _ p q)]
      · rw [if_neg q] at h2
        by_cases r : less z y = true
        · rw [if_pos r] at h2; cases h2
        · have e : y = z := t.tri y z (by simpa using q) (by simpa using r)
          rw [← e, if_pos p]
    · rw [if_neg p] at h1
      by_cases p2 : less y x = true
      · rw [if_pos p2] at h1; cases h1
      · rw [if_neg p2] at h1
        have e : x = y := t.tri x y (by simpa using p) (by simpa using p2)
        subst e
        by_cases q : less x z = true
        · rw [if_pos q]
        · rw [if_neg q] at h2 ⊢
          by_cases r : less z x = true
          · rw [if_pos r] at h2; cases h2
          · rw [if_neg r] at h2 ⊢
            exact rowC_trans t a b c h1 h2
abbrev F := Int × List ByteArray × List Int
def fC (a b : F) : Int := factC a.1 b.1 a.2.1 b.2.1 a.2.2 b.2.2
theorem fC_vals (a b : F) : fC a b = -1 ∨ fC a b = 0 ∨ fC a b = 1 := by
  unfold fC factC tC
  have h1 := rowC_vals lessS a.2.1 b.2.1
  have h2 := rowC_vals lessI a.2.2 b.2.2
  split <;> (try split) <;> (try split) <;> omega
theorem fC_self (a : F) : fC a a = 0 := factC_self _ _ _
theorem fC_eq {a b : F} (h : fC a b = 0) : a = b := by
  unfold fC factC at h
  by_cases h1 : tC a.1 b.1 = 0
  · rw [if_pos h1] at h
    by_cases h2 : rowC lessS a.2.1 b.2.1 = 0
    · rw [if_pos h2] at h
      have e1 : a.1 = b.1 := by unfold tC at h1; split at h1 <;> (try split at h1) <;> omega
      have e2 := rowC_eq to_S _ _ h2
      have e3 := rowC_eq to_I _ _ h
      exact Prod.ext e1 (Prod.ext e2 e3)
    · rw [if_neg h2] at h; exact absurd h h2
  · rw [if_neg h1] at h; exact absurd h h1
theorem tC_anti (a b : Int) : tC b a = - tC a b := by
  unfold tC
  by_cases h1 : a < b
  · rw [if_neg (by omega), if_pos (by omega), if_pos h1]; rfl
  · by_cases h2 : b < a
    · rw [if_pos h2, if_neg h1, if_pos (by omega)]
    · rw [if_neg h2, if_neg (by omega), if_neg h1, if_neg (by omega)]; rfl
theorem fC_anti (a b : F) : fC b a = - fC a b := by
  unfold fC factC
  rw [tC_anti a.1 b.1, rowC_anti to_S a.2.1 b.2.1, rowC_anti to_I a.2.2 b.2.2]
  by_cases h1 : tC a.1 b.1 = 0
  · rw [if_pos (by omega), if_pos h1]
    by_cases h2 : rowC lessS a.2.1 b.2.1 = 0
    · rw [if_pos (by omega), if_pos h2]
    · rw [if_neg (by omega), if_neg h2]
  · rw [if_neg (by omega), if_neg h1]
theorem fC_trans {a b c : F} (h1 : fC a b = -1) (h2 : fC b c = -1) : fC a c = -1 := by
  have key : ∀ {a b : F}, fC a b = -1 ↔ (a.1 < b.1 ∨ (a.1 = b.1 ∧ (rowC lessS a.2.1 b.2.1 = -1 ∨ (a.2.1 = b.2.1 ∧ rowC lessI a.2.2 b.2.2 = -1)))) := by
    intro a b
    have v := rowC_vals lessS a.2.1 b.2.1
    have z : a.2.1 = b.2.1 → rowC lessS a.2.1 b.2.1 = 0 := fun e => by rw [e]; exact rowC_self lessS to_S.irr _
    unfold fC factC tC
    by_cases p : a.1 < b.1
    · simp only [if_pos p]
      exact ⟨fun _ => .inl p, fun _ => by rw [if_neg (by decide)]⟩
    · by_cases q : a.1 > b.1
      · simp only [if_neg p, if_pos q]
        constructor
        · intro h; cases h
        · rintro (h | ⟨h, _⟩) <;> omega
      · simp only [if_neg p, if_neg q, if_true]
        by_cases r : rowC lessS a.2.1 b.2.1 = 0
        · have e := rowC_eq to_S _ _ r
          rw [if_pos r]
          exact ⟨fun h => .inr ⟨by omega, .inr ⟨e, h⟩⟩, fun h => by
            rcases h with h | ⟨_, h | ⟨_, h⟩⟩
            · omega
            · omega
            · exact h⟩
        · rw [if_neg r]
          exact ⟨fun h => .inr ⟨by omega, .inl h⟩, fun h => by
            rcases h with h | ⟨_, h | ⟨h, _⟩⟩
            · omega
            · exact h
            · exact absurd (z h) r⟩
  rw [key] at h1 h2 ⊢
  rcases h1 with h1 | ⟨e1, h1⟩
  · rcases h2 with h2 | ⟨e2, _⟩
    · exact .inl (by omega)
    · exact .inl (by omega)
  · rcases h2 with h2 | ⟨e2, h2⟩
    · exact .inl (by omega)
    · refine .inr ⟨by omega, ?_⟩
      rcases h1 with h1 | ⟨d1, h1⟩
      · rcases h2 with h2 | ⟨d2, _⟩
        · exact .inl (rowC_trans to_S _ _ _ h1 h2)
        · exact .inl (by rw [← d2]; exact h1)
      · rcases h2 with h2 | ⟨d2, h2⟩
        · exact .inl (by rw [d1]; exact h2)
        · exact .inr ⟨d1.trans d2, rowC_trans to_I _ _ _ h1 h2⟩
end Go.Proofs.Ytfeeahjaeapkoaa.Ext
end

section
namespace Go.Proofs.Ytfeeahjaeapkoaa.Ext
set_option linter.unusedVariables false
set_option linter.unusedSimpArgs false
open Go.RowKit Go.Proofs.YtfeeahjaeapkoaaW.PrintWords Go.Proofs.Ytfeeahjaeapkoaa.P
def W64 (n : Int) : Int := IntKind.u64.wrap n
theorem W64_is (n : Int) : W64 n = n % 18446744073709551616 := rfl
abbrev M := F × Int
def putB : List M → F → Int → List M
  | [], f, n => [(f, n)]
  | (g, m) :: r, f, n => if fC g f = -1 then (g, m) :: putB r f n else if fC g f = 0 then (f, W64 (m + n)) :: r else (f, n) :: (g, m) :: r
def Strict (b : List M) : Prop := b.Pairwise fun x y => fC x.1 y.1 = -1
def look : List M → F → Option Int
  | [], _ => none
  | (g, m) :: r, f => if fC g f = 0 then some m else look r f
theorem fC_gt {a b : F} (h1 : ¬ fC a b = -1) (h2 : ¬ fC a b = 0) : fC b a = -1 := by
  have := fC_vals a b
  rw [fC_anti a b]; omega
theorem putB_mem : ∀ (b : List M) (f : F) (n : Int) (x : M), x ∈ putB b f n → x.1 = f ∨ x ∈ b
  | [], f, n, x, h => by rw [putB, List.mem_singleton] at h; subst h; exact .inl rfl
  | (g, m) :: r, f, n, x, h => by
    rw [putB] at h
    split at h
    · rcases List.mem_cons.1 h with h | h
      · exact .inr (by simp [h])
      · rcases putB_mem r f n x h with h | h
        · exact .inl h
        · exact .inr (by simp [h])
    · split at h
      · rcases List.mem_cons.1 h with h | h
        · exact .inl (by rw [h])
        · exact .inr (by simp [h])
      · rcases List.mem_cons.1 h with h | h
        · exact .inl (by rw [h])
        · exact .inr h
theorem strict_put : ∀ (b : List M) (f : F) (n : Int), Strict b → Strict (putB b f n)
  | [], f, n, _ => by rw [putB]; exact List.pairwise_singleton _ _
  | (g, m) :: r, f, n, h => by
    have h' := List.pairwise_cons.1 h
    rw [putB]
    by_cases p : fC g f = -1
    · rw [if_pos p]
      refine List.pairwise_cons.2 ⟨fun x hx => ?_, strict_put r f n h'.2⟩
      rcases putB_mem r f n x hx with e | e
      · rw [e]; exact p
      · exact h'.1 x e
    · rw [if_neg p]
      by_cases q : fC g f = 0
      · rw [if_pos q]
        have e := fC_eq q
        refine List.pairwise_cons.2 ⟨fun x hx => ?_, h'.2⟩
        show fC f x.1 = -1
        rw [← e]; exact h'.1 x hx
      · rw [if_neg q]
        have e := fC_gt p q
        refine List.pairwise_cons.2 ⟨fun x hx => ?_, h⟩
        rcases List.mem_cons.1 hx with hx | hx
        · rw [hx]; exact e
        · exact fC_trans e (h'.1 x hx)
theorem look_none : ∀ (b : List M) (f : F), (∀ x ∈ b, fC x.1 f ≠ 0) → look b f = none
  | [], _, _ => rfl
  | (g, m) :: r, f, h => by
    rw [look, if_neg (h (g, m) (by simp))]
    exact look_none r f (fun x hx => h x (by simp [hx]))
theorem look_put : ∀ (b : List M) (f : F) (n : Int) (k : F), Strict b → look (putB b f n) k = if k = f then some (match look b f with | none => n | some m => W64 (m + n)) else look b k
  | [], f, n, k, _ => by
    show (if fC f k = 0 then some n else none) = if k = f then some n else none
    by_cases e : k = f
    · subst e; rw [if_pos (fC_self k), if_pos rfl]
    · rw [if_neg (fun h => e (fC_eq h).symm), if_neg e]
  | (g, m) :: r, f, n, k, h => by
    have h' := List.pairwise_cons.1 h
    rw [putB]
    by_cases p : fC g f = -1
    · have gf : fC g f ≠ 0 := by omega
      rw [if_pos p, look, look_put r f n k h'.2, look, look]
      by_cases e : k = f
      · subst e
        rw [if_neg gf, if_pos rfl, if_pos rfl, if_neg gf]
      · rw [if_neg e, if_neg e]
    · rw [if_neg p]
      by_cases q : fC g f = 0
      · have e := fC_eq q
        subst e
        rw [if_pos q, look, look, look, if_pos q]
        by_cases e : k = g
        · subst e; rw [if_pos q, if_pos rfl]
        · rw [if_neg (fun h => e (fC_eq h).symm), if_neg e, if_neg (fun h => e (fC_eq h).symm)]
      · have fg := fC_gt p q
        have hno : look ((g, m) :: r) f = none := look_none _ _ (fun x hx hz => by
          have e := fC_eq hz
          rcases List.mem_cons.1 hx with hx | hx
          · rw [hx] at hz; exact q hz
          · have h1 := fC_trans fg (h'.1 x hx)
            rw [e, fC_self] at h1
            cases h1)
        rw [if_neg q, look, hno]
        by_cases e : k = f
        · subst e; rw [if_pos (fC_self k), if_pos rfl]
        · rw [if_neg (fun h => e (fC_eq h).symm), if_neg e]
theorem strict_ext : ∀ (b c : List M), Strict b → Strict c → (∀ f, look b f = look c f) → b = c
  | [], [], _, _, _ => rfl
  | [], (g, m) :: r, _, _, h => by have := h g; rw [look, look, if_pos (fC_self g)] at this; cases this
  | (g, m) :: r, [], _, _, h => by have := h g; rw [look, look, if_pos (fC_self g)] at this; cases this
  | (g, m) :: r, (k, n) :: s, h1, h2, h => by
    have h1' := List.pairwise_cons.1 h1
    have h2' := List.pairwise_cons.1 h2
    have hgk : g = k := by
      rcases fC_vals g k with p | p | p
      · have hn : look ((k, n) :: s) g = none := look_none _ _ (fun x hx hz => by
          have e := fC_eq hz
          rcases List.mem_cons.1 hx with hx | hx
          · rw [hx] at e
            have e' : k = g := e
            rw [e', fC_self] at p; cases p
          · have h3 := fC_trans p (h2'.1 x hx)
            rw [e, fC_self] at h3; cases h3)
        have := h g
        rw [hn, look, if_pos (fC_self g)] at this
        cases this
      · exact fC_eq p
      · have p' : fC k g = -1 := by rw [fC_anti g k, p]
        have hn : look ((g, m) :: r) k = none := look_none _ _ (fun x hx hz => by
          have e := fC_eq hz
          rcases List.mem_cons.1 hx with hx | hx
          · rw [hx] at e
            have e' : g = k := e
            rw [e', fC_self] at p; cases p
          · have h3 := fC_trans p' (h1'.1 x hx)
            rw [e, fC_self] at h3; cases h3)
        have := h k
        rw [hn, look, if_pos (fC_self k)] at this
        cases this
    subst hgk
    have hmn := h g
    rw [look, look, if_pos (fC_self g), if_pos (fC_self g)] at hmn
    have hmn := Option.some.inj hmn
    subst hmn
    rw [strict_ext r s h1'.2 h2'.2 (fun f => by
      have := h f
      rw [look, look] at this
      by_cases e : fC g f = 0
      · have e' := fC_eq e
        subst e'
        rw [look_none r g (fun x hx hz => by have h3 := h1'.1 x hx; rw [fC_eq hz, fC_self] at h3; cases h3), look_none s g (fun x hx hz => by have h3 := h2'.1 x hx; rw [fC_eq hz, fC_self] at h3; cases h3)]
      · rw [if_neg e, if_neg e] at this
        exact this)]
theorem put_comm (b : List M) (h : Strict b) (f : F) (n : Int) (g : F) (m : Int) : putB (putB b f n) g m = putB (putB b g m) f n := by
  refine strict_ext _ _ (strict_put _ _ _ (strict_put _ _ _ h)) (strict_put _ _ _ (strict_put _ _ _ h)) (fun k => ?_)
  rw [look_put _ g m k (strict_put _ _ _ h), look_put _ f n k (strict_put _ _ _ h), look_put b f n g h, look_put b g m f h, look_put b f n k h, look_put b g m k h]
  by_cases e : f = g
  · subst e
    by_cases ek : k = f
    · subst ek
      simp only [if_true]
      cases look b k with
      | none => simp only [W64_is]; rw [Int.add_comm]
      | some a => simp only [W64_is, Option.some.injEq]; rw [Int.emod_add_emod, Int.emod_add_emod, Int.add_right_comm]
    · simp only [if_neg ek]
  · by_cases e1 : k = g
    · subst e1
      rw [if_pos rfl, if_neg (fun h => e h.symm), if_neg (fun h => e h.symm), if_pos rfl]
    · by_cases e2 : k = f
      · subst e2
        rw [if_neg e1, if_pos rfl, if_pos rfl, if_neg e1]
      · rw [if_neg e1, if_neg e2, if_neg e2, if_neg e1]
def bagB (b : List M) (l : List M) : List M := l.foldl (fun b x => putB b x.1 x.2) b
theorem bagB_strict : ∀ (l b : List M), Strict b → Strict (bagB b l)
  | [], b, h => h
  | x :: l, b, h => bagB_strict l _ (strict_put _ _ _ h)
theorem bagB_perm {l k : List M} (h : l.Perm k) : ∀ b, Strict b → bagB b l = bagB b k := by
  induction h with
  | nil => intro b _; rfl
  | cons x _ ih => intro b hb; exact ih _ (strict_put _ _ _ hb)
  | swap x y l => intro b hb; show bagB (putB (putB b y.1 y.2) x.1 x.2) l = bagB (putB (putB b x.1 x.2) y.1 y.2) l; rw [put_comm b hb]
  | trans _ _ ih1 ih2 => intro b hb; rw [ih1 b hb, ih2 b hb]
theorem put_last : ∀ (b : List M) (f : F) (n : Int), (∀ x ∈ b, fC x.1 f = -1) → putB b f n = b ++ [(f, n)]
  | [], f, n, _ => rfl
  | (g, m) :: r, f, n, h => by
    rw [putB, if_pos (h (g, m) (by simp)), put_last r f n (fun x hx => h x (by simp [hx]))]
    rfl
theorem put_same : ∀ (b : List M) (f : F) (m n : Int), (∀ x ∈ b, fC x.1 f = -1) → putB (b ++ [(f, m)]) f n = b ++ [(f, W64 (m + n))]
  | [], f, m, n, _ => by
    show putB [(f, m)] f n = _
    rw [putB, if_neg (by rw [fC_self]; decide), if_pos (fC_self f)]; rfl
  | (g, k) :: r, f, m, n, h => by
    show putB ((g, k) :: (r ++ [(f, m)])) f n = _
    rw [putB, if_pos (h (g, k) (by simp)), put_same r f m n (fun x hx => h x (by simp [hx]))]
    rfl
end Go.Proofs.Ytfeeahjaeapkoaa.Ext
end

section
namespace Go.Proofs.Ytfeeahjaeapkoaa.Lib
set_option linter.unusedVariables false
set_option linter.unusedSimpArgs false
open Go.RowKit Go.Proofs.YtfeeahjaeapkoaaW.PrintWords
def Bytes (xs : List Int) : Prop := ∀ x ∈ xs, 0 ≤ x ∧ x < 256
theorem Bytes.nil : Bytes [] := fun _ h => by cases h
theorem Bytes.append {xs ys : List Int} (h : Bytes xs) (h2 : Bytes ys) : Bytes (xs ++ ys) := fun x hx => by
  rcases List.mem_append.1 hx with hx | hx
  · exact h x hx
  · exact h2 x hx
theorem Bytes.cons {x : Int} {xs : List Int} (h0 : 0 ≤ x ∧ x < 256) (h : Bytes xs) : Bytes (x :: xs) := fun y hy => by
  rcases List.mem_cons.1 hy with rfl | hy
  · exact h0
  · exact h y hy
theorem Bytes.take {xs : List Int} (h : Bytes xs) (n : Nat) : Bytes (xs.take n) := fun x hx => h x (List.mem_of_mem_take hx)
theorem Bytes.drop {xs : List Int} (h : Bytes xs) (n : Nat) : Bytes (xs.drop n) := fun x hx => h x (List.mem_of_mem_drop hx)
theorem Bytes.getD {xs : List Int} (h : Bytes xs) (k : Nat) : 0 ≤ xs.getD k 0 ∧ xs.getD k 0 < 256 := by
  rw [List.getD_eq_getElem?_getD]
  by_cases hk : k < xs.length
  · rw [List.getElem?_eq_getElem hk]; exact h _ (List.getElem_mem hk)
  · rw [List.getElem?_eq_none (by omega)]; exact ⟨by decide, by decide⟩
theorem Bytes.rd {xs : List Int} (h : Bytes xs) (i : Int) : 0 ≤ rd xs i ∧ rd xs i < 256 := h.getD i.toNat
theorem wraps_u64 (n : Int) (h₀ : 0 ≤ n) (h₁ : n < 2 ^ 64) : IntKind.u64.wrap n = n := by
  simp only [IntKind.wrap, IntKind.bits, IntKind.signed]
  simp
  omega
section
variable {P : Program} {ops : Array Oper} {rest : List Oper} {o : Oper} {a : Act} {Q : Exit → Act → World → Prop}
end
end Go.Proofs.Ytfeeahjaeapkoaa.Lib
end

section
namespace Go.Proofs.Ytfeeahjaeapkoaa.Lib
set_option linter.unusedVariables false
set_option linter.unusedSimpArgs false
open Go.RowKit Go.Proofs.YtfeeahjaeapkoaaW.PrintWords Go.Proofs.YtfeeahjaeapkoaaW.PrintLast
section
variable {P : Program} {ops : Array Oper} {Q : Exit → Act → World → Prop} {md : Region.Mode} {S S' : World → Prop}
theorem goesv_ {oi : Oper} {N : Option Tmp} {a : Act} {w : World} {K : Act → World → Prop} {f : FuncId} {fn : Func} {x : Operand} {ars : Array Operand} {ts : Array TypeId} {first cap : Array Value} (hf : P.funcs[f]? = some fn) (hname : (fn.name == "runtime.NumGoroutine") = false) (hb : fn.body.isSome = true) (args : Array Value)
    (hw : Region.wanted oi (yielded ops a.tmps) = true) (hN : oi.dst = N) (hop : oi.op = .call { callee := .value x, args := ars, argTypes := ts }) (hx : a.eval x = .func (.func f) first cap) (hargs : ars.map a.eval = args)
    (h : Calls P f (first ++ args ++ cap) w fun e w' => ∃ v, e = .returned v ∧ K (a.put N v) w') : if Region.wanted oi (yielded ops a.tmps) = true then Oper.wp P oi a w K Q else K (a.put N undef) w := by
  refine call_ f (first ++ args ++ cap) hw hN ?_ h
  have he := enters_ hf hname hb (first ++ args ++ cap) w
  unfold execOp
  simp [hop, resolve, Deferred.ofValue, hx, invoke, hargs, he, -Array.append_assoc]
end
section
variable {P : Program} {ops : Array Oper} {Q : Exit → Act → World → Prop}
theorem goesLv_ {rest : List Oper} {oi : Oper} {a : Act} {w : World} (N : Option Tmp) (hd : oi.dst = N) (hg : oi.guard = none) {f : FuncId} {fn : Func} {x : Operand} {ars : Array Operand} {ts : Array TypeId} {first cap : Array Value} (hf : P.funcs[f]? = some fn) (hname : (fn.name == "runtime.NumGoroutine") = false) (hb : fn.body.isSome = true) (args : Array Value)
    (hop : oi.op = .call { callee := .value x, args := ars, argTypes := ts }) (hx : a.eval x = .func (.func f) first cap) (hargs : ars.map a.eval = args)
    (h : Calls P f (first ++ args ++ cap) w fun e w' => ∃ v, e = .returned v ∧ wpList P ops Q rest (a.put N v) w') : wpList P ops Q (oi :: rest) a w := by
  refine wpList_plain hg fun K hK => ?_
  have he := enters_ hf hname hb (first ++ args ++ cap) w
  have hrun : (execOp a.eval oi).run P w = .ok (.enter f (first ++ args ++ cap)) w := by
    unfold execOp
    simp [hop, resolve, Deferred.ofValue, hx, invoke, hargs, he, -Array.append_assoc]
  unfold Oper.wp
  rw [hrun, Oper.upon_enter]
  refine h.mono fun e w'' hh => ?_
  obtain ⟨v, rfl, hk⟩ := hh
  rw [hd]
  exact hK _ _ hk
end
end Go.Proofs.Ytfeeahjaeapkoaa.Lib
end

section
namespace Go.Proofs.Ytfeeahjaeapkoaa.Ext
set_option linter.unusedVariables false
set_option linter.unusedSimpArgs false
open Go.RowKit Go.Proofs.YtfeeahjaeapkoaaW.PrintWords Go.Proofs.YtfeeahjaeapkoaaW.PrintLast Go.Proofs.YtfeeahjaeapkoaaW.PrintMore Go.Proofs.Ytfeeahjaeapkoaa.Lib
abbrev SL := Option Addr × Nat × Nat
def encSL (s : SL) : Value := .slice s.1 s.2.1 s.2.2
def kS : Kd SL := Kd.scalar encSL (fun _ => rfl)
abbrev Q := Int × SL × SL × Int
def kq : Kd Q := Kd.pair (Kd.int .i64) (Kd.pair kS (Kd.pair kS (Kd.int .u64)))
def encQ (q : Q) : List Value := [.int .i64 q.1, encSL q.2.1, encSL q.2.2.1, .int .u64 q.2.2.2]
def zQ : Q := (0, (none, 0, 0), (none, 0, 0), 0)
theorem kq_M {w : World} {base : Nat} {ok : Nat → Prop} {q : Q} {cs : List Value} : kq.M w base ok q cs ↔ cs = encQ q := by
  constructor
  · rintro ⟨_, _, rfl, rfl, _, _, rfl, rfl, _, _, rfl, rfl, rfl⟩; rfl
  · rintro rfl; exact ⟨[_], _, rfl, rfl, [_], _, rfl, rfl, [_], [_], rfl, rfl, rfl⟩
theorem kq_get {w : World} {base : Nat} {ok : Nat → Prop} {g n c : Nat} {xs : List Q} {e : TypeId} (h : kq.R e w base ok (.slice (some ⟨g, 0, none⟩) n c) xs) (i : Nat) (hi : i < n) :
    w.cell? ⟨g, i * 4, none⟩ = some (.int .i64 (xs.getD i zQ).1) ∧ w.cell? ⟨g, i * 4 + 1, none⟩ = some (encSL (xs.getD i zQ).2.1) ∧ w.cell? ⟨g, i * 4 + 2, none⟩ = some (encSL (xs.getD i zQ).2.2.1) ∧ w.cell? ⟨g, i * 4 + 3, none⟩ = some (.int .u64 (xs.getD i zQ).2.2.2) := by
  obtain ⟨cs, hcl, hM, hcc⟩ := Kd.R_getA h zQ (i : Int) (by omega) (by omega)
  rw [Int.toNat_natCast] at hM hcc
  have e1 := kq_M.1 hM
  subst e1
  have e4 : kq.sz = 4 := rfl
  have key : ∀ j u, (encQ (xs.getD i zQ))[j]? = some u → w.cell? ⟨g, i * 4 + j, none⟩ = some u := fun j u hu => by
    have := hcc j u hu
    rw [e4, add_at, Nat.zero_add] at this
    exact this
  exact ⟨key 0 _ rfl, key 1 _ rfl, key 2 _ rfl, key 3 _ rfl⟩
theorem kq_put {w : World} {base : Nat} {ok : Nat → Prop} {g n c : Nat} {xs : List Q} {e : TypeId} (h : kq.R e w base ok (.slice (some ⟨g, 0, none⟩) n c) xs) (i : Nat) (hi : i < n) (x : Q) :
    kq.R e (w.setCells g (i * 4) (encQ x)) base ok (.slice (some ⟨g, 0, none⟩) n c) (xs.set i x) ∧ w.grownBy (w.setCells g (i * 4) (encQ x)) (some g) := by
  obtain ⟨cs, hcl, hM, hcc⟩ := Kd.R_getA h zQ (i : Int) (by omega) (by omega)
  have e4 : kq.sz = 4 := rfl
  have hl : cs.length = 4 := hcl
  have := Kd.R_seg h (i : Int) (by omega) (by omega) (c := cs) (seg := encQ x) (j := 0) (x' := x) (okp := fun _ => False) hcl (fun j u hu => by have := hcc j u hu; rw [add_at, Nat.zero_add] at this; rw [Int.toNat_natCast]; exact this) (by rw [e4]; exact Nat.le_refl _)
    (kq_M.2 (by
      have e5 : (encQ x).length = 4 := rfl
      rw [List.take_zero, List.nil_append, e5, Nat.zero_add, List.drop_of_length_le (by omega), List.append_nil])) (fun _ hk => hk.elim)
  rw [Int.toNat_natCast, e4, Nat.add_zero] at this
  exact this
def insJ (cf : Q → Q → Int) (a : Nat) : Nat → List Q → List Q
  | 0, xs => xs
  | j + 1, xs => if a < j + 1 ∧ cf (xs.getD (j + 1) zQ) (xs.getD j zQ) < 0 then insJ cf a j ((xs.set (j + 1) (xs.getD j zQ)).set j (xs.getD (j + 1) zQ)) else xs
def insI (cf : Q → Q → Int) (a : Nat) : Nat → Nat → List Q → List Q
  | 0, _, xs => xs
  | n + 1, i, xs => insI cf a n (i + 1) (insJ cf a i xs)
theorem insJ_length (cf : Q → Q → Int) (a : Nat) : ∀ (j : Nat) (xs : List Q), (insJ cf a j xs).length = xs.length
  | 0, xs => rfl
  | j + 1, xs => by
    rw [insJ]
    split
    · rw [insJ_length cf a j]; simp
    · rfl
theorem swap_perm (xs : List Q) (j : Nat) (h : j + 1 < xs.length) : ((xs.set (j + 1) (xs.getD j zQ)).set j (xs.getD (j + 1) zQ)).Perm xs := by
  have h1 : xs.getD j zQ = xs[j] := by rw [List.getD_eq_getElem?_getD, List.getElem?_eq_getElem (by omega)]; rfl
  have h2 : xs.getD (j + 1) zQ = xs[j + 1] := by rw [List.getD_eq_getElem?_getD, List.getElem?_eq_getElem h]; rfl
  rw [h1, h2]
  have e : xs = xs.take j ++ xs[j] :: xs[j + 1] :: xs.drop (j + 2) := by
    rw [← List.drop_eq_getElem_cons h, ← List.drop_eq_getElem_cons (by omega : j < xs.length), List.take_append_drop]
  have e2 : (xs.set (j + 1) xs[j]).set j xs[j + 1] = xs.take j ++ xs[j + 1] :: xs[j] :: xs.drop (j + 2) := by
    refine List.ext_getElem? (fun i => ?_)
    have hl : (xs.take j).length = j := by rw [List.length_take]; omega
    rw [List.getElem?_set, List.getElem?_set, List.getElem?_append, hl]
    by_cases c1 : i < j
    · rw [if_neg (by omega), if_neg (by omega), if_pos c1, List.getElem?_take, if_pos c1]
    · rw [if_neg c1]
      by_cases c2 : i = j
      · subst c2
        rw [if_pos rfl, if_pos (by rw [List.length_set]; omega), Nat.sub_self]; rfl
      · rw [if_neg (by omega)]
        by_cases c3 : i = j + 1
        · subst c3
          rw [if_pos rfl, if_pos h, show j + 1 - j = 1 by omega]; rfl
        · rw [if_neg (by omega), show i - j = (i - (j + 2)) + 2 by omega]
          simp only [List.getElem?_cons_succ, List.getElem?_drop]
          rw [show j + 2 + (i - (j + 2)) = i by omega]
  rw [e2]
  conv => rhs; rw [e]
  exact List.Perm.append_left _ (List.Perm.swap _ _ _)
end Go.Proofs.Ytfeeahjaeapkoaa.Ext
end

section
namespace Go.Proofs.Ytfeeahjaeapkoaa.Ext
set_option linter.unusedVariables false
set_option linter.unusedSimpArgs false
open Go.RowKit Go.Proofs.YtfeeahjaeapkoaaW.PrintWords Go.Proofs.YtfeeahjaeapkoaaW.PrintLast Go.Proofs.YtfeeahjaeapkoaaW.PrintMore Go.Proofs.Ytfeeahjaeapkoaa.Lib
structure RS (w w' : World) (base : Nat) (ok : Nat → Prop) (g n c : Nat) (xs ys : List Q) : Prop where
  row : kq.R 40 w' base ok (.slice (some ⟨g, 0, none⟩) n c) ys
  perm : ys.Perm xs
  grown : w.grownBy w' (some g)
def CmpOk (f : FuncId) (cf : Q → Q → Int) (w : World) (g : Nat) (xs : List Q) : Prop :=
  ∀ w', w.grownBy w' (some g) → ∀ p ∈ xs, ∀ q ∈ xs, Calls Try.prog f (#[] ++ #[.agg #[.int .i64 p.1, .slice p.2.1.1 p.2.1.2.1 p.2.1.2.2, .slice p.2.2.1.1 p.2.2.1.2.1 p.2.2.1.2.2, .int .u64 p.2.2.2], .agg #[.int .i64 q.1, .slice q.2.1.1 q.2.1.2.1 q.2.1.2.2, .slice q.2.2.1.1 q.2.2.1.2.1 q.2.2.1.2.2, .int .u64 q.2.2.2]] ++ #[]) w' fun e w'' => e = .returned (.int .i64 (cf p q)) ∧ Below w'.heap.size w' w''
theorem grown_drew {w w' : World} {r : Option Nat} (h : w.grownBy w' r) : w.grownBy w'.drew r := ⟨h.os, h.tape, h.output, h.size, h.block⟩
theorem grown_below {w w' w2 : World} {r : Option Nat} (h : w.grownBy w' r) (hb : Below w'.heap.size w' w2) : w.grownBy w2 r := ⟨hb.os.trans h.os, hb.tape.trans h.tape, hb.output.trans h.output, Nat.le_trans h.size hb.size, fun k hk hne => (hb.block k (Nat.lt_of_lt_of_le hk h.size)).trans (h.block k hk hne)⟩
theorem RS.below {w w' w2 : World} {base : Nat} {ok : Nat → Prop} {g n c : Nat} {xs ys : List Q} (h : RS w w' base ok g n c xs ys) (hb : Below w'.heap.size w' w2) : RS w w2 base ok g n c xs ys := ⟨Kd.R_below h.row hb, h.perm, grown_below h.grown hb⟩
theorem grown_trans {w w' w2 : World} {r : Option Nat} (h : w.grownBy w' r) (hb : w'.grownBy w2 r) : w.grownBy w2 r := ⟨hb.os.trans h.os, hb.tape.trans h.tape, hb.output.trans h.output, Nat.le_trans h.size hb.size, fun k hk hne => (hb.block k (Nat.lt_of_lt_of_le hk h.size) hne).trans (h.block k hk hne)⟩
theorem grown_drews {w w' : World} {r : Option Nat} (h : w.grownBy w' r) (m : Nat) : w.grownBy (w'.drewN m) r := ⟨h.os, h.tape, h.output, h.size, h.block⟩
theorem RS.drewN {w w' : World} {base : Nat} {ok : Nat → Prop} {g n c : Nat} {xs ys : List Q} (h : RS w w' base ok g n c xs ys) (m : Nat) : RS w (w'.drewN m) base ok g n c xs ys := ⟨Kd.R_drewN h.row m, h.perm, grown_drews h.grown m⟩
theorem set4 (w : World) (g o : Nat) (q : Q) : w.setCells g o (encQ q) = ((((w.setCell ⟨g, o, none⟩ (.int .i64 q.1)).setCell ⟨g, o + 1, none⟩ (.slice q.2.1.1 q.2.1.2.1 q.2.1.2.2)).setCell ⟨g, o + 2, none⟩ (.slice q.2.2.1.1 q.2.2.1.2.1 q.2.2.1.2.2)).setCell ⟨g, o + 3, none⟩ (.int .u64 q.2.2.2)) := rfl
theorem RS.swap {w w' : World} {base : Nat} {ok : Nat → Prop} {g n c : Nat} {xs zs : List Q} (h : RS w w' base ok g n c xs zs) (j : Nat) (hj : j + 1 < n) (p q : Q) (hp : ((zs.set (j + 1) q).set j p).Perm zs) :
    RS w ((((((((w'.setCell ⟨g, (j + 1) * 4, none⟩ (.int .i64 q.1)).setCell ⟨g, (j + 1) * 4 + 1, none⟩ (.slice q.2.1.1 q.2.1.2.1 q.2.1.2.2)).setCell ⟨g, (j + 1) * 4 + 2, none⟩ (.slice q.2.2.1.1 q.2.2.1.2.1 q.2.2.1.2.2)).setCell ⟨g, (j + 1) * 4 + 3, none⟩ (.int .u64 q.2.2.2)).setCell ⟨g, j * 4, none⟩ (.int .i64 p.1)).setCell ⟨g, j * 4 + 1, none⟩ (.slice p.2.1.1 p.2.1.2.1 p.2.1.2.2)).setCell ⟨g, j * 4 + 2, none⟩ (.slice p.2.2.1.1 p.2.2.1.2.1 p.2.2.1.2.2)).setCell ⟨g, j * 4 + 3, none⟩ (.int .u64 p.2.2.2)) base ok g n c xs ((zs.set (j + 1) q).set j p) := by
  obtain ⟨r1, g1⟩ := kq_put h.row (j + 1) hj q
  obtain ⟨r2, g2⟩ := kq_put r1 j (by omega) p
  have := (show RS w ((w'.setCells g ((j + 1) * 4) (encQ q)).setCells g (j * 4) (encQ p)) base ok g n c xs ((zs.set (j + 1) q).set j p) from ⟨r2, hp.trans h.perm, grown_trans (grown_trans h.grown g1) g2⟩)
  rw [set4, set4] at this
  exact this
theorem RS.drew {w w' : World} {base : Nat} {ok : Nat → Prop} {g n c : Nat} {xs ys : List Q} (h : RS w w' base ok g n c xs ys) : RS w w'.drew base ok g n c xs ys := ⟨Kd.R_drew h.row, h.perm, grown_drew h.grown⟩
theorem insJ_stop (cf : Q → Q → Int) (a : Nat) : ∀ (j : Nat) (zs : List Q), ¬ a < j → insJ cf a j zs = zs
  | 0, zs, _ => rfl
  | j + 1, zs, h => by rw [insJ, if_neg (fun hh => h hh.1)]
set_option maxRecDepth 100000 in
set_option maxHeartbeats 1600000 in
theorem ins_calls (cf : Q → Q → Int) (f : FuncId) (fn : Func) (hf : Try.prog.funcs[f]? = some fn) (hname : (fn.name == "runtime.NumGoroutine") = false) (hbody : fn.body.isSome = true) (g c n a b : Nat) (xs : List Q) (w : World) (base : Nat) (ok : Nat → Prop)
    (hrow : kq.R 40 w base ok (.slice (some ⟨g, 0, none⟩) n c) xs) (hab : a ≤ b) (hb : b ≤ n) (hn : n ≤ 1152921504606846976) (hcmp : CmpOk f cf w g xs) (hg0 : w.grownBy w (some g)) :
    Calls Try.prog 57 #[.slice (some ⟨g, 0, none⟩) n c, .int .i64 a, .int .i64 b, .func (.func f) #[] #[]] w fun e w' => e = .returned (.tuple #[]) ∧ RS w w' base ok g n c xs (insI cf a (b - (a + 1)) (a + 1) xs) := by
  have HF := Aside0.mk hf
  have HNm := Aside0.mk hname
  have HBd := Aside0.mk hbody
  have HCmp := Aside0.mk hcmp
  have HR := Aside0.mk (show RS w w base ok g n c xs xs from ⟨hrow, List.Perm.refl _, hg0⟩)
  have HN := Aside0.mk (show n = xs.length from (Kd.R_reads' hrow).1)
  clear hf hname hbody hcmp hrow hg0
  go_enter Try.func57, Try.ntmps57
  go_wp2_with fail
  go_loopw [8] (fun v8 w' => ∃ (i : Nat) (ys : List Q), a + 1 ≤ i ∧ (i ≤ b ∨ i = a + 1) ∧ v8 = .int .i64 i ∧ Aside0 (insI cf a (b - i) i ys = insI cf a (b - (a + 1)) (a + 1) xs) ∧ Aside0 (RS w w' base ok g n c xs ys)) (fun v8 _ => b - (intOf v8).toNat)
  case atStart => exact ⟨a + 1, xs, Nat.le_refl _, .inr rfl, by go_num, ⟨rfl⟩, HR⟩
  case round =>
    clear HR
    obtain ⟨i, ys, hi1, hi2, rfl, HI, HR⟩ := hrel
    by_cases hlt : i < b
    · have hii : (i : Int) < (b : Int) := by omega
      have HI2 := Aside0.mk (show insI cf a (b - (i + 1)) (i + 1) (insJ cf a i ys) = insI cf a (b - (a + 1)) (a + 1) xs by
        have := HI.out
        rw [show b - i = (b - (i + 1)) + 1 by omega, insI] at this
        exact this)
      clear HI
      go_wp2_with fail
      go_loopw [9] (fun v9 w' => ∃ (j : Nat) (zs : List Q), j ≤ i ∧ v9 = .int .i64 j ∧ Aside0 (insJ cf a j zs = insJ cf a i ys) ∧ Aside0 (RS w w' base ok g n c xs zs)) (fun v9 _ => (intOf v9).toNat)
      case atStart => exact ⟨i, ys, Nat.le_refl _, rfl, ⟨rfl⟩, HR⟩
      case round =>
        clear HR
        obtain ⟨j, zs, hj, rfl, HJ, HR⟩ := hrel
        by_cases haj : a < j
        · obtain ⟨j, rfl⟩ : ∃ j', j = j' + 1 := ⟨j - 1, by omega⟩
          have c1 := kq_get HR.out.row (j + 1) (by omega)
          have c0 := kq_get HR.out.row j (by omega)
          have hm1 : zs.getD (j + 1) zQ ∈ xs := HR.out.perm.mem_iff.1 (by
            have := HN.out; have := HR.out.perm.length_eq
            rw [List.getD_eq_getElem?_getD, List.getElem?_eq_getElem (by omega)]; exact List.getElem_mem _)
          have hm0 : zs.getD j zQ ∈ xs := HR.out.perm.mem_iff.1 (by
            have := HN.out; have := HR.out.perm.length_eq
            rw [List.getD_eq_getElem?_getD, List.getElem?_eq_getElem (by omega)]; exact List.getElem_mem _)
          have HC := Aside0.mk (fun w' (h : w.grownBy w' (some g)) => HCmp.out w' h _ hm1 _ hm0)
          have HSw := Aside0.mk (swap_perm zs j (by have := HN.out; have := HR.out.perm.length_eq; omega))
          have HJ2 := Aside0.mk (show insJ cf a (j + 1) zs = if a < j + 1 ∧ cf (zs.getD (j + 1) zQ) (zs.getD j zQ) < 0 then insJ cf a j ((zs.set (j + 1) (zs.getD j zQ)).set j (zs.getD (j + 1) zQ)) else zs from rfl)
          obtain ⟨d10, d11, d12, d13⟩ := c1
          obtain ⟨d00, d01, d02, d03⟩ := c0
          simp only [encSL] at d11 d12 d01 d02
          generalize zs.getD (j + 1) zQ = p at *
          generalize zs.getD j zQ = q at *
          clear hm1 hm0
          go_wp2_with fail
          have hga : (a : Int) < (j : Int) + 1 := by omega
          have hjn : (j : Int) + 1 < (n : Int) := by omega
          have hjn0 : (j : Int) < (n : Int) := by omega
          have hj0 : (0 : Int) ≤ (j : Int) + 1 := by omega
          have hw1 : wrap64 (j : Int) = (j : Int) := by unfold wrap64; omega
          refine start_ (n := 17) (S := fun w' => w'.cell? ⟨g, (j + 1) * 4, none⟩ = some (.int .i64 p.1) ∧ w'.cell? ⟨g, (j + 1) * 4 + 1, none⟩ = some (.slice p.2.1.1 p.2.1.2.1 p.2.1.2.2) ∧ w'.cell? ⟨g, (j + 1) * 4 + 2, none⟩ = some (.slice p.2.2.1.1 p.2.2.1.2.1 p.2.2.1.2.2) ∧ w'.cell? ⟨g, (j + 1) * 4 + 3, none⟩ = some (.int .u64 p.2.2.2) ∧ w'.cell? ⟨g, j * 4, none⟩ = some (.int .i64 q.1) ∧ w'.cell? ⟨g, j * 4 + 1, none⟩ = some (.slice q.2.1.1 q.2.1.2.1 q.2.1.2.2) ∧ w'.cell? ⟨g, j * 4 + 2, none⟩ = some (.slice q.2.2.1.1 q.2.2.1.2.1 q.2.2.1.2.2) ∧ w'.cell? ⟨g, j * 4 + 3, none⟩ = some (.int .u64 q.2.2.2)) (ds := []) #[false, false, false, false, false, false, false, false, false, false, false, false, false, false, false, false, false] (by kernel_rfl) rfl rfl ⟨d10, d11, d12, d13, d00, d01, d02, d03⟩ (fun hHeld => ?_)
          refine pure_ (i := 0) (N := some 18) (v := ?_) (a' := ?_) #[true, false, false, false, false, false, false, false, false, false, false, false, false, false, false, false, false] rfl rfl (by kernel_rfl) (fun _ _ _ h => h) (Or.inl ⟨by rfl, ?_⟩) ?_ ?_
          rotate_left
          · intro w'
            go_simp
            with_reducible rfl
          rotate_left
          · simp only [Act.put, List.setIfInBounds_toArray, List.set_cons_zero, List.set_cons_succ, i64_w, i32_w]
            rfl
          refine pure_ (i := 1) (N := some 19) (v := ?_) (a' := ?_) #[true, true, false, false, false, false, false, false, false, false, false, false, false, false, false, false, false] rfl rfl (by kernel_rfl) (fun _ _ _ h => h) (Or.inl ⟨by rfl, ?_⟩) ?_ ?_
          rotate_left
          · intro w'
            go_simp
            with_reducible rfl
          rotate_left
          · simp only [Act.put, List.setIfInBounds_toArray, List.set_cons_zero, List.set_cons_succ, i64_w, i32_w]
            rfl
          refine pure_ (i := 2) (N := some 20) (v := ?_) (a' := ?_) #[true, true, true, false, false, false, false, false, false, false, false, false, false, false, false, false, false] rfl rfl (by kernel_rfl) (fun _ _ _ h => h) (Or.inl ⟨by rfl, ?_⟩) ?_ ?_
          rotate_left
          · intro w'
            go_simp
            with_reducible rfl
          rotate_left
          · simp only [Act.put, List.setIfInBounds_toArray, List.set_cons_zero, List.set_cons_succ, i64_w, i32_w]
            rfl
          refine pure_ (i := 3) (N := some 21) (v := ?_) (a' := ?_) #[true, true, true, true, false, false, false, false, false, false, false, false, false, false, false, false, false] rfl rfl (by kernel_rfl) (fun _ _ _ h => h) (Or.inl ⟨by rfl, ?_⟩) ?_ ?_
          rotate_left
          · intro w'
            go_simp
            with_reducible rfl
          rotate_left
          · simp only [Act.put, List.setIfInBounds_toArray, List.set_cons_zero, List.set_cons_succ, i64_w, i32_w]
            rfl
          refine pure_ (i := 4) (N := some 22) (v := ?_) (a' := ?_) #[true, true, true, true, true, false, false, false, false, false, false, false, false, false, false, false, false] rfl rfl (by kernel_rfl) (fun _ _ _ h => h) (Or.inl ⟨by rfl, ?_⟩) ?_ ?_
          rotate_left
          · intro w'
            go_simp
            with_reducible rfl
          rotate_left
          · simp only [Act.put, List.setIfInBounds_toArray, List.set_cons_zero, List.set_cons_succ, i64_w, i32_w]
            rfl
          refine pure_ (i := 5) (N := some 23) (v := ?_) (a' := ?_) #[true, true, true, true, true, true, false, false, false, false, false, false, false, false, false, false, false] rfl rfl (by kernel_rfl) (fun _ _ _ h => h) (Or.inl ⟨by rfl, ?_⟩) ?_ ?_
          rotate_left
          · intro w'
            go_simp
            with_reducible rfl
          rotate_left
          · simp only [Act.put, List.setIfInBounds_toArray, List.set_cons_zero, List.set_cons_succ, i64_w, i32_w]
            rfl
          refine pure_ (i := 6) (N := some 24) (v := ?_) (a' := ?_) #[true, true, true, true, true, true, true, false, false, false, false, false, false, false, false, false, false] rfl rfl (by kernel_rfl) (fun _ _ _ h => h) (Or.inl ⟨by rfl, ?_⟩) ?_ ?_
          rotate_left
          · intro w'
            go_simp
            with_reducible rfl
          rotate_left
          · simp only [Act.put, List.setIfInBounds_toArray, List.set_cons_zero, List.set_cons_succ, i64_w, i32_w]
            rfl
          refine pure_ (i := 7) (N := some 25) (v := ?_) (a' := ?_) #[true, true, true, true, true, true, true, true, false, false, false, false, false, false, false, false, false] rfl rfl (by kernel_rfl) (fun _ _ _ h => h) (Or.inl ⟨by rfl, ?_⟩) ?_ ?_
          rotate_left
          · intro w'
            go_simp
            with_reducible rfl
          rotate_left
          · simp only [Act.put, List.setIfInBounds_toArray, List.set_cons_zero, List.set_cons_succ, i64_w, i32_w]
            rfl
          refine pure_ (i := 9) (N := some 27) (v := ?_) (a' := ?_) #[true, true, true, true, true, true, true, true, false, true, false, false, false, false, false, false, false] rfl rfl (by kernel_rfl) (fun _ _ _ h => h) (Or.inl ⟨by rfl, ?_⟩) ?_ ?_
          rotate_left
          · intro w'
            go_simp
            with_reducible rfl
          rotate_left
          · simp only [Act.put, List.setIfInBounds_toArray, List.set_cons_zero, List.set_cons_succ, i64_w, i32_w]
            rfl
          refine pure_ (i := 10) (N := some 28) (v := ?_) (a' := ?_) #[true, true, true, true, true, true, true, true, false, true, true, false, false, false, false, false, false] rfl rfl (by kernel_rfl) (fun _ _ _ h => h) (Or.inl ⟨by rfl, ?_⟩) ?_ ?_
          rotate_left
          · intro w'
            go_simp
            with_reducible rfl
          rotate_left
          · simp only [Act.put, List.setIfInBounds_toArray, List.set_cons_zero, List.set_cons_succ, i64_w, i32_w]
            rfl
          refine pure_ (i := 11) (N := some 29) (v := ?_) (a' := ?_) #[true, true, true, true, true, true, true, true, false, true, true, true, false, false, false, false, false] rfl rfl (by kernel_rfl) (fun _ _ _ h => h) (Or.inl ⟨by rfl, ?_⟩) ?_ ?_
          rotate_left
          · intro w'
            go_simp
            with_reducible rfl
          rotate_left
          · simp only [Act.put, List.setIfInBounds_toArray, List.set_cons_zero, List.set_cons_succ, i64_w, i32_w]
            rfl
          refine pure_ (i := 12) (N := some 30) (v := ?_) (a' := ?_) #[true, true, true, true, true, true, true, true, false, true, true, true, true, false, false, false, false] rfl rfl (by kernel_rfl) (fun _ _ _ h => h) (Or.inl ⟨by rfl, ?_⟩) ?_ ?_
          rotate_left
          · intro w'
            go_simp
            with_reducible rfl
          rotate_left
          · simp only [Act.put, List.setIfInBounds_toArray, List.set_cons_zero, List.set_cons_succ, i64_w, i32_w]
            rfl
          refine take_ (i := 8) (N := some 26) (v := ?_) (a' := ?_) #[true, true, true, true, true, true, true, true, true, true, true, true, true, false, false, false, false] rfl rfl (by kernel_rfl) (fun _ _ _ h => h) (Or.inl ⟨by rfl, ?_⟩) hHeld ?_ ?_
          rotate_left
          · rintro w' ⟨s0, s1, s2, s3, s4, s5, s6, s7⟩
            go_simp
            with_reducible rfl
          rotate_left
          · simp only [Act.put, List.setIfInBounds_toArray, List.set_cons_zero, List.set_cons_succ, i64_w, i32_w]
            rfl
          refine take_ (i := 13) (N := some 31) (v := ?_) (a' := ?_) #[true, true, true, true, true, true, true, true, true, true, true, true, true, true, false, false, false] rfl rfl (by kernel_rfl) (fun _ _ _ h => h) (Or.inl ⟨by rfl, ?_⟩) hHeld ?_ ?_
          rotate_left
          · rintro w' ⟨s0, s1, s2, s3, s4, s5, s6, s7⟩
            go_simp
            with_reducible rfl
          rotate_left
          · simp only [Act.put, List.setIfInBounds_toArray, List.set_cons_zero, List.set_cons_succ, i64_w, i32_w]
            rfl
          refine one_ (i := 14) (N := some 32) #[true, true, true, true, true, true, true, true, true, true, true, true, true, true, true, false, false] rfl rfl (by kernel_rfl) (by decide) (fun K hK => ?_)
          refine goesv_ HF.out HNm.out HBd.out (#[.agg #[.int .i64 p.1, .slice p.2.1.1 p.2.1.2.1 p.2.1.2.2, .slice p.2.2.1.1 p.2.2.1.2.1 p.2.2.1.2.2, .int .u64 p.2.2.2], .agg #[.int .i64 q.1, .slice q.2.1.1 q.2.1.2.1 q.2.1.2.2, .slice q.2.2.1.1 q.2.2.1.2.1 q.2.2.1.2.2, .int .u64 q.2.2.2]]) (by rfl) rfl rfl rfl (by simp only [List.map_toArray, List.map_cons, List.map_nil]; rfl) ?_
          with_reducible refine (HC.out _ (grown_drew HR.out.grown)).mono ?_
          rintro e w3 ⟨rfl, hb⟩
          refine ⟨_, rfl, ?_⟩
          have hbx := Aside0.mk (below_then (below_drew (Below.refl _ _)) (Nat.le_refl _) hb)
          have HR3 := Aside0.mk (HR.out.below hbx.out)
          clear hb
          refine hK.out _ _ ⟨(pw_cell_below hbx.out d10), (pw_cell_below hbx.out d11), (pw_cell_below hbx.out d12), (pw_cell_below hbx.out d13), (pw_cell_below hbx.out d00), (pw_cell_below hbx.out d01), (pw_cell_below hbx.out d02), (pw_cell_below hbx.out d03)⟩ (fun hHeld => ?_)
          clear hK K
          refine norm_ (a' := ?_) ?_ ?_
          rotate_left
          · show Act.put _ (some 32) _ = _
            simp only [Act.put, List.setIfInBounds_toArray, List.set_cons_zero, List.set_cons_succ, i64_w, i32_w]
            rfl
          refine pure_ (i := 15) (N := some 33) (v := ?_) (a' := ?_) #[true, true, true, true, true, true, true, true, true, true, true, true, true, true, true, true, false] rfl rfl (by kernel_rfl) (fun _ _ _ h => h) (Or.inl ⟨by rfl, ?_⟩) ?_ ?_
          rotate_left
          · intro w'
            go_simp
            with_reducible rfl
          rotate_left
          · simp only [Act.put, List.setIfInBounds_toArray, List.set_cons_zero, List.set_cons_succ, i64_w, i32_w]
            rfl
          refine pure_ (i := 16) (N := some 34) (v := ?_) (a' := ?_) #[true, true, true, true, true, true, true, true, true, true, true, true, true, true, true, true, true] rfl rfl (by kernel_rfl) (fun _ _ _ h => h) (Or.inl ⟨by rfl, ?_⟩) ?_ ?_
          rotate_left
          · intro w'
            go_simp
            with_reducible rfl
          rotate_left
          · simp only [Act.put, List.setIfInBounds_toArray, List.set_cons_zero, List.set_cons_succ, i64_w, i32_w]
            rfl
          refine done_ (by kernel_rfl) ?_
          have hbe : ∀ {o u}, wr.cell? ⟨g, o, none⟩ = some u → w3.cell? ⟨g, o, none⟩ = some u := fun h => pw_cell_below hbx.out h
          have e10 := hbe d10
          have e11 := hbe d11
          have e12 := hbe d12
          have e13 := hbe d13
          have e00 := hbe d00
          have e01 := hbe d01
          have e02 := hbe d02
          have e03 := hbe d03
          obtain ⟨cs3, hcs3⟩ := Kd.R_typed HR3.out.row g rfl
          have hfz : ∀ o, w3.frozen? ⟨g, o, none⟩ = false := fun o => blk_frozen hcs3 o
          clear hbe d10 d11 d12 d13 d00 d01 d02 d03 HR HC hbx hHeld
          by_cases hc : cf p q < 0
          · have hcd : decide (cf p q < 0) = true := decide_eq_true hc
            have HJ3 := Aside0.mk (HJ2.out.trans (if_pos ⟨by omega, hc⟩))
            clear hc HJ2
            rw [hcd]
            go_wp2_with fail
            refine start_ (n := 18) (S := fun w' => w'.cell? ⟨g, (j + 1) * 4, none⟩ = some (.int .i64 p.1) ∧ w'.cell? ⟨g, (j + 1) * 4 + 1, none⟩ = some (.slice p.2.1.1 p.2.1.2.1 p.2.1.2.2) ∧ w'.cell? ⟨g, (j + 1) * 4 + 2, none⟩ = some (.slice p.2.2.1.1 p.2.2.1.2.1 p.2.2.1.2.2) ∧ w'.cell? ⟨g, (j + 1) * 4 + 3, none⟩ = some (.int .u64 p.2.2.2) ∧ w'.cell? ⟨g, j * 4, none⟩ = some (.int .i64 q.1) ∧ w'.cell? ⟨g, j * 4 + 1, none⟩ = some (.slice q.2.1.1 q.2.1.2.1 q.2.1.2.2) ∧ w'.cell? ⟨g, j * 4 + 2, none⟩ = some (.slice q.2.2.1.1 q.2.2.1.2.1 q.2.2.1.2.2) ∧ w'.cell? ⟨g, j * 4 + 3, none⟩ = some (.int .u64 q.2.2.2) ∧ ∀ o, w'.frozen? ⟨g, o, none⟩ = false) (ds := [15, 17]) #[false, false, false, false, false, false, false, false, false, false, false, false, false, false, false, false, false, false] (by kernel_rfl) rfl rfl ⟨e10, e11, e12, e13, e00, e01, e02, e03, hfz⟩ (fun hHeld => ?_)
            refine pure_ (i := 0) (N := some 37) (v := ?_) (a' := ?_) #[true, false, false, false, false, false, false, false, false, false, false, false, false, false, false, false, false, false] rfl rfl (by kernel_rfl) (fun _ _ _ h => h) (Or.inl ⟨by rfl, ?_⟩) ?_ ?_
            rotate_left
            · intro w'
              go_simp
              with_reducible rfl
            rotate_left
            · simp only [Act.put, List.setIfInBounds_toArray, List.set_cons_zero, List.set_cons_succ, i64_w, i32_w]
              rfl
            refine pure_ (i := 1) (N := some 38) (v := ?_) (a' := ?_) #[true, true, false, false, false, false, false, false, false, false, false, false, false, false, false, false, false, false] rfl rfl (by kernel_rfl) (fun _ _ _ h => h) (Or.inl ⟨by rfl, ?_⟩) ?_ ?_
            rotate_left
            · intro w'
              go_simp
              with_reducible rfl
            rotate_left
            · simp only [Act.put, List.setIfInBounds_toArray, List.set_cons_zero, List.set_cons_succ, i64_w, i32_w]
              rfl
            refine pure_ (i := 2) (N := some 39) (v := ?_) (a' := ?_) #[true, true, true, false, false, false, false, false, false, false, false, false, false, false, false, false, false, false] rfl rfl (by kernel_rfl) (fun _ _ _ h => h) (Or.inl ⟨by rfl, ?_⟩) ?_ ?_
            rotate_left
            · intro w'
              go_simp
              with_reducible rfl
            rotate_left
            · simp only [Act.put, List.setIfInBounds_toArray, List.set_cons_zero, List.set_cons_succ, i64_w, i32_w]
              rfl
            refine pure_ (i := 3) (N := some 40) (v := ?_) (a' := ?_) #[true, true, true, true, false, false, false, false, false, false, false, false, false, false, false, false, false, false] rfl rfl (by kernel_rfl) (fun _ _ _ h => h) (Or.inl ⟨by rfl, ?_⟩) ?_ ?_
            rotate_left
            · intro w'
              go_simp
              with_reducible rfl
            rotate_left
            · simp only [Act.put, List.setIfInBounds_toArray, List.set_cons_zero, List.set_cons_succ, i64_w, i32_w]
              rfl
            refine pure_ (i := 4) (N := some 41) (v := ?_) (a' := ?_) #[true, true, true, true, true, false, false, false, false, false, false, false, false, false, false, false, false, false] rfl rfl (by kernel_rfl) (fun _ _ _ h => h) (Or.inl ⟨by rfl, ?_⟩) ?_ ?_
            rotate_left
            · intro w'
              go_simp
              with_reducible rfl
            rotate_left
            · simp only [Act.put, List.setIfInBounds_toArray, List.set_cons_zero, List.set_cons_succ, i64_w, i32_w]
              rfl
            refine pure_ (i := 5) (N := some 42) (v := ?_) (a' := ?_) #[true, true, true, true, true, true, false, false, false, false, false, false, false, false, false, false, false, false] rfl rfl (by kernel_rfl) (fun _ _ _ h => h) (Or.inl ⟨by rfl, ?_⟩) ?_ ?_
            rotate_left
            · intro w'
              go_simp
              with_reducible rfl
            rotate_left
            · simp only [Act.put, List.setIfInBounds_toArray, List.set_cons_zero, List.set_cons_succ, i64_w, i32_w]
              rfl
            refine pure_ (i := 6) (N := some 43) (v := ?_) (a' := ?_) #[true, true, true, true, true, true, true, false, false, false, false, false, false, false, false, false, false, false] rfl rfl (by kernel_rfl) (fun _ _ _ h => h) (Or.inl ⟨by rfl, ?_⟩) ?_ ?_
            rotate_left
            · intro w'
              go_simp
              with_reducible rfl
            rotate_left
            · simp only [Act.put, List.setIfInBounds_toArray, List.set_cons_zero, List.set_cons_succ, i64_w, i32_w]
              rfl
            refine pure_ (i := 7) (N := some 44) (v := ?_) (a' := ?_) #[true, true, true, true, true, true, true, true, false, false, false, false, false, false, false, false, false, false] rfl rfl (by kernel_rfl) (fun _ _ _ h => h) (Or.inl ⟨by rfl, ?_⟩) ?_ ?_
            rotate_left
            · intro w'
              go_simp
              with_reducible rfl
            rotate_left
            · simp only [Act.put, List.setIfInBounds_toArray, List.set_cons_zero, List.set_cons_succ, i64_w, i32_w]
              rfl
            refine pure_ (i := 8) (N := some 45) (v := ?_) (a' := ?_) #[true, true, true, true, true, true, true, true, true, false, false, false, false, false, false, false, false, false] rfl rfl (by kernel_rfl) (fun _ _ _ h => h) (Or.inl ⟨by rfl, ?_⟩) ?_ ?_
            rotate_left
            · intro w'
              go_simp
              with_reducible rfl
            rotate_left
            · simp only [Act.put, List.setIfInBounds_toArray, List.set_cons_zero, List.set_cons_succ, i64_w, i32_w]
              rfl
            refine pure_ (i := 10) (N := some 47) (v := ?_) (a' := ?_) #[true, true, true, true, true, true, true, true, true, false, true, false, false, false, false, false, false, false] rfl rfl (by kernel_rfl) (fun _ _ _ h => h) (Or.inl ⟨by rfl, ?_⟩) ?_ ?_
            rotate_left
            · intro w'
              go_simp
              with_reducible rfl
            rotate_left
            · simp only [Act.put, List.setIfInBounds_toArray, List.set_cons_zero, List.set_cons_succ, i64_w, i32_w]
              rfl
            refine pure_ (i := 11) (N := some 48) (v := ?_) (a' := ?_) #[true, true, true, true, true, true, true, true, true, false, true, true, false, false, false, false, false, false] rfl rfl (by kernel_rfl) (fun _ _ _ h => h) (Or.inl ⟨by rfl, ?_⟩) ?_ ?_
            rotate_left
            · intro w'
              go_simp
              with_reducible rfl
            rotate_left
            · simp only [Act.put, List.setIfInBounds_toArray, List.set_cons_zero, List.set_cons_succ, i64_w, i32_w]
              rfl
            refine pure_ (i := 12) (N := some 49) (v := ?_) (a' := ?_) #[true, true, true, true, true, true, true, true, true, false, true, true, true, false, false, false, false, false] rfl rfl (by kernel_rfl) (fun _ _ _ h => h) (Or.inl ⟨by rfl, ?_⟩) ?_ ?_
            rotate_left
            · intro w'
              go_simp
              with_reducible rfl
            rotate_left
            · simp only [Act.put, List.setIfInBounds_toArray, List.set_cons_zero, List.set_cons_succ, i64_w, i32_w]
              rfl
            refine take_ (i := 9) (N := some 46) (v := ?_) (a' := ?_) #[true, true, true, true, true, true, true, true, true, true, true, true, true, false, false, false, false, false] rfl rfl (by kernel_rfl) (fun _ _ _ h => h) (Or.inl ⟨by rfl, ?_⟩) hHeld ?_ ?_
            rotate_left
            · rintro w' ⟨s0, s1, s2, s3, s4, s5, s6, s7, s8⟩
              go_simp
              with_reducible rfl
            rotate_left
            · simp only [Act.put, List.setIfInBounds_toArray, List.set_cons_zero, List.set_cons_succ, i64_w, i32_w]
              rfl
            refine take_ (i := 13) (N := some 50) (v := ?_) (a' := ?_) #[true, true, true, true, true, true, true, true, true, true, true, true, true, true, false, false, false, false] rfl rfl (by kernel_rfl) (fun _ _ _ h => h) (Or.inl ⟨by rfl, ?_⟩) hHeld ?_ ?_
            rotate_left
            · rintro w' ⟨s0, s1, s2, s3, s4, s5, s6, s7, s8⟩
              go_simp
              with_reducible rfl
            rotate_left
            · simp only [Act.put, List.setIfInBounds_toArray, List.set_cons_zero, List.set_cons_succ, i64_w, i32_w]
              rfl
            refine pure_ (i := 14) (N := some 51) (v := ?_) (a' := ?_) #[true, true, true, true, true, true, true, true, true, true, true, true, true, true, true, false, false, false] rfl rfl (by kernel_rfl) (fun _ _ _ h => h) (Or.inl ⟨by rfl, ?_⟩) ?_ ?_
            rotate_left
            · intro w'
              go_simp
              with_reducible rfl
            rotate_left
            · simp only [Act.put, List.setIfInBounds_toArray, List.set_cons_zero, List.set_cons_succ, i64_w, i32_w]
              rfl
            refine last_ (i := 15) (N := none) #[true, true, true, true, true, true, true, true, true, true, true, true, true, true, true, true, false, false] rfl rfl (by kernel_rfl) (by decide) (fun K hK => ?_)
            refine skip_ (w1 := ?_) (by rfl) rfl ?_ ?_
            rotate_left
            · go_simp
              rfl
            refine hK.out _ _ ?_
            clear hK K
            refine pure_ (i := 16) (N := some 52) (v := ?_) (a' := ?_) #[true, true, true, true, true, true, true, true, true, true, true, true, true, true, true, true, true, false] rfl rfl (by kernel_rfl) (fun _ _ _ h => h) (Or.inl ⟨by rfl, ?_⟩) ?_ ?_
            rotate_left
            · intro w'
              go_simp
              with_reducible rfl
            rotate_left
            · simp only [Act.put, List.setIfInBounds_toArray, List.set_cons_zero, List.set_cons_succ, i64_w, i32_w]
              rfl
            refine last_ (i := 17) (N := none) #[true, true, true, true, true, true, true, true, true, true, true, true, true, true, true, true, true, true] rfl rfl (by kernel_rfl) (by decide) (fun K hK => ?_)
            refine skip_ (w1 := ?_) (by rfl) rfl ?_ ?_
            rotate_left
            · go_simp
              rfl
            refine hK.out _ _ ?_
            clear hK K
            refine done_ (by kernel_rfl) ?_
            have HR4 := Aside0.mk (HR3.out.swap j (by omega) p q HSw.out).drew
            clear HR3 hHeld hcs3 hfz
            generalize World.drew _ = w4 at *
            go_wp2_with fail
            go_roundw
            case rel => exact ⟨j, (zs.set (j + 1) q).set j p, by omega, by go_num, ⟨HJ3.out.symm.trans HJ.out⟩, HR4⟩
            case measure => simp [intOf]
          · have hcd : decide (cf p q < 0) = false := decide_eq_false hc
            have HJ3 := Aside0.mk (HJ2.out.trans (if_neg (fun h => hc h.2)))
            clear hc HJ2 e10 e11 e12 e13 e00 e01 e02 e03 hfz hcs3
            rw [hcd]
            go_wp2_with fail
            go_roundw
            case rel => exact ⟨i + 1, zs, by omega, .inl (by omega), by go_num, ⟨by rw [← HI2.out, ← HJ.out, HJ3.out]⟩, HR3⟩
            case measure => simp [intOf]; omega
        · have HJ3 := Aside0.mk (insJ_stop cf a j zs haj)
          have hga : decide (a < j) = false := decide_eq_false haj
          clear haj
          go_wp2_with fail
          go_quiet (fail)
          go_wp2_with fail
          go_roundw
          case rel => exact ⟨i + 1, zs, by omega, .inl (by omega), by go_num, ⟨by rw [← HI2.out, ← HJ.out, HJ3.out]⟩, ⟨HR.out.drewN _⟩⟩
          case measure => simp [intOf]; omega
    · have e0 : b - i = 0 := by omega
      have HF0 := Aside0.mk (show ys = insI cf a (b - (a + 1)) (a + 1) xs by
        have := HI.out
        rw [e0, insI] at this
        exact this)
      have hii : decide (i < b) = false := decide_eq_false hlt
      clear HI e0 hlt
      go_wp2_with fail
      go_end0
      refine ⟨rfl, ?_⟩
      rw [← HF0.out]
      exact HR.out
end Go.Proofs.Ytfeeahjaeapkoaa.Ext
end

section
namespace Go.Proofs.Ytfeeahjaeapkoaa.Ext
set_option linter.unusedVariables false
set_option linter.unusedSimpArgs false
open Go.RowKit Go.Proofs.YtfeeahjaeapkoaaW.PrintWords Go.Proofs.YtfeeahjaeapkoaaW.PrintLast Go.Proofs.YtfeeahjaeapkoaaW.PrintMore Go.Proofs.Ytfeeahjaeapkoaa.Lib Go.Proofs.Ytfeeahjaeapkoaa.P
structure Dec (w : World) (g : Nat) (q : Q) (x : F) : Prop where
  t : q.1 = x.1
  dn : q.2.1.2.1 = x.2.1.length
  dc : x.2.1.length ≤ q.2.1.2.2
  d : ∀ w', KeepBut w w' g none → Kd.string.C w' q.2.1.1 x.2.1.length x.2.1
  mn : q.2.2.1.2.1 = x.2.2.length
  mc : x.2.2.length ≤ q.2.2.1.2.2
  m : ∀ w', KeepBut w w' g none → (Kd.int .i64).C w' q.2.2.1.1 x.2.2.length x.2.2
  dl : x.2.1.length ≤ 8796093022208
  ml : x.2.2.length ≤ 17592186044416
theorem keep_grown {w w' : World} {g : Nat} (h : w.grownBy w' (some g)) : KeepBut w w' g none := ⟨h.size, fun i hi hne _ => h.block i hi (fun e => hne (Option.some.inj e))⟩
set_option maxRecDepth 100000 in
set_option maxHeartbeats 400000 in
theorem cmp_ok (w : World) (g : Nat) (xs : List Q) (dec : Q → F) (hd : ∀ p ∈ xs, Dec w g p (dec p)) : CmpOk 46 (fun p q => fC (dec p) (dec q)) w g xs := by
  intro w' hg p hp q hq
  have Dp := Aside0.mk (hd p hp)
  have Dq := Aside0.mk (hd q hq)
  have HG := Aside0.mk hg
  show Calls Try.prog 46 #[.agg #[.int .i64 p.1, .slice p.2.1.1 p.2.1.2.1 p.2.1.2.2, .slice p.2.2.1.1 p.2.2.1.2.1 p.2.2.1.2.2, .int .u64 p.2.2.2], .agg #[.int .i64 q.1, .slice q.2.1.1 q.2.1.2.1 q.2.1.2.2, .slice q.2.2.1.1 q.2.2.1.2.1 q.2.2.1.2.2, .int .u64 q.2.2.2]] w' (fun e w'' => e = .returned (.int .i64 (fC (dec p) (dec q))) ∧ Below w'.heap.size w' w'')
  generalize dec p = x at *
  generalize dec q = y at *
  obtain ⟨pt, ⟨pA, pn, pc⟩, ⟨pB, pm, pd⟩, pk⟩ := p
  obtain ⟨qt, ⟨qA, qn, qc⟩, ⟨qB, qm, qd⟩, qk⟩ := q
  obtain ⟨xt, xd, xm⟩ := x
  obtain ⟨yt, yd, ym⟩ := y
  have e1 : pt = xt := Dp.out.t
  have e2 : pn = xd.length := Dp.out.dn
  have e3 : pm = xm.length := Dp.out.mn
  have e4 : qt = yt := Dq.out.t
  have e5 : qn = yd.length := Dq.out.dn
  have e6 : qm = ym.length := Dq.out.mn
  subst e1 e2 e3 e4 e5 e6
  clear hp hq
  have Fp := Aside0.mk (show xd.length ≤ pc ∧ xm.length ≤ pd ∧ xd.length < 4611686018427387904 ∧ xm.length < 4611686018427387904 ∧ (∀ w', KeepBut w w' g none → Kd.string.C w' pA xd.length xd) ∧ (∀ w', KeepBut w w' g none → (Kd.int .i64).C w' pB xm.length xm) from ⟨Dp.out.dc, Dp.out.mc, Nat.lt_of_le_of_lt Dp.out.dl (by decide), Nat.lt_of_le_of_lt Dp.out.ml (by decide), Dp.out.d, Dp.out.m⟩)
  have Fq := Aside0.mk (show yd.length ≤ qc ∧ ym.length ≤ qd ∧ (∀ w', KeepBut w w' g none → Kd.string.C w' qA yd.length yd) ∧ (∀ w', KeepBut w w' g none → (Kd.int .i64).C w' qB ym.length ym) from ⟨Dq.out.dc, Dq.out.mc, Dq.out.d, Dq.out.m⟩)
  have HCo := Aside0.mk (compare_is pt qt xd yd xm ym Fp.out.2.2.1 Fp.out.2.2.2.1 (xd.length + xm.length + 5) (Nat.le_refl _))
  show Calls Try.prog 46 #[.agg #[.int .i64 pt, .slice pA xd.length pc, .slice pB xm.length pd, .int .u64 pk], .agg #[.int .i64 qt, .slice qA yd.length qc, .slice qB ym.length qd, .int .u64 qk]] w' (fun e w'' => e = .returned (.int .i64 (factC pt qt xd yd xm ym)) ∧ Below w'.heap.size w' w'')
  generalize factC pt qt xd yd xm ym = r at *
  clear Dp Dq
  clear hd hg
  have HX0 := Aside0.mk (Below.refl w'.heap.size w')
  go_enter Try.func46, Try.ntmps46
  go_wp2_with (first
    | ((with_reducible refine gate_dst (N := 2) rfl ?_); refine box_event ?hg (N := 2) ?hd (cs := #[.int .i64 pt, .slice pA xd.length pc, .slice pB xm.length pd, .int .u64 pk]) (t := 40) ?hr ?_; (case hd => rfl); (case hg => rfl); (case hr => first | (go_simp; done) | (go_simp; rfl)); intro g1 hg w1 hbox hb; have GE1 := Aside0.mk (Nat.le_of_eq hg.symm); have BK1 := Aside0.mk hbox; have HX1 := Aside0.mk hb; clear hg hbox hb)
    | (((with_reducible refine gate_dst (N := 3) rfl ?_); refine box_event ?hg (N := 3) ?hd (cs := #[.int .i64 qt, .slice qA yd.length qc, .slice qB ym.length qd, .int .u64 qk]) (t := 40) ?hr ?_; (case hd => rfl); (case hg => rfl); (case hr => first | (go_simp; done) | (go_simp; rfl)); intro g2 hg w2 hbox hb; have GE2 := Aside0.mk (Nat.le_of_eq hg.symm); have BK2 := Aside0.mk hbox; have HX2 := Aside0.mk hb; clear hg hbox hb); have BK1b := Aside0.mk (blk_below BK1.out HX2.out); have HB2 := Aside0.mk (below_then HX1.out HX1.out.size HX2.out); (have hg1_0 : w2.cell? ⟨g1, 0, none⟩ = some (.int .i64 pt) := (blk_cell BK1b.out 0).trans rfl; have hfg1_0 := blk_frozen BK1b.out 0; have hg1_1 : w2.cell? ⟨g1, 1, none⟩ = some (.slice pA xd.length pc) := (blk_cell BK1b.out 1).trans rfl; have hfg1_1 := blk_frozen BK1b.out 1; have hg1_2 : w2.cell? ⟨g1, 2, none⟩ = some (.slice pB xm.length pd) := (blk_cell BK1b.out 2).trans rfl; have hfg1_2 := blk_frozen BK1b.out 2; have hg1_3 : w2.cell? ⟨g1, 3, none⟩ = some (.int .u64 pk) := (blk_cell BK1b.out 3).trans rfl; have hfg1_3 := blk_frozen BK1b.out 3); (have hg2_0 : w2.cell? ⟨g2, 0, none⟩ = some (.int .i64 qt) := (blk_cell BK2.out 0).trans rfl; have hfg2_0 := blk_frozen BK2.out 0; have hg2_1 : w2.cell? ⟨g2, 1, none⟩ = some (.slice qA yd.length qc) := (blk_cell BK2.out 1).trans rfl; have hfg2_1 := blk_frozen BK2.out 1; have hg2_2 : w2.cell? ⟨g2, 2, none⟩ = some (.slice qB ym.length qd) := (blk_cell BK2.out 2).trans rfl; have hfg2_2 := blk_frozen BK2.out 2; have hg2_3 : w2.cell? ⟨g2, 3, none⟩ = some (.int .u64 qk) := (blk_cell BK2.out 3).trans rfl; have hfg2_3 := blk_frozen BK2.out 3))
    | fail)
  have hk : KeepBut w w2 g none := keep_grown (grown_below HG.out HB2.out)
  refine (fact_Compare.calls (xd.length + xm.length + 5) pt pA pc xd pB pd xm qt qA qc yd qB qd ym r w2 (Fp.out.2.2.2.2.1 w2 hk) Fp.out.1 (Fp.out.2.2.2.2.2 w2 hk) Fp.out.2.1 (Fq.out.2.2.1 w2 hk) Fq.out.1 (Fq.out.2.2.2 w2 hk) Fq.out.2.1 HCo.out).mono ?_
  rintro e w3 ⟨rfl, hb⟩
  have HB3 := Aside0.mk (below_then HB2.out HB2.out.size hb)
  clear hb hk
  go_wp2_with fail
  go_ret
  exact ⟨rfl, HB3.out⟩
end Go.Proofs.Ytfeeahjaeapkoaa.Ext
end

section
namespace Go.Proofs.Ytfeeahjaeapkoaa.Ext
set_option linter.unusedVariables false
set_option linter.unusedSimpArgs false
open Go.RowKit Go.Proofs.YtfeeahjaeapkoaaW.PrintWords
def insRev (cf : Q → Q → Int) (x : Q) : List Q → List Q
  | [] => [x]
  | y :: t => if cf x y < 0 then y :: insRev cf x t else x :: y :: t
theorem two_swap (L R : List Q) (x y : Q) : ((L ++ y :: x :: R).set (L.length + 1) y).set L.length x = L ++ x :: y :: R := by
  rw [List.set_append_right _ _ (by omega), show L.length + 1 - L.length = 1 by omega, List.set_append_right _ _ (Nat.le_refl _), Nat.sub_self]
  rfl
theorem at_len (L R : List Q) (x : Q) : (L ++ x :: R).getD L.length zQ = x := by
  rw [List.getD_eq_getElem?_getD, List.getElem?_append_right (Nat.le_refl _), Nat.sub_self]; rfl
theorem at_len1 (L R : List Q) (x y : Q) : (L ++ y :: x :: R).getD (L.length + 1) zQ = x := by
  rw [List.getD_eq_getElem?_getD, List.getElem?_append_right (by omega), show L.length + 1 - L.length = 1 by omega]; rfl
theorem insJ_rev (cf : Q → Q → Int) (x : Q) : ∀ (t A R : List Q), insJ cf A.length (A.length + t.length) (A ++ t.reverse ++ x :: R) = A ++ (insRev cf x t).reverse ++ R
  | [], A, R => by
    have : insJ cf A.length A.length (A ++ [].reverse ++ x :: R) = A ++ [].reverse ++ x :: R := by
      cases h : A.length with
      | zero => rfl
      | succ j => rw [insJ, if_neg (fun hh => by omega)]
    rw [List.length_nil, Nat.add_zero, this, insRev]
    simp
  | y :: t, A, R => by
    have hl : (A ++ t.reverse).length = A.length + t.length := by simp
    have e : A ++ (y :: t).reverse ++ x :: R = (A ++ t.reverse) ++ y :: x :: R := by simp
    have h1 := at_len1 (A ++ t.reverse) R x y
    have h2 := at_len (A ++ t.reverse) (x :: R) y
    have h3 := two_swap (A ++ t.reverse) R x y
    rw [hl] at h1 h2 h3
    rw [List.length_cons, show A.length + (t.length + 1) = (A.length + t.length) + 1 by omega, e, insJ, h1, h2, h3, insRev]
    by_cases hc : cf x y < 0
    · rw [if_pos ⟨by omega, hc⟩, if_pos hc, insJ_rev cf x t A (y :: R)]
      simp
    · rw [if_neg (fun h => hc h.2), if_neg hc]
      simp
structure Pre (cf : Q → Q → Int) : Prop where
  asym : ∀ x y, cf x y < 0 → ¬ cf y x < 0
  trans : ∀ x y z, ¬ cf x y < 0 → ¬ cf y z < 0 → ¬ cf x z < 0
theorem insRev_mem (cf : Q → Q → Int) (x : Q) : ∀ (t : List Q) (z : Q), z ∈ insRev cf x t → z = x ∨ z ∈ t
  | [], z, h => by rw [insRev, List.mem_singleton] at h; exact .inl h
  | y :: t, z, h => by
    rw [insRev] at h
    split at h
    · rcases List.mem_cons.1 h with h | h
      · exact .inr (by simp [h])
      · rcases insRev_mem cf x t z h with h | h
        · exact .inl h
        · exact .inr (by simp [h])
    · rcases List.mem_cons.1 h with h | h
      · exact .inl h
      · exact .inr h
theorem insRev_desc {cf : Q → Q → Int} (hp : Pre cf) (x : Q) : ∀ t : List Q, t.Pairwise (fun y z => ¬ cf y z < 0) → (insRev cf x t).Pairwise (fun y z => ¬ cf y z < 0)
  | [], _ => by rw [insRev]; exact List.pairwise_singleton _ _
  | y :: t, h => by
    have h' := List.pairwise_cons.1 h
    rw [insRev]
    by_cases hc : cf x y < 0
    · rw [if_pos hc]
      refine List.pairwise_cons.2 ⟨fun z hz => ?_, insRev_desc hp x t h'.2⟩
      rcases insRev_mem cf x t z hz with e | e
      · rw [e]; exact hp.asym x y hc
      · exact h'.1 z e
    · rw [if_neg hc]
      refine List.pairwise_cons.2 ⟨fun z hz => ?_, h⟩
      rcases List.mem_cons.1 hz with e | e
      · rw [e]; exact hc
      · exact hp.trans x y z hc (h'.1 z e)
end Go.Proofs.Ytfeeahjaeapkoaa.Ext
end

section
namespace Go.Proofs.Ytfeeahjaeapkoaa.P
set_option linter.unusedVariables false
set_option linter.unusedSimpArgs false
open Go.RowKit Go.Proofs.YtfeeahjaeapkoaaW.PrintWords Go.Proofs.YtfeeahjaeapkoaaW.PrintLast Go.Proofs.YtfeeahjaeapkoaaW.PrintMore Go.Proofs.Ytfeeahjaeapkoaa.Lib
theorem infoStr : (Try.prog.info? 9).map (fun i => (i.zero, i.size, i.bytes)) = some (some (.string ⟨#[]⟩), 1, 16) := by kernel_rfl
theorem infoI64 : (Try.prog.info? 2).map (fun i => (i.zero, i.size, i.bytes)) = some (some (.int .i64 0), 1, 8) := by kernel_rfl
set_option maxRecDepth 100000 in
set_option maxHeartbeats 400000 in
theorem clone_strings (xs : List ByteArray) (len : Nat) (A : Option Addr) (c : Nat) (w : World) (hr : Kd.C Kd.string w A len xs) (hl : xs.length * 16 ≤ 140737488355328) :
    Calls Try.prog 53 #[.slice A len c] w fun e w' => ∃ v, e = .returned v ∧ Kd.R Kd.string 9 w' w.heap.size (fun _ => True) v xs ∧ Below w.heap.size w w' := by
  obtain rfl := hr.1
  have HR := Aside0.mk hr
  have HB := Aside0.mk (Below.refl w.heap.size w)
  clear hr
  have heq := fun u : World => Lib.run_eql_slice_nil (P := Try.prog) u 24 9 A xs.length c 0 0 Try.underlying24
  rcases A with _ | ad
  · have hx : xs = [] := by
      rcases xs with _ | ⟨x, l⟩
      · rfl
      · obtain ⟨ad, h, _⟩ := HR.out.2.2 (by simp)
        cases h
    subst hx
    simp only [List.length_nil, Option.isNone_none] at heq
    go_enter Try.func53, Try.ntmps53
    go_wp2
    go_ret
    exact ⟨_, rfl, Kd.R_nil _ _ _ _ _, HB.out⟩
  · go_enter Try.func53, Try.ntmps53
    go_wp2_with (first
      | ((with_reducible refine gate_dst (N := 5) rfl ?_); refine Kd.R_lit Kd.string (w0 := w) w.heap.size 9 ?hg (N := 5) ?hd (xs := ([] : List ByteArray)) (inner := []) (ok := fun _ => True) (okp := fun _ => True) ?hr (Reps.none _ _) (fun _ hk => hk) trivial HB.out (Nat.le_refl _) (by simp) ?_; (case hd => rfl); (case hg => rfl); (case hr => first | (go_simp; done) | (go_simp; rfl)); intro v1 w1 ho1 hb1 hg1 ha1; have HO := Aside0.mk ho1; have HB1 := Aside0.mk hb1; have HR1 := Aside0.mk (Kd.C_below HR.out hb1); clear ho1 hb1 hg1 ha1)
      | ((with_reducible refine gate_builtin (b := .append) (xs := #[.tmp 5, .tmp 6]) rfl ?_); at_builtin; refine Kd.R_append_rows Kd.string (w0 := w) w.heap.size rfl (.tmp 5) (.tmp 6) 24 9 (.string ⟨#[]⟩) 16 rfl Try.underlying24 infoStr rfl (by decide) (by omega) v1 [] xs (some ad) xs.length c (fun _ => True) (fun _ => False) rfl rfl HO.out HR1.out ?aK (fun _ h => h.elim) (fun _ _ => trivial) HB1.out HB1.out.size ?aL ?_; (case aK => exact fun _ _ h => h); (case aL => simp only [List.length_nil, Nat.zero_add]; exact hl); intro v2 w2 ho2 hb2 hg2 ha2; have HO2 := Aside0.mk ho2; have HB2 := Aside0.mk hb2; clear ho2 hb2 hg2 ha2))
    go_ret
    exact ⟨_, rfl, HO2.out, HB2.out⟩
set_option maxRecDepth 100000 in
set_option maxHeartbeats 400000 in
theorem clone_i64s (xs : List Int) (len : Nat) (A : Option Addr) (c : Nat) (w : World) (hr : Kd.C (Kd.int .i64) w A len xs) (hl : xs.length * 8 ≤ 140737488355328) :
    Calls Try.prog 54 #[.slice A len c] w fun e w' => ∃ v, e = .returned v ∧ Kd.R (Kd.int .i64) 2 w' w.heap.size (fun _ => True) v xs ∧ Below w.heap.size w w' := by
  obtain rfl := hr.1
  have HR := Aside0.mk hr
  have HB := Aside0.mk (Below.refl w.heap.size w)
  clear hr
  have heq := fun u : World => Lib.run_eql_slice_nil (P := Try.prog) u 25 2 A xs.length c 0 0 Try.underlying25
  rcases A with _ | ad
  · have hx : xs = [] := by
      rcases xs with _ | ⟨x, l⟩
      · rfl
      · obtain ⟨ad, h, _⟩ := HR.out.2.2 (by simp)
        cases h
    subst hx
    simp only [List.length_nil, Option.isNone_none] at heq
    go_enter Try.func54, Try.ntmps54
    go_wp2
    go_ret
    exact ⟨_, rfl, Kd.R_nil _ _ _ _ _, HB.out⟩
  · go_enter Try.func54, Try.ntmps54
    go_wp2_with (first
      | ((with_reducible refine gate_dst (N := 5) rfl ?_); refine Kd.R_lit (Kd.int .i64) (w0 := w) w.heap.size 2 ?hg (N := 5) ?hd (xs := ([] : List Int)) (inner := []) (ok := fun _ => True) (okp := fun _ => True) ?hr (Reps.none _ _) (fun _ hk => hk) trivial HB.out (Nat.le_refl _) (by simp) ?_; (case hd => rfl); (case hg => rfl); (case hr => first | (go_simp; done) | (go_simp; rfl)); intro v1 w1 ho1 hb1 hg1 ha1; have HO := Aside0.mk ho1; have HB1 := Aside0.mk hb1; have HR1 := Aside0.mk (Kd.C_below HR.out hb1); clear ho1 hb1 hg1 ha1)
      | ((with_reducible refine gate_builtin (b := .append) (xs := #[.tmp 5, .tmp 6]) rfl ?_); at_builtin; refine Kd.R_append_rows (Kd.int .i64) (w0 := w) w.heap.size rfl (.tmp 5) (.tmp 6) 25 2 (.int .i64 0) 8 rfl Try.underlying25 infoI64 rfl (by decide) (by omega) v1 [] xs (some ad) xs.length c (fun _ => True) (fun _ => False) rfl rfl HO.out HR1.out ?aK (fun _ h => h.elim) (fun _ _ => trivial) HB1.out HB1.out.size ?aL ?_; (case aK => exact fun _ _ h => h); (case aL => simp only [List.length_nil, Nat.zero_add]; exact hl); intro v2 w2 ho2 hb2 hg2 ha2; have HO2 := Aside0.mk ho2; have HB2 := Aside0.mk hb2; clear ho2 hb2 hg2 ha2))
    go_ret
    exact ⟨_, rfl, HO2.out, HB2.out⟩
def slices_Clone_string_string.f (l0 : List ByteArray) : Option (List ByteArray) := if l0.length ≤ 8796093022208 then some l0 else none
theorem slices_Clone_string_string.calls (A0 : Option Addr) (c0 : Nat) (l0 : List ByteArray) (r : List ByteArray) (w : World) (hr0 : Kd.C Kd.string w A0 l0.length l0) (hc0 : l0.length ≤ c0) (h : slices_Clone_string_string.f l0 = some r) :
    Calls Try.prog 53 #[.slice A0 l0.length c0] w fun e w' => ∃ v0_ : Value, e = .returned v0_ ∧ Kd.R Kd.string 9 w' w.heap.size (fun _ => True) v0_ r ∧ Below w.heap.size w w' := by
  unfold slices_Clone_string_string.f at h
  split at h
  · injection h with h
    subst h
    exact clone_strings _ _ _ _ _ hr0 (by omega)
  · cases h
def slices_Clone_int64_int64.f (l0 : List Int) : Option (List Int) := if l0.length ≤ 17592186044416 then some l0 else none
theorem slices_Clone_int64_int64.calls (A0 : Option Addr) (c0 : Nat) (l0 : List Int) (r : List Int) (w : World) (hr0 : Kd.C (Kd.int .i64) w A0 l0.length l0) (hc0 : l0.length ≤ c0) (h : slices_Clone_int64_int64.f l0 = some r) :
    Calls Try.prog 54 #[.slice A0 l0.length c0] w fun e w' => ∃ v0_ : Value, e = .returned v0_ ∧ Kd.R (Kd.int .i64) 2 w' w.heap.size (fun _ => True) v0_ r ∧ Below w.heap.size w w' := by
  unfold slices_Clone_int64_int64.f at h
  split at h
  · injection h with h
    subst h
    exact clone_i64s _ _ _ _ _ hr0 (by omega)
  · cases h
end Go.Proofs.Ytfeeahjaeapkoaa.P
end

section
namespace Go.Proofs.Ytfeeahjaeapkoaa.P
open Go.RowKit Go.Proofs.YtfeeahjaeapkoaaW.PrintWords Go.Proofs.YtfeeahjaeapkoaaW.PrintLast Go.Proofs.YtfeeahjaeapkoaaW.PrintMore
attribute [local go_sem] max2_int min2_int max_two min_two max_three min_three max_four min_four   -- for this text's walks alone
set_option linter.unusedVariables false
set_option linter.unusedSimpArgs false
open Go.Proofs.Ytfeeahjaeapkoaa.Ext (q1_ q2_ q3_ bk_ bw_ sz_ ne_ bx_)
attribute [local go_sem high] Go.Proofs.Ytfeeahjaeapkoaa.Ext.gtr_str Go.Proofs.Ytfeeahjaeapkoaa.Ext.leq_str Go.Proofs.Ytfeeahjaeapkoaa.Ext.geq_str
def fact_own.f (a0_0 : Int) (l0_1 : List ByteArray) (l0_2 : List Int) : Option (Int × List ByteArray × List Int) := (slices_Clone_string_string.f l0_1).bind fun t355 => ((slices_Clone_int64_int64.f l0_2).bind fun t358 => (some (a0_0, t355, t358)))
def fact_own.T1 : Bool × List (List Nat × List Nat) := (true, [([], []), ([0], [0]), ([], []), ([2], [2]), ([3], [3]), ([], []), ([5], [5]), ([6, 4], [6]), ([1, 4, 7], [1, 4, 7]), ([8, 7, 0, 1, 2, 3, 4, 5, 6, 7, 8], [8])])
def fact_own.B1 : List Nat := [0, 1, 0, 4, 12, 0, 32, 124, 255, 511]
theorem fact_own.tab1 : rtab .any (opsOf Try.f47 1) = fact_own.T1 := by kernel_rfl
theorem fact_own.bits1 : waitsOk fact_own.T1.2 fact_own.B1 = true := by kernel_rfl
set_option maxHeartbeats 8000000 in
set_option maxRecDepth 100000 in
theorem fact_own.calls (a0_0 : Int) (A0_1 : Option Addr) (c0_1 : Nat) (l0_1 : List ByteArray) (A0_2 : Option Addr) (c0_2 : Nat) (l0_2 : List Int) (r1 : Int) (r2 : List ByteArray) (r3 : List Int) (w : World) (hr0_1 : Kd.C Kd.string w A0_1 l0_1.length l0_1) (hc0_1 : l0_1.length ≤ c0_1) (hr0_2 : Kd.C (Kd.int .i64) w A0_2 l0_2.length l0_2) (hc0_2 : l0_2.length ≤ c0_2) (h : fact_own.f a0_0 l0_1 l0_2 = some (r1, r2, r3)) :
  Calls Try.prog 47 #[.agg #[.int .i64 a0_0, .slice A0_1 l0_1.length c0_1, .slice A0_2 l0_2.length c0_2]] w fun e w' => ∃ v1_ v2_ : Value, e = .returned (.agg #[.int .i64 r1, v1_, v2_]) ∧ Kd.R Kd.string 9 w' w.heap.size (fun _ => True) v1_ r2 ∧ Kd.R (Kd.int .i64) 2 w' w.heap.size (fun _ => True) v2_ r3 ∧ Below w.heap.size w w' := by
 have hu27 := Try.underlying27
 have HR0_1 := Aside0.mk hr0_1
 have HC0_1 := Aside0.mk hc0_1
 clear hr0_1 hc0_1
 have HR0_2 := Aside0.mk hr0_2
 have HC0_2 := Aside0.mk hc0_2
 clear hr0_2 hc0_2
 have HB := Aside0.mk (Below.refl w.heap.size w)
 have H : ((slices_Clone_string_string.f l0_1).bind fun t355 => ((slices_Clone_int64_int64.f l0_2).bind fun t358 => (some (a0_0, t355, t358)))) = some (r1, r2, r3) := h
 clear h
 replace H := Option.bind_eq_some_iff.mp H
 obtain ⟨t355, A20, H⟩ := H
 replace H : ((slices_Clone_int64_int64.f l0_2).bind fun t358 => (some (a0_0, t355, t358))) = some (r1, r2, r3) := H
 have A2 := Aside0.mk A20
 clear A20
 replace H := Option.bind_eq_some_iff.mp H
 obtain ⟨t358, A30, H⟩ := H
 replace H : (some (a0_0, t355, t358)) = some (r1, r2, r3) := H
 have A3 := Aside0.mk A30
 clear A30
 simp only [Option.some.injEq, Prod.mk.injEq] at H
 obtain ⟨rfl, rfl, rfl⟩ := H
 go_enter Try.func47, Try.ntmps47
 try go_wp2_with (first | ((with_reducible refine gate_dst (N := 1) rfl ?_); refine bx_ (N := 1) (cs := #[.int .i64 a0_0, .slice A0_1 l0_1.length c0_1, .slice A0_2 l0_2.length c0_2]) (t := 27) ?_; intro gb353 hg w4 hbox hb; have n0_ := Aside0.mk (below_step (bw_ HB.out) hb); have n1_ := Aside0.mk (hbox); have n2_ := Aside0.mk (sz_ hg (bw_ HB.out)); have n3_ := n2_; clear HB; have HB := n0_; have BK353 := n1_; have GW353 := n2_; have GE353 := n3_; clear n0_ n1_ n2_ n3_; clear hb hbox hg) | ((with_reducible refine gate_dst (N := 2) rfl ?_); refine bx_ (N := 2) (cs := #[.int .i64 0, .slice none 0 0, .slice none 0 0]) (t := 27) ?_; intro gb354 hg w5 hbox hb; have n0_ := Aside0.mk (blk_below (bk_ BK353.out) hb); have n1_ := Aside0.mk (below_step (bw_ HB.out) hb); have n2_ := Aside0.mk (hbox); have n3_ := Aside0.mk (sz_ hg (bw_ HB.out)); have n4_ := n3_; have n5_ := Aside0.mk (ne_ hg (blk_lt (bk_ BK353.out))); have n6_ := Aside0.mk n5_.out.symm; clear BK353 HB; have BK353 := n0_; have HB := n1_; have BK354 := n2_; have GW354 := n3_; have GE354 := n4_; have NB353_354 := n5_; have NB354_353 := n6_; clear n0_ n1_ n2_ n3_ n4_ n5_ n6_; clear hb hbox hg))
 have n0_ := Aside0.mk (blk_drew BK353.out)
 have n1_ := Aside0.mk (blk_drew BK354.out)
 have n2_ := Aside0.mk (below_drew1 HB.out)
 clear BK353
 clear BK354
 clear HB
 have BK353 := n0_
 have BK354 := n1_
 have HB := n2_
 clear n0_ n1_ n2_
 refine start_ (n := 10) (S := fun w' => w'.cell? ⟨gb353, 0, none⟩ = some (.int .i64 a0_0) ∧ w'.cell? ⟨gb353, 1, none⟩ = some (.slice A0_1 l0_1.length c0_1) ∧ w'.cell? ⟨gb353, 2, none⟩ = some (.slice A0_2 l0_2.length c0_2)) (ds := []) #[false, false, false, false, false, false, false, false, false, false] (by kernel_rfl) rfl rfl ⟨(blk_cell BK353.out 0).trans rfl, (blk_cell BK353.out 1).trans rfl, (blk_cell BK353.out 2).trans rfl⟩ (fun hHeld => ?_); refine with_tabW fact_own.tab1 fact_own.bits1 (fun HT_ HW_ => ?_)
 generalize w5.drew = w6 at BK353 BK354 HB hHeld ⊢
 refine pure_ (i := 0) (N := some 3) (v := ?_) (a' := ?_) #[true, false, false, false, false, false, false, false, false, false] rfl rfl (any_of HT_.out (by kernel_rfl)) (fun _ _ _ h => h) (Or.inl ⟨by rfl, ?_⟩) ?_ ?_
 rotate_left
 ·intro w'
  go_simp
  with_reducible rfl
 rotate_left
 ·simp only [Act.put, q1_, q2_, q3_, i64_w, i32_w]
  rfl
 refine pure_ (i := 2) (N := some 5) (v := ?_) (a' := ?_) #[true, false, true, false, false, false, false, false, false, false] rfl rfl (any_of HT_.out (by kernel_rfl)) (fun _ _ _ h => h) (Or.inl ⟨by rfl, ?_⟩) ?_ ?_
 rotate_left
 ·intro w'
  go_simp
  with_reducible rfl
 rotate_left
 ·simp only [Act.put, q1_, q2_, q3_, i64_w, i32_w]
  rfl
 refine pure_ (i := 5) (N := some 8) (v := ?_) (a' := ?_) #[true, false, true, false, false, true, false, false, false, false] rfl rfl (any_of HT_.out (by kernel_rfl)) (fun _ _ _ h => h) (Or.inl ⟨by rfl, ?_⟩) ?_ ?_
 rotate_left
 ·intro w'
  go_simp
  with_reducible rfl
 rotate_left
 ·simp only [Act.put, q1_, q2_, q3_, i64_w, i32_w]
  rfl
 refine take_ (i := 1) (N := some 4) (v := ?_) (a' := ?_) #[true, true, true, false, false, true, false, false, false, false] rfl rfl (take_ofW HT_.out HW_.out (by kernel_rfl)) (fun _ _ _ h => h) (Or.inl ⟨by rfl, ?_⟩) hHeld ?_ ?_
 rotate_left
 ·rintro w' ⟨s0, s1, s2⟩
  go_simp
  with_reducible rfl
 rotate_left
 ·simp only [Act.put, q1_, q2_, q3_, i64_w, i32_w]
  rfl
 refine take_ (i := 3) (N := some 6) (v := ?_) (a' := ?_) #[true, true, true, true, false, true, false, false, false, false] rfl rfl (take_ofW HT_.out HW_.out (by kernel_rfl)) (fun _ _ _ h => h) (Or.inl ⟨by rfl, ?_⟩) hHeld ?_ ?_
 rotate_left
 ·rintro w' ⟨s0, s1, s2⟩
  go_simp
  with_reducible rfl
 rotate_left
 ·simp only [Act.put, q1_, q2_, q3_, i64_w, i32_w]
  rfl
 refine take_ (i := 6) (N := some 9) (v := ?_) (a' := ?_) #[true, true, true, true, false, true, true, false, false, false] rfl rfl (take_ofW HT_.out HW_.out (by kernel_rfl)) (fun _ _ _ h => h) (Or.inl ⟨by rfl, ?_⟩) hHeld ?_ ?_
 rotate_left
 ·rintro w' ⟨s0, s1, s2⟩
  go_simp
  with_reducible rfl
 rotate_left
 ·simp only [Act.put, q1_, q2_, q3_, i64_w, i32_w]
  rfl
 refine one_ (i := 4) (N := some 7) #[true, true, true, true, true, true, true, false, false, false] rfl rfl (one_of HT_.out (by kernel_rfl)) (by decide) (fun K hK => ?_)
 refine goes_ Try.func53 (by kernel_rfl) rfl #[.slice A0_1 l0_1.length c0_1] (by rfl) rfl rfl (by (try simp only [List.map_toArray, List.map_cons, List.map_nil]); first | done | rfl | (simp only [List.length_drop, List.length_take]; rfl)) ?_
 with_reducible refine (slices_Clone_string_string.calls _ _ l0_1 t355 _ ?side1 ?side2 A2.out).mono ?_
 (case side1 => repeat (first | exact (Kd.C_below HR0_1.out HB.out) | (with_reducible refine Kd.C_alloc ?_ _) | (with_reducible refine Kd.C_drewN ?_ _) | (with_reducible refine Kd.C_drew ?_)))
 (case side2 => exact HC0_1.out)
 rintro e w7 ⟨v356, rfl, ho0, hb⟩
 refine ⟨_, rfl, ?_⟩
 have n0_ := Aside0.mk (Kd.R_lower ho0 (below_size (bw_ HB.out)))
 have n1_ := Aside0.mk (blk_below (bk_ BK353.out) hb)
 have n2_ := Aside0.mk (blk_below (bk_ BK354.out) hb)
 have n3_ := Aside0.mk (below_step (bw_ HB.out) hb)
 clear BK353
 clear BK354
 clear HB
 have HO357 := n0_
 have BK353 := n1_
 have BK354 := n2_
 have HB := n3_
 clear n0_ n1_ n2_ n3_
 (try clear hb)
 (try clear hb2)
 (try clear hk)
 (try clear hi)
 (try clear ho0)
 refine hK.out _ _ ⟨(blk_cell BK353.out 0).trans rfl, (blk_cell BK353.out 1).trans rfl, (blk_cell BK353.out 2).trans rfl⟩ (fun hHeld => ?_)
 clear hK K
 refine norm_ (a' := ?_) ?_ ?_
 rotate_left
 ·show Act.put _ (some 7) _ = _
  simp only [Act.put, q1_, q2_, q3_, i64_w, i32_w]
  rfl
 refine one_ (i := 7) (N := some 10) #[true, true, true, true, true, true, true, true, false, false] rfl rfl (one_of HT_.out (by kernel_rfl)) (by decide) (fun K hK => ?_)
 refine goes_ Try.func54 (by kernel_rfl) rfl #[.slice A0_2 l0_2.length c0_2] (by rfl) rfl rfl (by (try simp only [List.map_toArray, List.map_cons, List.map_nil]); first | done | rfl | (simp only [List.length_drop, List.length_take]; rfl)) ?_
 with_reducible refine (slices_Clone_int64_int64.calls _ _ l0_2 t358 _ ?side1 ?side2 A3.out).mono ?_
 (case side1 => repeat (first | exact (Kd.C_below HR0_2.out HB.out) | (with_reducible refine Kd.C_alloc ?_ _) | (with_reducible refine Kd.C_drewN ?_ _) | (with_reducible refine Kd.C_drew ?_)))
 (case side2 => exact HC0_2.out)
 rintro e w8 ⟨v359, rfl, ho0, hb⟩
 refine ⟨_, rfl, ?_⟩
 have n0_ := Aside0.mk (Kd.R_below (by (with_reducible repeat (first | apply Kd.R_alloc | apply Kd.R_drewN | apply Kd.R_drew)); exact HO357.out) hb)
 have n1_ := Aside0.mk (Kd.R_lower ho0 (below_size (bw_ HB.out)))
 have n2_ := Aside0.mk (blk_below (bk_ BK353.out) hb)
 have n3_ := Aside0.mk (blk_below (bk_ BK354.out) hb)
 have n4_ := Aside0.mk (below_step (bw_ HB.out) hb)
 clear HO357
 clear BK353
 clear BK354
 clear HB
 have HO357 := n0_
 have HO360 := n1_
 have BK353 := n2_
 have BK354 := n3_
 have HB := n4_
 clear n0_ n1_ n2_ n3_ n4_
 (try clear hb)
 (try clear hb2)
 (try clear hk)
 (try clear hi)
 (try clear ho0)
 obtain ⟨Ao9, co9, eo9⟩ := Kd.R_slice HO360.out
 (first | subst eo9 | (injection eo9 with f1_ f2_ f3_; have f4_ := f1_.symm; have f5_ := f3_.symm; clear f1_ f2_ f3_; subst f4_; subst f5_))
 obtain ⟨Ao10, co10, eo10⟩ := Kd.R_slice HO357.out
 (first | subst eo10 | (injection eo10 with f1_ f2_ f3_; have f4_ := f1_.symm; have f5_ := f3_.symm; clear f1_ f2_ f3_; subst f4_; subst f5_))
 refine hK.out _ _ ⟨(blk_cell BK353.out 0).trans rfl, (blk_cell BK353.out 1).trans rfl, (blk_cell BK353.out 2).trans rfl⟩ (fun hHeld => ?_)
 clear hK K
 refine norm_ (a' := ?_) ?_ ?_
 rotate_left
 ·show Act.put _ (some 10) _ = _
  simp only [Act.put, q1_, q2_, q3_, i64_w, i32_w]
  rfl
 refine pure_ (i := 8) (N := some 11) (v := ?_) (a' := ?_) #[true, true, true, true, true, true, true, true, true, false] rfl rfl (any_of HT_.out (by kernel_rfl)) (fun _ _ _ h => h) (Or.inl ⟨by rfl, ?_⟩) ?_ ?_
 rotate_left
 ·intro w'
  go_simp
  with_reducible rfl
 rotate_left
 ·simp only [Act.put, q1_, q2_, q3_, i64_w, i32_w]
  rfl
 refine one_ (i := 9) (N := none) #[true, true, true, true, true, true, true, true, true, true] rfl rfl (one_of HT_.out (by kernel_rfl)) (by decide) (fun K hK => ?_)
 have hs11 : w8.cell? ⟨gb354, 0, none⟩ = some (.int .i64 0) := (blk_cell BK354.out 0).trans rfl
 have hfs11 := blk_frozen BK354.out 0
 have hns11_0 := NB353_354.out
 have hms11_0 := NB354_353.out
 have hs12 : w8.cell? ⟨gb354, 1, none⟩ = some (.slice none 0 0) := (blk_cell BK354.out 1).trans rfl
 have hfs12 := blk_frozen BK354.out 1
 have hns12_0 := NB353_354.out
 have hms12_0 := NB354_353.out
 have hs13 : w8.cell? ⟨gb354, 2, none⟩ = some (.slice none 0 0) := (blk_cell BK354.out 2).trans rfl
 have hfs13 := blk_frozen BK354.out 2
 have hns13_0 := NB353_354.out
 have hms13_0 := NB354_353.out
 refine skip_ (w1 := ?_) (by rfl) rfl ?_ ?_
 rotate_left
 ·go_simp
  rfl
 refine hK.out _ _ ⟨((cell_far (p := ⟨gb354, _, none⟩) NB353_354.out _).trans (((cell_far (p := ⟨gb354, _, none⟩) NB353_354.out _).trans (((cell_far (p := ⟨gb354, _, none⟩) NB353_354.out _).trans (hHeld.1)))))), ((cell_far (p := ⟨gb354, _, none⟩) NB353_354.out _).trans (((cell_far (p := ⟨gb354, _, none⟩) NB353_354.out _).trans (((cell_far (p := ⟨gb354, _, none⟩) NB353_354.out _).trans (hHeld.2.1)))))), ((cell_far (p := ⟨gb354, _, none⟩) NB353_354.out _).trans (((cell_far (p := ⟨gb354, _, none⟩) NB353_354.out _).trans (((cell_far (p := ⟨gb354, _, none⟩) NB353_354.out _).trans (hHeld.2.2))))))⟩ (fun hHeld => ?_)
 clear hK K
 refine done_ (done_of HT_.out (by kernel_rfl)) ?_
 try go_wp2
 refine bodyPost_ret (results_cell_row rfl _ _ gb354 27 #[.int .i64 a0_0, .slice Ao10 t355.length co10, .slice Ao9 t358.length co9] (0, 0) _ rfl (by (with_reducible repeat (first | refine blk_drewN ?_ _ | refine blk_drew ?_ | refine blk_alloc ?_ _)); refine blk_put (cs := #[.int .i64 a0_0, .slice Ao10 t355.length co10, .slice none 0 0]) ?_ 2 _ rfl; (with_reducible repeat (first | refine blk_drewN ?_ _ | refine blk_drew ?_ | refine blk_alloc ?_ _)); refine blk_put (cs := #[.int .i64 a0_0, .slice none 0 0, .slice none 0 0]) ?_ 1 _ rfl; (with_reducible repeat (first | refine blk_drewN ?_ _ | refine blk_drew ?_ | refine blk_alloc ?_ _)); refine blk_put (cs := #[.int .i64 0, .slice none 0 0, .slice none 0 0]) ?_ 0 _ rfl; (with_reducible repeat (first | refine blk_drewN ?_ _ | refine blk_drew ?_ | refine blk_alloc ?_ _)); exact BK354.out) Try.underlying27 rfl (by kernel_rfl)) rfl ?_
 exact ⟨_, _, by first | rfl | (simp [errW_none, errW_some] <;> rfl) | (simp [*, errW_none, errW_some] <;> rfl), by (with_reducible repeat (first | apply Kd.R_alloc | apply Kd.R_drewN | apply Kd.R_drew)); exact Kd.R_mono (Kd.R_far (p := ⟨gb354, 2, none⟩) (Kd.R_far (p := ⟨gb354, 1, none⟩) (Kd.R_far (p := ⟨gb354, 0, none⟩) (Kd.R_types HO357.out BK354.out (by decide)) (fun _ hk => hk.2) (.int .i64 a0_0)) (fun _ hk => hk.2) (.slice Ao10 t355.length co10)) (fun _ hk => hk.2) (.slice Ao9 t358.length co9)) (fun _ hk => trivial), by (with_reducible repeat (first | apply Kd.R_alloc | apply Kd.R_drewN | apply Kd.R_drew)); exact Kd.R_mono (Kd.R_far (p := ⟨gb354, 2, none⟩) (Kd.R_far (p := ⟨gb354, 1, none⟩) (Kd.R_far (p := ⟨gb354, 0, none⟩) (Kd.R_types HO360.out BK354.out (by decide)) (fun _ hk => hk.2) (.int .i64 a0_0)) (fun _ hk => hk.2) (.slice Ao10 t355.length co10)) (fun _ hk => hk.2) (.slice Ao9 t358.length co9)) (fun _ hk => trivial), by repeat (first | (with_reducible first | exact HB.out | apply below_alloc | apply pw_below_drewN | apply below_drew1 | refine below_set ?_ GE353.out | refine below_set ?_ GE354.out) | exact HB.out)⟩
end Go.Proofs.Ytfeeahjaeapkoaa.P
end

section
namespace Go.Proofs.Ytfeeahjaeapkoaa.Ext
set_option linter.unusedVariables false
set_option linter.unusedSimpArgs false
open Go.RowKit Go.Proofs.YtfeeahjaeapkoaaW.PrintWords Go.Proofs.YtfeeahjaeapkoaaW.PrintLast Go.Proofs.YtfeeahjaeapkoaaW.PrintMore Go.Proofs.Ytfeeahjaeapkoaa.Lib Go.Proofs.Ytfeeahjaeapkoaa.P
def zM : M := ((0, [], []), 0)
def upB (l : List M) (i : Nat) : List M := bagB [] (l.take i)
theorem bagB_append (b l k : List M) : bagB b (l ++ k) = bagB (bagB b l) k := by unfold bagB; rw [List.foldl_append]
theorem upB_first (l : List M) : upB l 0 = [] := rfl
theorem upB_all (l : List M) : upB l l.length = bagB [] l := by unfold upB; rw [List.take_length]
theorem upB_succ (l : List M) (i : Nat) (h : i < l.length) : upB l (i + 1) = putB (upB l i) l[i].1 l[i].2 := by
  unfold upB
  rw [List.take_succ_eq_append_getElem h, bagB_append]
  rfl
theorem upB_strict (l : List M) (i : Nat) : Strict (upB l i) := bagB_strict _ _ List.Pairwise.nil
theorem bagB_mem : ∀ (l b : List M) (y : M), y ∈ bagB b l → y ∈ b ∨ (∃ z ∈ l, y.1 = z.1) ∨ ∃ z ∈ b, y.1 = z.1
  | [], b, y, h => .inl h
  | x :: l, b, y, h => by
    have key : ∀ z, z ∈ putB b x.1 x.2 → z.1 = x.1 ∨ z ∈ b := fun z hz => putB_mem b x.1 x.2 z hz
    rcases bagB_mem l (putB b x.1 x.2) y h with h | ⟨z, hz, e⟩ | ⟨z, hz, e⟩
    · rcases key y h with h | h
      · exact .inr (.inl ⟨x, by simp, h⟩)
      · exact .inl h
    · exact .inr (.inl ⟨z, by simp [hz], e⟩)
    · rcases key z hz with h | h
      · exact .inr (.inl ⟨x, by simp, e.trans h⟩)
      · exact .inr (.inr ⟨z, h, e⟩)
def SortedM (l : List M) : Prop := l.Pairwise fun x y => ¬ fC y.1 x.1 < 0
theorem up_below {l : List M} (hs : SortedM l) (i : Nat) (hi : i < l.length) (y : M) (hy : y ∈ upB l i) : fC y.1 l[i].1 = -1 ∨ fC y.1 l[i].1 = 0 := by
  have key : ∀ z ∈ l.take i, fC z.1 l[i].1 = -1 ∨ fC z.1 l[i].1 = 0 := by
    intro z hz
    obtain ⟨j, hj, rfl⟩ := List.getElem_of_mem hz
    have hj2 : j < i := by rw [List.length_take] at hj; omega
    rw [List.getElem_take]
    have := List.pairwise_iff_getElem.1 hs j i (by omega) hi hj2
    rw [fC_anti] at this
    have := fC_vals l[j].1 l[i].1
    omega
  rcases bagB_mem _ _ _ hy with h | ⟨z, hz, e⟩ | ⟨z, hz, e⟩
  · simp at h
  · rw [e]; exact key z hz
  · simp at hz
theorem last_split (b : List M) (k : Nat) (hk : b.length = k + 1) : b = b.take k ++ [b.getD k zM] := by
  have h : k < b.length := by omega
  conv => lhs; rw [← List.take_length (l := b), hk, List.take_succ_eq_append_getElem h]
  rw [List.getD_eq_getElem?_getD, List.getElem?_eq_getElem h]; rfl
theorem strict_last (b : List M) (hs : Strict b) (k : Nat) (hk : b.length = k + 1) : ∀ y ∈ b.take k, fC y.1 (b.getD k zM).1 = -1 := by
  intro y hy
  have := hs
  unfold Strict at this
  rw [last_split b k hk, List.pairwise_append] at this
  exact this.2.2 y hy _ (by simp)
theorem up_new {l : List M} (hs : SortedM l) (i : Nat) (hi : i < l.length) (hne : ∀ k, (upB l i).length = k + 1 → fC ((upB l i).getD k zM).1 l[i].1 ≠ 0) : upB l (i + 1) = upB l i ++ [l[i]] := by
  rw [upB_succ l i hi]
  refine put_last _ _ _ (fun y hy => ?_)
  rcases hk : (upB l i).length with _ | k
  · rw [List.length_eq_zero_iff] at hk; rw [hk] at hy; simp at hy
  · have hb := last_split _ k hk
    have hlast : fC ((upB l i).getD k zM).1 l[i].1 = -1 := by
      rcases up_below hs i hi ((upB l i).getD k zM) (by
        have h : k < (upB l i).length := by omega
        rw [List.getD_eq_getElem?_getD, List.getElem?_eq_getElem h]; exact List.getElem_mem h) with h | h
      · exact h
      · exact absurd h (hne k hk)
    rw [hb, List.mem_append] at hy
    rcases hy with hy | hy
    · exact fC_trans (strict_last _ (upB_strict l i) k hk y hy) hlast
    · rw [List.mem_singleton] at hy; rw [hy]; exact hlast
theorem set_last (b : List M) (y x : M) (k : Nat) (hk : b.length = k) : (b ++ [y]).set k x = b ++ [x] := by
  rw [List.set_append_right _ _ (by omega), hk, Nat.sub_self]; rfl
theorem up_same {l : List M} (hs : SortedM l) (i : Nat) (hi : i < l.length) (k : Nat) (hk : (upB l i).length = k + 1) (h : fC ((upB l i).getD k zM).1 l[i].1 = 0) :
    upB l (i + 1) = (upB l i).set k (((upB l i).getD k zM).1, W64 (((upB l i).getD k zM).2 + l[i].2)) := by
  rw [upB_succ l i hi]
  have hb := last_split _ k hk
  have e := fC_eq h
  have hl : ((upB l i).take k).length = k := by rw [List.length_take]; omega
  have hst := strict_last _ (upB_strict l i) k hk
  generalize (upB l i).getD k zM = y at *
  generalize (upB l i).take k = b0 at *
  rw [hb, set_last b0 _ _ k hl, ← e]
  obtain ⟨yf, yn⟩ := y
  exact put_same b0 yf yn _ hst
theorem putB_len : ∀ (b : List M) (f : F) (n : Int), (putB b f n).length ≤ b.length + 1
  | [], _, _ => by simp [putB]
  | (g, m) :: r, f, n => by
    rw [putB]
    have := putB_len r f n
    split
    · simp; omega
    · split <;> simp
theorem upB_len (l : List M) : ∀ i, i ≤ l.length → (upB l i).length ≤ i
  | 0, _ => by rw [upB_first]; exact Nat.le_refl _
  | i + 1, h => by
    rw [upB_succ l i (by omega)]
    have := putB_len (upB l i) l[i].1 l[i].2
    have := upB_len l i (by omega)
    omega
structure OwnD (w : World) (base g : Nat) (q : Q) (x : M) : Prop where
  t : q.1 = x.1.1
  n : q.2.2.2 = x.2
  d : Kd.string.R 9 w base (fun k => True ∧ some k ≠ some g) (.slice q.2.1.1 q.2.1.2.1 q.2.1.2.2) x.1.2.1
  m : (Kd.int .i64).R 2 w base (fun k => True ∧ some k ≠ some g) (.slice q.2.2.1.1 q.2.2.1.2.1 q.2.2.1.2.2) x.1.2.2
  dl : x.1.2.1.length ≤ 8796093022208
  ml : x.1.2.2.length ≤ 17592186044416
theorem OwnD.below {w w' : World} {base g : Nat} {q : Q} {x : M} (h : OwnD w base g q x) (hb : Below w.heap.size w w') : OwnD w' base g q x := ⟨h.t, h.n, Kd.R_below h.d hb, Kd.R_below h.m hb, h.dl, h.ml⟩
theorem OwnD.grown {w w' : World} {base g : Nat} {q : Q} {x : M} (h : OwnD w base g q x) (hb : w.grownBy w' (some g)) : OwnD w' base g q x := ⟨h.t, h.n, Kd.R_grown h.d hb (fun _ hk => hk.2), Kd.R_grown h.m hb (fun _ hk => hk.2), h.dl, h.ml⟩
theorem own_new {w w' : World} {g base : Nat} {t N : Int} {dA mA : Option Addr} {dn dc mn mc : Nat} {x : M} (hg : g < w.heap.size) (hle : base ≤ w.heap.size) (ht : t = x.1.1) (hn : N = x.2) (hd : Kd.string.R 9 w' w.heap.size (fun _ => True) (.slice dA dn dc) x.1.2.1) (hm : (Kd.int .i64).R 2 w' w.heap.size (fun _ => True) (.slice mA mn mc) x.1.2.2) (dl : x.1.2.1.length ≤ 8796093022208) (ml : x.1.2.2.length ≤ 17592186044416) :
    OwnD w' base g (t, (dA, dn, dc), (mA, mn, mc), N) x :=
  ⟨ht, hn, Kd.R_lower (Kd.R_mono (Kd.R_bound hd) (fun k hk => ⟨trivial, fun h => by injection h with h; have := hk.2.1; omega⟩)) hle, Kd.R_lower (Kd.R_mono (Kd.R_bound hm) (fun k hk => ⟨trivial, fun h => by injection h with h; have := hk.2.1; omega⟩)) hle, dl, ml⟩
def s40 (x : M) : S40 := ⟨⟨x.1.1, x.1.2.1, x.1.2.2⟩, x.2⟩
theorem own_row {w : World} {base g n c : Nat} {ys : List Q} {b : List M} (h : kq.R 40 w base (fun _ => True) (.slice (some ⟨g, 0, none⟩) n c) ys) (hl : b.length = ys.length) (ho : ∀ j, j < b.length → OwnD w base g (ys.getD j zQ) (b.getD j zM)) :
    k40.R 40 w base (fun _ => True) (.slice (some ⟨g, 0, none⟩) n c) (b.map s40) := by
  obtain ⟨h0, inner, hw, hr⟩ := h
  refine ⟨h0, inner, ?_, ?_⟩
  · rw [List.length_map, hl]; exact hw
  · refine ⟨?_, fun j p hj => ?_⟩
    · rw [List.length_map, hl]; exact hr.1
    · rw [List.getElem?_map] at hj
      obtain ⟨x, hx, rfl⟩ := Option.map_eq_some_iff.1 hj
      obtain ⟨hjl, rfl⟩ := List.getElem?_eq_some_iff.1 hx
      have hy : ys[j]? = some (ys.getD j zQ) := by rw [List.getD_eq_getElem?_getD, List.getElem?_eq_getElem (by omega)]; rfl
      have o := ho j hjl
      have eb : b.getD j zM = b[j] := by rw [List.getD_eq_getElem?_getD, List.getElem?_eq_getElem hjl]; rfl
      rw [eb] at o
      have hM := hr.2 j _ hy
      have e := kq_M.1 hM
      have hM2 : k40.M w base (fun k => True ∧ some k ≠ (Value.slice (some ⟨g, 0, none⟩) n c).ownBlock) (s40 b[j]) (encQ (ys.getD j zQ)) := by
        have := k40_mkM w base (fun k => True ∧ some k ≠ some g) (s40 b[j]) o.d o.m
        unfold encQ
        rw [o.t, o.n]
        exact this
      exact e ▸ hM2
theorem kq_putN {w : World} {base : Nat} {ok : Nat → Prop} {g n c : Nat} {xs : List Q} {e : TypeId} (h : kq.R e w base ok (.slice (some ⟨g, 0, none⟩) n c) xs) (i : Nat) (hi : i < n) (N : Int) :
    kq.R e (w.setCell ⟨g, i * 4 + 3, none⟩ (.int .u64 N)) base ok (.slice (some ⟨g, 0, none⟩) n c) (xs.set i ((xs.getD i zQ).1, (xs.getD i zQ).2.1, (xs.getD i zQ).2.2.1, N)) ∧ w.grownBy (w.setCell ⟨g, i * 4 + 3, none⟩ (.int .u64 N)) (some g) := by
  obtain ⟨cs, hcl, hM, hcc⟩ := Kd.R_getA h zQ (i : Int) (by omega) (by omega)
  have e4 : kq.sz = 4 := rfl
  have hl : cs.length = 4 := hcl
  have e1 := kq_M.1 hM
  rw [Int.toNat_natCast] at e1
  have := Kd.R_seg h (i : Int) (by omega) (by omega) (c := cs) (seg := [.int .u64 N]) (j := 3) (x' := ((xs.getD i zQ).1, (xs.getD i zQ).2.1, (xs.getD i zQ).2.2.1, N)) (okp := fun _ => False) hcl (fun j u hu => by have := hcc j u hu; rw [add_at, Nat.zero_add] at this; rw [Int.toNat_natCast]; exact this) (by rw [e4]; exact Nat.le_refl _)
    (kq_M.2 (by rw [e1]; rfl)) (fun _ hk => hk.elim)
  rw [Int.toNat_natCast, e4] at this
  exact this
theorem R_cases {α : Type} {d : Kd α} {e : TypeId} {w : World} {base : Nat} {ok : Nat → Prop} {v : Value} {xs : List α} (h : d.R e w base ok v xs) : (v = .slice none 0 0 ∧ xs = []) ∨ ∃ g c, v = .slice (some ⟨g, 0, none⟩) xs.length c ∧ base ≤ g ∧ g < w.heap.size := by
  obtain ⟨_, inner, ho, hr⟩ := h
  have hlt := own_lt ho
  have hbs := own_base ho
  rcases ho.2 with h2 | ⟨g, cap, cur, rfl, hg, _⟩
  · exact .inl ⟨h2.1, List.length_eq_zero_iff.1 h2.2⟩
  · exact .inr ⟨g, cap, rfl, hg, hlt g rfl⟩
structure Fl (w : World) (q : Q) (x : F) : Prop where
  t : q.1 = x.1
  dn : q.2.1.2.1 = x.2.1.length
  dc : x.2.1.length ≤ q.2.1.2.2
  d : Kd.string.C w q.2.1.1 x.2.1.length x.2.1
  mn : q.2.2.1.2.1 = x.2.2.length
  mc : x.2.2.length ≤ q.2.2.1.2.2
  m : (Kd.int .i64).C w q.2.2.1.1 x.2.2.length x.2.2
  dl : x.2.1.length ≤ 8796093022208
  ml : x.2.2.length ≤ 17592186044416
theorem Dec.fl {w w' : World} {g : Nat} {q : Q} {x : F} (h : Dec w g q x) (hk : w.grownBy w' (some g)) : Fl w' q x := ⟨h.t, h.dn, h.dc, h.d _ (keep_grown hk), h.mn, h.mc, h.m _ (keep_grown hk), h.dl, h.ml⟩
theorem OwnD.fl {w : World} {base g : Nat} {q : Q} {x : M} (h : OwnD w base g q x) : Fl w q x.1 := by
  obtain ⟨e1, l1, c1⟩ := Kd.R_reads' h.d
  obtain ⟨e2, l2, c2⟩ := Kd.R_reads' h.m
  exact ⟨h.t, e1, e1 ▸ l1, c1, e2, e2 ▸ l2, c2, h.dl, h.ml⟩
theorem Fl.below {w w' : World} {q : Q} {x : F} (h : Fl w q x) (hb : Below w.heap.size w w') : Fl w' q x := ⟨h.t, h.dn, h.dc, Kd.C_below h.d hb, h.mn, h.mc, Kd.C_below h.m hb, h.dl, h.ml⟩
abbrev qV (q : Q) : Value := .agg #[.int .i64 q.1, .slice q.2.1.1 q.2.1.2.1 q.2.1.2.2, .slice q.2.2.1.1 q.2.2.1.2.1 q.2.2.1.2.2]
theorem qV_is {w : World} {q : Q} {x : F} (h : Fl w q x) : qV q = .agg #[.int .i64 x.1, .slice q.2.1.1 x.2.1.length q.2.1.2.2, .slice q.2.2.1.1 x.2.2.length q.2.2.1.2.2] := by unfold qV; rw [h.t, h.dn, h.mn]
theorem cmp_flat {w : World} {p q : Q} {x y : F} (hp : Fl w p x) (hq : Fl w q y) : Calls Try.prog 14 #[qV p, qV q] w fun e w' => e = .returned (.int .i64 (fC x y)) ∧ Below w.heap.size w w' := by
  rw [qV_is hp, qV_is hq]
  exact fact_Compare.calls _ x.1 p.2.1.1 p.2.1.2.2 x.2.1 p.2.2.1.1 p.2.2.1.2.2 x.2.2 y.1 q.2.1.1 q.2.1.2.2 y.2.1 q.2.2.1.1 q.2.2.1.2.2 y.2.2 _ w hp.d hp.dc hp.m hp.mc hq.d hq.dc hq.m hq.mc (compare_is x.1 y.1 x.2.1 y.2.1 x.2.2 y.2.2 (Nat.lt_of_le_of_lt hp.dl (by decide)) (Nat.lt_of_le_of_lt hp.ml (by decide)) _ (Nat.le_refl _))
theorem own_flat {w : World} {q : Q} {x : F} (hq : Fl w q x) : Calls Try.prog 47 #[qV q] w fun e w' => ∃ (dA : Option Addr) (dn dc : Nat) (mA : Option Addr) (mn mc : Nat), e = .returned (.agg #[.int .i64 x.1, .slice dA dn dc, .slice mA mn mc]) ∧ Kd.string.R 9 w' w.heap.size (fun _ => True) (.slice dA dn dc) x.2.1 ∧ (Kd.int .i64).R 2 w' w.heap.size (fun _ => True) (.slice mA mn mc) x.2.2 ∧ Below w.heap.size w w' := by
  rw [qV_is hq]
  refine (fact_own.calls x.1 q.2.1.1 q.2.1.2.2 x.2.1 q.2.2.1.1 q.2.2.1.2.2 x.2.2 x.1 x.2.1 x.2.2 w hq.d hq.dc hq.m hq.mc (by unfold fact_own.f slices_Clone_string_string.f slices_Clone_int64_int64.f; rw [if_pos hq.dl, if_pos hq.ml]; rfl)).mono ?_
  rintro e w' ⟨v1, v2, rfl, r1, r2, hb⟩
  obtain ⟨A1, c1, rfl, -, -⟩ := Kd.R_reads r1
  obtain ⟨A2, c2, rfl, -, -⟩ := Kd.R_reads r2
  exact ⟨A1, _, c1, A2, _, c2, rfl, r1, r2, hb⟩
structure Inv2 (w0 w5 w' : World) (base g m c : Nat) (zs ys : List Q) (l : List M) (i : Nat) : Prop where
  row : kq.R 40 w' base (fun _ => True) (.slice (some ⟨g, 0, none⟩) m c) ys
  rest : ∀ j, i ≤ j → ys.getD j zQ = zs.getD j zQ
  own : ∀ j, j < (upB l i).length → OwnD w' base g (ys.getD j zQ) ((upB l i).getD j zM)
  below : Below w0.heap.size w0 w'
  grown : w5.grownBy w' (some g)
section
variable {w0 w5 w' w'' : World} {base g m c : Nat} {zs ys : List Q} {l : List M} {i : Nat}
theorem Inv2.step (h : Inv2 w0 w5 w' base g m c zs ys l i) (hb : Below w'.heap.size w' w'') : Inv2 w0 w5 w'' base g m c zs ys l i :=
  ⟨Kd.R_below h.row hb, h.rest, fun j hj => (h.own j hj).below hb, below_then h.below h.below.size hb, grown_below h.grown hb⟩
theorem getD_set_ne {α : Type} {z : α} (ys : List α) (i j : Nat) (q : α) (h : i ≠ j) : (ys.set i q).getD j z = ys.getD j z := by
  rw [List.getD_eq_getElem?_getD, List.getElem?_set_ne h, ← List.getD_eq_getElem?_getD]
theorem getD_set_eq {α : Type} {z : α} (ys : List α) (i : Nat) (q : α) (h : i < ys.length) : (ys.set i q).getD i z = q := by
  rw [List.getD_eq_getElem?_getD, List.getElem?_set_self h]; rfl
theorem Inv2.same (h : Inv2 w0 w5 w' base g m c zs ys l i) (hs : SortedM l) (hi : i < l.length) (hm : l.length = m) (hbg : w0.heap.size ≤ g) (k : Nat) (hk : (upB l i).length = k + 1) (he : fC ((upB l i).getD k zM).1 l[i].1 = 0) :
    Inv2 w0 w5 (w'.setCell ⟨g, k * 4 + 3, none⟩ (.int .u64 (W64 ((ys.getD k zQ).2.2.2 + l[i].2)))) base g m c zs (ys.set k ((ys.getD k zQ).1, (ys.getD k zQ).2.1, (ys.getD k zQ).2.2.1, W64 ((ys.getD k zQ).2.2.2 + l[i].2))) l (i + 1) := by
  have hki := upB_len l i (Nat.le_of_lt hi)
  obtain ⟨r1, g1⟩ := kq_putN h.row k (by omega) (W64 ((ys.getD k zQ).2.2.2 + l[i].2))
  have hyl : ys.length = m := (Kd.R_reads' h.row).1.symm
  refine ⟨r1, fun j hj => ?_, fun j hj => ?_, below_set h.below hbg, grown_trans h.grown g1⟩
  · rw [getD_set_ne _ _ _ _ (by omega)]; exact h.rest j (by omega)
  · rw [up_same hs i hi k hk he] at hj ⊢
    rw [List.length_set] at hj
    by_cases e : j = k
    · subst e
      have o := (h.own j (by omega)).grown g1
      have hn := o.n
      rw [getD_set_eq ys _ _ (by omega), getD_set_eq (upB l i) _ _ (by omega)]
      exact ⟨o.t, by rw [hn], o.d, o.m, o.dl, o.ml⟩
    · rw [getD_set_ne ys _ _ _ (fun h => e h.symm), getD_set_ne (upB l i) _ _ _ (fun h => e h.symm)]
      exact (h.own j (by omega)).grown g1
theorem Inv2.put (h : Inv2 w0 w5 w' base g m c zs ys l i) (hs : SortedM l) (hi : i < l.length) (hm : l.length = m) (hbg : w0.heap.size ≤ g) (hne : ∀ k, (upB l i).length = k + 1 → fC ((upB l i).getD k zM).1 l[i].1 ≠ 0) (q : Q) (ho : OwnD w' base g q l[i]) :
    Inv2 w0 w5 (w'.setCells g ((upB l i).length * 4) (encQ q)) base g m c zs (ys.set (upB l i).length q) l (i + 1) := by
  have hki := upB_len l i (Nat.le_of_lt hi)
  obtain ⟨r1, g1⟩ := kq_put h.row (upB l i).length (by omega) q
  have hyl : ys.length = m := (Kd.R_reads' h.row).1.symm
  refine ⟨r1, fun j hj => ?_, fun j hj => ?_, ?_, grown_trans h.grown g1⟩
  · rw [getD_set_ne _ _ _ _ (by omega)]; exact h.rest j (by omega)
  · rw [up_new hs i hi hne] at hj ⊢
    rw [List.length_append, List.length_singleton] at hj
    by_cases e : j = (upB l i).length
    · subst e
      rw [getD_set_eq _ _ _ (by omega), show (upB l i ++ [l[i]]).getD (upB l i).length zM = l[i] by rw [List.getD_eq_getElem?_getD, List.getElem?_append_right (Nat.le_refl _), Nat.sub_self]; rfl]
      exact ho.grown g1
    · rw [getD_set_ne _ _ _ _ (fun h => e h.symm), show (upB l i ++ [l[i]]).getD j zM = (upB l i).getD j zM by rw [List.getD_eq_getElem?_getD, List.getElem?_append_left (by omega), ← List.getD_eq_getElem?_getD]]
      exact (h.own j (by omega)).grown g1
  · rw [set4]
    exact below_set (below_set (below_set (below_set h.below hbg) hbg) hbg) hbg
end
end Go.Proofs.Ytfeeahjaeapkoaa.Ext
end

section
namespace Go.Proofs.Ytfeeahjaeapkoaa.Ext
set_option linter.unusedVariables false
set_option linter.unusedSimpArgs false
open Go.RowKit Go.Proofs.YtfeeahjaeapkoaaW.PrintWords Go.Proofs.YtfeeahjaeapkoaaW.PrintLast Go.Proofs.YtfeeahjaeapkoaaW.PrintMore Go.Proofs.Ytfeeahjaeapkoaa.Lib Go.Proofs.Ytfeeahjaeapkoaa.P
theorem grown_refl (w : World) (r : Option Nat) : w.grownBy w r := ⟨rfl, rfl, rfl, Nat.le_refl _, fun _ _ _ => rfl⟩
theorem zero4 (a b c d : Value) : ∀ n : Nat, (Builtin.zeroCells #[a, b, c, d] n).toList = (List.replicate n [a, b, c, d]).flatten := by
  intro n
  have key : ∀ n : Nat, (List.range (n * 4)).map (fun i => (#[a, b, c, d] : Array Value)[i % 4]!) = (List.replicate n [a, b, c, d]).flatten := by
    intro n
    induction n with
    | zero => rfl
    | succ n ih =>
      rw [Nat.succ_mul, List.replicate_succ', List.flatten_append, ← ih, show n * 4 + 4 = n * 4 + 1 + 1 + 1 + 1 by omega]
      rw [List.range_succ, List.range_succ, List.range_succ, List.range_succ]
      simp only [List.map_append, List.append_assoc, List.map_cons, List.map_nil]
      rw [show n * 4 % 4 = 0 by omega, show (n * 4 + 1) % 4 = 1 by omega, show (n * 4 + 1 + 1) % 4 = 2 by omega, show (n * 4 + 1 + 1 + 1) % 4 = 3 by omega]
      rfl
  rw [← key n]
  unfold Builtin.zeroCells
  simp
theorem kq_clear {base : Nat} {ok : Nat → Prop} {g n c : Nat} {e : TypeId} : ∀ (k i : Nat) (w : World) (xs : List Q), i + k = n → kq.R e w base ok (.slice (some ⟨g, 0, none⟩) n c) xs →
    ∃ ys, kq.R e (w.setCells g (i * 4) (List.replicate k (encQ zQ)).flatten) base ok (.slice (some ⟨g, 0, none⟩) n c) ys ∧ ys.take i = xs.take i ∧ w.grownBy (w.setCells g (i * 4) (List.replicate k (encQ zQ)).flatten) (some g)
  | 0, i, w, xs, h, hr => ⟨xs, hr, rfl, ⟨rfl, rfl, rfl, Nat.le_refl _, fun _ _ _ => rfl⟩⟩
  | k + 1, i, w, xs, h, hr => by
    obtain ⟨r1, g1⟩ := kq_put hr i (by omega) zQ
    obtain ⟨ys, r2, e2, g2⟩ := kq_clear k (i + 1) _ _ (by omega) r1
    have hs : w.setCells g (i * 4) (List.replicate (k + 1) (encQ zQ)).flatten = (w.setCells g (i * 4) (encQ zQ)).setCells g ((i + 1) * 4) (List.replicate k (encQ zQ)).flatten := by
      rw [List.replicate_succ, List.flatten_cons, show (i + 1) * 4 = i * 4 + 1 + 1 + 1 + 1 by omega]
      rfl
    rw [hs]
    refine ⟨ys, r2, ?_, grown_trans g1 g2⟩
    have := congrArg (List.take i) e2
    rw [List.take_take, Nat.min_eq_left (Nat.le_succ i), List.take_take, Nat.min_eq_left (Nat.le_succ i), List.take_set_of_le (Nat.le_refl i)] at this
    exact this
theorem zero_many (w : World) : (zeroValue 40).run Try.prog w = .ok (.agg #[.int .i64 0, .slice none 0 0, .slice none 0 0, .int .u64 0]) w := by
  have hz : Try.t40.zero = some (.agg #[.int .i64 0, .slice none 0 0, .slice none 0 0, .int .u64 0]) := by kernel_rfl
  unfold zeroValue
  simp [hz]
theorem clear_many (w : World) (ty : TypeId) (g o n c : Nat) (hn : 0 < n) (hc : ∀ j, j < n * 4 → (w.cell? ⟨g, o + j, none⟩).isSome = true) (hf : ∀ j, j < n * 4 → w.frozen? ⟨g, o + j, none⟩ = false) :
    (Builtin.clear_ #[36] ty #[.slice (some ⟨g, o, none⟩) n c]).run Try.prog w = .ok (.tuple #[]) (w.setCells g o (List.replicate n (encQ zQ)).flatten) := by
  have hz : (Builtin.zeroCells (Value.agg #[.int .i64 0, .slice none 0 0, .slice none 0 0, .int .u64 0]).cells n).toList = (List.replicate n (encQ zQ)).flatten := zero4 _ _ _ _ n
  have hl : (List.replicate n (encQ zQ)).flatten.length = n * 4 := by
    rw [List.length_flatten, List.map_replicate, List.sum_replicate_nat]; rfl
  have hst := run_storeCells_cells (P := Try.prog) g o (List.replicate n (encQ zQ)).flatten 0 w (by rw [hl]; simpa using hc) (by rw [hl]; simpa using hf) (by
    intro v hv
    obtain ⟨l, h1, h2⟩ := List.mem_flatten.1 hv
    rw [List.eq_of_mem_replicate h1] at h2
    have h3 : v ∈ [Value.int .i64 0, .slice none 0 0, .slice none 0 0, .int .u64 0] := h2
    simp at h3
    rcases h3 with rfl | rfl | rfl <;> rfl)
  rw [Nat.add_zero] at hst
  obtain ⟨m, rfl⟩ : ∃ m, n = m + 1 := ⟨n - 1, by omega⟩
  simp [Builtin.clear_, run_underlying Try.underlying36, zero_many, hz, hst]
abbrev qA (q : Q) : Value := .agg #[.int .i64 q.1, .slice q.2.1.1 q.2.1.2.1 q.2.1.2.2, .slice q.2.2.1.1 q.2.2.1.2.1 q.2.2.1.2.2, .int .u64 q.2.2.2]
set_option maxRecDepth 100000 in
set_option maxHeartbeats 400000 in
theorem bag2_flat (q : Q) (w : World) : Calls Try.prog 49 (#[] ++ #[.agg #[.int .i64 q.1, .slice q.2.1.1 q.2.1.2.1 q.2.1.2.2, .slice q.2.2.1.1 q.2.2.1.2.1 q.2.2.1.2.2, .int .u64 q.2.2.2]] ++ #[]) w fun e w' => e = .returned (.bool (q.2.2.2 == 0)) ∧ Below w.heap.size w w' := by
  obtain ⟨b, hb⟩ : ∃ b, (q.2.2.2 == 0) = b := ⟨_, rfl⟩
  show Calls Try.prog 49 #[.agg #[.int .i64 q.1, .slice q.2.1.1 q.2.1.2.1 q.2.1.2.2, .slice q.2.2.1.1 q.2.2.1.2.1 q.2.2.1.2.2, .int .u64 q.2.2.2]] w fun e w' => e = .returned (.bool (q.2.2.2 == 0)) ∧ Below w.heap.size w w'
  go_enter Try.func49, Try.ntmps49
  go_wp2_with (first | (((with_reducible refine gate_dst (N := 1) rfl ?_); refine box_event ?hg (N := 1) ?hd (cs := #[.int .i64 q.1, .slice q.2.1.1 q.2.1.2.1 q.2.1.2.2, .slice q.2.2.1.1 q.2.2.1.2.1 q.2.2.1.2.2, .int .u64 q.2.2.2]) (t := 40) ?hr ?_; (case hd => rfl); (case hg => rfl); (case hr => first | (go_simp; done) | (go_simp; rfl)); intro g1 hg w1 hbox hb; have GE1 := Aside0.mk (Nat.le_of_eq hg.symm); have BK1 := Aside0.mk hbox; have HX1 := Aside0.mk hb; clear hg hbox hb); (have hg1_0 : w1.cell? ⟨g1, 0, none⟩ = some (.int .i64 q.1) := (blk_cell BK1.out 0).trans rfl; have hfg1_0 := blk_frozen BK1.out 0; have hg1_1 : w1.cell? ⟨g1, 1, none⟩ = some (.slice q.2.1.1 q.2.1.2.1 q.2.1.2.2) := (blk_cell BK1.out 1).trans rfl; have hfg1_1 := blk_frozen BK1.out 1; have hg1_2 : w1.cell? ⟨g1, 2, none⟩ = some (.slice q.2.2.1.1 q.2.2.1.2.1 q.2.2.1.2.2) := (blk_cell BK1.out 2).trans rfl; have hfg1_2 := blk_frozen BK1.out 2; have hg1_3 : w1.cell? ⟨g1, 3, none⟩ = some (.int .u64 q.2.2.2) := (blk_cell BK1.out 3).trans rfl; have hfg1_3 := blk_frozen BK1.out 3)) | fail)
  go_ret
  exact ⟨by rw [hb]; rfl, HX1.out⟩
inductive RelI (w : World) (g n c : Nat) (xs : List Q) (v : Value) (w' : World) : Prop
  | mk (i : Nat) (e : v = .int .i64 i) (hi : i ≤ n) (hb : Below w.heap.size w w') (hz : ∀ j, j < i → ((xs.getD j zQ).2.2.2 == 0) = false)
set_option maxRecDepth 100000 in
set_option maxHeartbeats 1600000 in
theorem idx_flat (g n c : Nat) (xs : List Q) (w : World) (base : Nat) (ok : Nat → Prop) (hrow : kq.R 40 w base ok (.slice (some ⟨g, 0, none⟩) n c) xs) (hn : n ≤ 1152921504606846976) :
    Calls Try.prog 55 #[.slice (some ⟨g, 0, none⟩) n c, .func (.func 49) #[] #[]] w fun e w' => ∃ r : Int, e = .returned (.int .i64 r) ∧ Below w.heap.size w w' ∧ ((r = -1 ∧ ∀ j, j < n → ((xs.getD j zQ).2.2.2 == 0) = false) ∨ ∃ i : Nat, r = i ∧ i < n ∧ ((xs.getD i zQ).2.2.2 == 0) = true ∧ ∀ j, j < i → ((xs.getD j zQ).2.2.2 == 0) = false) := by
  have HR := Aside0.mk hrow
  clear hrow
  go_enter Try.func55, Try.ntmps55
  go_wp2_with fail
  go_loopw [8] (fun v8 w' => RelI w g n c xs v8 w') (fun v8 _ => n - (intOf v8).toNat)
  case atStart => exact .mk 0 rfl (Nat.zero_le _) (Below.refl _ _) (fun j h => absurd h (Nat.not_lt_zero _))
  case round =>
    obtain ⟨i, rfl, hi, hB, hZ⟩ := hrel
    have HB := Aside0.mk hB
    have HZ := Aside0.mk hZ
    clear hB hZ
    by_cases hlt : i < n
    · have hii : (i : Int) < (n : Int) := by omega
      obtain ⟨d0, d1, d2, d3⟩ := kq_get (Kd.R_below HR.out HB.out) i hlt
      simp only [encSL] at d1 d2
      generalize hq : xs.getD i zQ = q at *
      have HQ := Aside0.mk hq
      have HC := Aside0.mk (bag2_flat q)
      clear hq
      generalize hb : (q.2.2.2 == 0) = b at HC
      have HBq := Aside0.mk hb
      clear hb
      go_wp2_with (first
        | ((with_reducible refine gate_dst (N := 16) rfl ?_); refine goesLv_ (some 16) rfl rfl Try.func49 rfl rfl #[.agg #[.int .i64 q.1, .slice q.2.1.1 q.2.1.2.1 q.2.1.2.2, .slice q.2.2.1.1 q.2.2.1.2.1 q.2.2.1.2.2, .int .u64 q.2.2.2]] rfl rfl (by simp only [List.map_toArray, List.map_cons, List.map_nil]; rfl) ?_; with_reducible refine (HC.out _).mono ?_; rintro e w3 ⟨rfl, hb⟩; refine ⟨_, rfl, ?_⟩; have HB3 := Aside0.mk (below_then HB.out HB.out.size hb); clear hb; cases b)
        | fail)
      · go_roundw
        case rel => exact .mk (i + 1) (by go_num) (by omega) HB3.out (fun j hj => by
          by_cases e : j = i
          · subst e; rw [HQ.out]; exact HBq.out
          · exact HZ.out j (by omega))
        case measure => simp [intOf]; omega
      · go_ret
        exact ⟨i, rfl, HB3.out, .inr ⟨i, rfl, hlt, by rw [HQ.out]; exact HBq.out, HZ.out⟩⟩
    · obtain rfl : i = n := by omega
      have hii : decide (i < i) = false := decide_eq_false (by omega)
      clear hlt
      go_wp2_with fail
      go_ret
      exact ⟨-1, rfl, HB.out, .inl ⟨rfl, HZ.out⟩⟩
inductive RelDel (w : World) (base : Nat) (g n c : Nat) (xs : List Q) (v1 v2 : Value) (w' : World) : Prop
  | mk (i j : Nat) (ys : List Q) (e1 : v1 = .int .i64 i) (e2 : v2 = .int .i64 j) (hij : i < j) (hj : j ≤ n) (hrow : kq.R 40 w' base (fun _ => True) (.slice (some ⟨g, 0, none⟩) n c) ys) (hg : w.grownBy w' (some g))
    (hk : ys.take i = (xs.take j).filter (fun q => !(q.2.2.2 == 0))) (hr : ∀ p, j ≤ p → ys.getD p zQ = xs.getD p zQ)
theorem take_getD {xs : List Q} {j : Nat} (h : j < xs.length) : xs.take (j + 1) = xs.take j ++ [xs.getD j zQ] := by
  rw [List.take_succ_eq_append_getElem h, List.getD_eq_getElem?_getD, List.getElem?_eq_getElem h]; rfl
theorem filter_all {xs : List Q} {i : Nat} (hi : i ≤ xs.length) (h : ∀ j, j < i → ((xs.getD j zQ).2.2.2 == 0) = false) : (xs.take i).filter (fun q => !(q.2.2.2 == 0)) = xs.take i := by
  rw [List.filter_eq_self]
  intro q hq
  obtain ⟨j, hj, rfl⟩ := List.getElem_of_mem hq
  rw [List.length_take] at hj
  have := h j (by omega)
  rw [List.getD_eq_getElem?_getD, List.getElem?_eq_getElem (by omega)] at this
  rw [List.getElem_take]
  simpa using this
set_option maxRecDepth 100000 in
set_option maxHeartbeats 1600000 in
theorem del_flat (g n c : Nat) (xs : List Q) (w : World) (base : Nat) (hrow : kq.R 40 w base (fun _ => True) (.slice (some ⟨g, 0, none⟩) n c) xs) (hn : n ≤ 1152921504606846976) :
    Calls Try.prog 48 #[.slice (some ⟨g, 0, none⟩) n c, .func (.func 49) #[] #[]] w fun e w' => e = .returned (.slice (some ⟨g, 0, none⟩) (xs.filter (fun q => !(q.2.2.2 == 0))).length c) ∧ kq.R 40 w' base (fun _ => True) (.slice (some ⟨g, 0, none⟩) (xs.filter (fun q => !(q.2.2.2 == 0))).length c) (xs.filter (fun q => !(q.2.2.2 == 0))) ∧ w.grownBy w' (some g) := by
  have HR := Aside0.mk hrow
  have hl : n = xs.length := (Kd.R_reads' hrow).1
  have hnc : n ≤ c := by have := (Kd.R_reads' hrow).2.1; omega
  have HL := Aside0.mk hl
  have HI := Aside0.mk (idx_flat g n c xs w base _ hrow hn)
  clear hrow hl
  go_enter Try.func48, Try.ntmps48
  go_upto_region 2 with (first | (go_at_call 55; refine HI.out.mono ?_; rintro e w2 ⟨r, rfl, hb, hr⟩; have HB := Aside0.mk hb; have HRr := Aside0.mk hr; clear hb hr HI) | fail)
  rcases HRr.out with ⟨rfl, hall⟩ | ⟨i, rfl, hi, hz, hall⟩
  · have HA := Aside0.mk (show xs.filter (fun q => !(q.2.2.2 == 0)) = xs by
      have := filter_all (xs := xs) (i := xs.length) (Nat.le_refl _) (fun j hj => hall j (by rw [HL.out]; exact hj))
      rwa [List.take_length] at this)
    clear hall HRr
    go_wp2_with fail
    go_ret
    rw [HA.out, ← HL.out]
    exact ⟨rfl, Kd.R_below HR.out HB.out, grown_below (grown_refl w _) HB.out⟩
  · have hne : ((i : Int) == -1) = false := beq_eq_false_iff_ne.2 (by omega)
    have HS := Aside0.mk (show RelDel w base g n c xs (.int .i64 i) (.int .i64 (i + 1 : Nat)) w2 from .mk i (i + 1) xs rfl rfl (Nat.lt_succ_self i) hi (Kd.R_below HR.out HB.out) (grown_below (grown_refl w _) HB.out) (by
      rw [take_getD (by rw [← HL.out]; exact hi), List.filter_append, filter_all (by rw [← HL.out]; omega) hall, List.filter_cons, hz]
      simp) (fun _ _ => rfl))
    clear hall HRr hz
    go_wp2_with fail
    go_loopw [5, 6] (fun v5 v6 w' => RelDel w base g n c xs v5 v6 w') (fun _ v6 _ => n - (intOf v6).toNat)
    case atStart => exact HS.out
    case round =>
      clear HS HB HR hne hi
      obtain ⟨k, j, ys, rfl, rfl, hkj, hj, hrow, hg, hk, hr⟩ := hrel
      have HR := Aside0.mk hrow
      have HG := Aside0.mk hg
      have HK := Aside0.mk hk
      have HR2 := Aside0.mk hr
      have hy := HR.out
      have HYl := Aside0.mk (show ys.length = n from (Kd.R_reads' hrow).1.symm)
      clear hrow hg hk hr hy
      by_cases hlt : j < n
      · have hii : (j : Int) < (n : Int) := by omega
        have hkk : (k : Int) < (n : Int) := by omega
        obtain ⟨d0, d1, d2, d3⟩ := kq_get HR.out j hlt
        obtain ⟨c0, c1, c2, c3⟩ := kq_get HR.out k (by omega)
        simp only [encSL] at d1 d2 c1 c2
        have HQ := Aside0.mk (HR2.out j (Nat.le_refl _))
        have HT := Aside0.mk (show (xs.take (j + 1)).filter (fun q => !(q.2.2.2 == 0)) = ys.take k ++ if ((ys.getD j zQ).2.2.2 == 0) = true then [] else [ys.getD j zQ] by
          rw [take_getD (by rw [← HL.out]; exact hlt), List.filter_append, ← HK.out, List.filter_cons, HQ.out]
          cases ((xs.getD j zQ).2.2.2 == 0) <;> rfl)
        have HP := Aside0.mk (fun (w' : World) (h : kq.R 40 w' base (fun _ => True) (.slice (some ⟨g, 0, none⟩) n c) ys) => kq_put h k (by omega) (ys.getD j zQ))
        generalize ys.getD j zQ = q at *
        generalize ys.getD k zQ = p at *
        have HC := Aside0.mk (bag2_flat q)
        generalize hb : (q.2.2.2 == 0) = b at HC HT
        have HBq := Aside0.mk hb
        clear hb
        obtain ⟨cs3, hcs3⟩ := Kd.R_typed HR.out g rfl
        go_wp2_with (first
          | (((with_reducible refine gate_dst (N := 7) rfl ?_); refine box_event ?hg (N := 7) ?hd (cs := #[.int .i64 0, .slice none 0 0, .slice none 0 0, .int .u64 0]) (t := 40) ?hr ?_; (case hd => rfl); (case hg => rfl); (case hr => first | (go_simp; done) | (go_simp; rfl)); intro g1 hg w1 hbox hb; have GE1 := Aside0.mk (Nat.le_of_eq hg.symm); have BK1 := Aside0.mk hbox; have HX1 := Aside0.mk hb; clear hg hbox hb); (have hg1_0 : w1.cell? ⟨g1, 0, none⟩ = some (.int .i64 0) := (blk_cell BK1.out 0).trans rfl; have hfg1_0 := blk_frozen BK1.out 0; have hg1_1 : w1.cell? ⟨g1, 1, none⟩ = some (.slice none 0 0) := (blk_cell BK1.out 1).trans rfl; have hfg1_1 := blk_frozen BK1.out 1; have hg1_2 : w1.cell? ⟨g1, 2, none⟩ = some (.slice none 0 0) := (blk_cell BK1.out 2).trans rfl; have hfg1_2 := blk_frozen BK1.out 2; have hg1_3 : w1.cell? ⟨g1, 3, none⟩ = some (.int .u64 0) := (blk_cell BK1.out 3).trans rfl; have hfg1_3 := blk_frozen BK1.out 3))
          | ((with_reducible refine gate_dst (N := 28) rfl ?_); refine goesLv_ (some 28) rfl rfl Try.func49 rfl rfl #[.agg #[.int .i64 q.1, .slice q.2.1.1 q.2.1.2.1 q.2.1.2.2, .slice q.2.2.1.1 q.2.2.1.2.1 q.2.2.1.2.2, .int .u64 q.2.2.2]] rfl rfl (by simp only [List.map_toArray, List.map_cons, List.map_nil]; rfl) ?_; have HXs := Aside0.mk (show Below wr.heap.size wr ((((w1.setCell ⟨g1, 0, none⟩ (.int .i64 (q).1)).setCell ⟨g1, 1, none⟩ (.slice (q).2.1.1 (q).2.1.2.1 (q).2.1.2.2)).setCell ⟨g1, 2, none⟩ (.slice (q).2.2.1.1 (q).2.2.1.2.1 (q).2.2.1.2.2)).setCell ⟨g1, 3, none⟩ (.int .u64 (q).2.2.2)) from below_set (below_set (below_set (below_set HX1.out GE1.out) GE1.out) GE1.out) GE1.out); have BKs := Aside0.mk (show (((((w1.setCell ⟨g1, 0, none⟩ (.int .i64 (q).1)).setCell ⟨g1, 1, none⟩ (.slice (q).2.1.1 (q).2.1.2.1 (q).2.1.2.2)).setCell ⟨g1, 2, none⟩ (.slice (q).2.2.1.1 (q).2.2.1.2.1 (q).2.2.1.2.2)).setCell ⟨g1, 3, none⟩ (.int .u64 (q).2.2.2))).heap[g1]? = some (.cells #[.int .i64 q.1, .slice q.2.1.1 q.2.1.2.1 q.2.1.2.2, .slice q.2.2.1.1 q.2.2.1.2.1 q.2.2.1.2.2, .int .u64 q.2.2.2] 40 (0, 0)) from (blk_set (blk_set (blk_set (blk_set BK1.out 0 _) 1 _) 2 _) 3 _)); clear hg1_0 hfg1_0 hg1_1 hfg1_1 hg1_2 hfg1_2 hg1_3 hfg1_3; generalize ((((w1.setCell ⟨g1, 0, none⟩ (.int .i64 (q).1)).setCell ⟨g1, 1, none⟩ (.slice (q).2.1.1 (q).2.1.2.1 (q).2.1.2.2)).setCell ⟨g1, 2, none⟩ (.slice (q).2.2.1.1 (q).2.2.1.2.1 (q).2.2.1.2.2)).setCell ⟨g1, 3, none⟩ (.int .u64 (q).2.2.2)) = w2 at *; refine (HC.out _).mono ?_; rintro e w3 ⟨rfl, hb⟩; refine ⟨_, rfl, ?_⟩; have HX3 := Aside0.mk (below_then HXs.out HXs.out.size hb); have HR3 := Aside0.mk (Kd.R_below HR.out HX3.out); have BK3 := Aside0.mk (blk_below BKs.out hb); clear hb; (have hg1_0 : w3.cell? ⟨g1, 0, none⟩ = some (.int .i64 (q).1) := (blk_cell BK3.out 0).trans rfl; have hfg1_0 := blk_frozen BK3.out 0; have hg1_1 : w3.cell? ⟨g1, 1, none⟩ = some (.slice (q).2.1.1 (q).2.1.2.1 (q).2.1.2.2) := (blk_cell BK3.out 1).trans rfl; have hfg1_1 := blk_frozen BK3.out 1; have hg1_2 : w3.cell? ⟨g1, 2, none⟩ = some (.slice (q).2.2.1.1 (q).2.2.1.2.1 (q).2.2.1.2.2) := (blk_cell BK3.out 2).trans rfl; have hfg1_2 := blk_frozen BK3.out 2; have hg1_3 : w3.cell? ⟨g1, 3, none⟩ = some (.int .u64 (q).2.2.2) := (blk_cell BK3.out 3).trans rfl; have hfg1_3 := blk_frozen BK3.out 3); replace c0 := pw_cell_below HX3.out c0; replace c1 := pw_cell_below HX3.out c1; replace c2 := pw_cell_below HX3.out c2; replace c3 := pw_cell_below HX3.out c3; have hfz : ∀ o, w3.frozen? ⟨g, o, none⟩ = false := fun o => blk_frozen (blk_below hcs3 HX3.out) o; cases b)
          | fail)
        · have HP3 := Aside0.mk (HP.out w3 HR3.out)
          rw [set4] at HP3
          go_roundw
          case rel =>
            exact .mk (k + 1) (j + 1) (ys.set k q) (by go_num) (by go_num) (by omega) (by omega) HP3.out.1 (grown_trans (grown_below HG.out HX3.out) HP3.out.2) (by
              rw [HT.out, take_getD (by rw [List.length_set, HYl.out]; omega), List.take_set_of_le (Nat.le_refl k), getD_set_eq _ _ _ (by rw [HYl.out]; omega)]
              rfl) (fun p hp => by rw [getD_set_ne _ _ _ _ (by omega)]; exact HR2.out p (by omega))
          case measure => simp [intOf]; omega
        · go_roundw
          case rel => exact .mk k (j + 1) ys rfl (by go_num) (by omega) (by omega) HR3.out (grown_below HG.out HX3.out) (by rw [HT.out, if_pos rfl, List.append_nil]) (fun p hp => HR2.out p (by omega))
          case measure => simp [intOf]; omega
      · obtain rfl : j = n := by omega
        have hii : decide (j < j) = false := decide_eq_false (by omega)
        obtain ⟨cs3, hcs3⟩ := Kd.R_typed HR.out g rfl
        obtain ⟨zs, hz1, hz2, hz3⟩ := kq_clear (j - k) k wr ys (by omega) HR.out
        have HZ1 := Aside0.mk hz1
        have HZ2 := Aside0.mk (hz2.trans (HK.out.trans (show _ = xs.filter (fun q => !(q.2.2.2 == 0)) by rw [HL.out, List.take_length])))
        have HZ3 := Aside0.mk (grown_trans HG.out hz3)
        have hcl : ∀ ty, (Builtin.clear_ #[36] ty #[.slice (some ⟨g, k * 4, none⟩) (j - k) (c - k)]).run Try.prog wr = .ok (.tuple #[]) (wr.setCells g (k * 4) (List.replicate (j - k) (encQ zQ)).flatten) := fun ty => clear_many wr ty g (k * 4) (j - k) (c - k) (by omega) (fun p hp => by
          have hlt : (k * 4 + p) / 4 < j := by omega
          obtain ⟨e0, e1, e2, e3⟩ := kq_get HR.out ((k * 4 + p) / 4) hlt
          have hm : (k * 4 + p) % 4 = 0 ∨ (k * 4 + p) % 4 = 1 ∨ (k * 4 + p) % 4 = 2 ∨ (k * 4 + p) % 4 = 3 := by omega
          rcases hm with h | h | h | h
          · rw [show k * 4 + p = (k * 4 + p) / 4 * 4 by omega, e0]; rfl
          · rw [show k * 4 + p = (k * 4 + p) / 4 * 4 + 1 by omega, e1]; rfl
          · rw [show k * 4 + p = (k * 4 + p) / 4 * 4 + 2 by omega, e2]; rfl
          · rw [show k * 4 + p = (k * 4 + p) / 4 * 4 + 3 by omega, e3]; rfl) (fun p _ => blk_frozen hcs3 _)
        have hkc : k < c := by omega
        have hkj2 : (k : Int) ≤ (j : Int) := by omega
        have HKl := Aside0.mk (show k = (xs.filter (fun q => !(q.2.2.2 == 0))).length by
          have := congrArg List.length (HK.out.trans (show _ = xs.filter (fun q => !(q.2.2.2 == 0)) by rw [HL.out, List.take_length]))
          rw [List.length_take, HYl.out] at this
          omega)
        clear hz1 hz2 hz3 hlt HR HG HK HR2 HYl
        generalize wr.setCells g (k * 4) (List.replicate (j - k) (encQ zQ)).flatten = w5 at *
        go_wp2_with fail
        go_ret
        rw [← HKl.out, ← HZ2.out]
        exact ⟨rfl, Kd.R_take HZ1.out (by have := (Kd.R_reads' HZ1.out).1; omega), HZ3.out⟩
end Go.Proofs.Ytfeeahjaeapkoaa.Ext
end

section
namespace Go.Proofs.Ytfeeahjaeapkoaa.Ext
set_option linter.unusedVariables false
set_option linter.unusedSimpArgs false
open Go.RowKit Go.Proofs.YtfeeahjaeapkoaaW.PrintWords Go.Proofs.YtfeeahjaeapkoaaW.PrintLast Go.Proofs.YtfeeahjaeapkoaaW.PrintMore Go.Proofs.Ytfeeahjaeapkoaa.Lib Go.Proofs.Ytfeeahjaeapkoaa.P
def Two (R : Q → M → Prop) : List Q → List M → Prop
  | [], [] => True
  | q :: a, x :: b => R q x ∧ Two R a b
  | _, _ => False
theorem Two.len {R : Q → M → Prop} : ∀ {a : List Q} {b : List M}, Two R a b → b.length = a.length
  | [], [], _ => rfl
  | q :: a, x :: b, h => by rw [List.length_cons, List.length_cons, h.2.len]
theorem Two.get {R : Q → M → Prop} : ∀ {a : List Q} {b : List M}, Two R a b → ∀ j, j < b.length → R (a.getD j zQ) (b.getD j zM)
  | q :: a, x :: b, h, 0, _ => h.1
  | q :: a, x :: b, h, j + 1, hj => h.2.get j (by simpa using hj)
  | [], [], _, j, hj => absurd hj (Nat.not_lt_zero _)
theorem Two.of {R : Q → M → Prop} : ∀ {a : List Q} {b : List M}, b.length = a.length → (∀ j, j < b.length → R (a.getD j zQ) (b.getD j zM)) → Two R a b
  | [], [], _, _ => trivial
  | q :: a, x :: b, h, hr => ⟨hr 0 (Nat.zero_lt_succ _), Two.of (by simpa using h) (fun j hj => hr (j + 1) (by simpa using hj))⟩
theorem Two.mono {R S : Q → M → Prop} (hs : ∀ q x, R q x → S q x) : ∀ {a : List Q} {b : List M}, Two R a b → Two S a b
  | [], [], _ => trivial
  | q :: a, x :: b, h => ⟨hs _ _ h.1, h.2.mono hs⟩
theorem Two.filter {R : Q → M → Prop} {p : Q → Bool} {r : M → Bool} (hp : ∀ q x, R q x → p q = r x) : ∀ {a : List Q} {b : List M}, Two R a b → Two R (a.filter p) (b.filter r)
  | [], [], _ => trivial
  | q :: a, x :: b, h => by
    rw [List.filter_cons, List.filter_cons, hp q x h.1]
    split
    · exact ⟨h.1, h.2.filter hp⟩
    · exact h.2.filter hp
theorem getD_take' (ys : List Q) (u j : Nat) (h : j < u) : (ys.take u).getD j zQ = ys.getD j zQ := by
  rw [List.getD_eq_getElem?_getD, List.getElem?_take_of_lt h, ← List.getD_eq_getElem?_getD]
def keepM (x : M) : Bool := !(x.2 == 0)
def bagOf (l : List M) : List M := (bagB [] l).filter keepM
theorem bag_end {w w2 : World} {base g n c : Nat} {ys : List Q} {b : List M} (hrow : kq.R 40 w2 base (fun _ => True) (.slice (some ⟨g, 0, none⟩) ((ys.take b.length).filter (fun q => !(q.2.2.2 == 0))).length c) ((ys.take b.length).filter (fun q => !(q.2.2.2 == 0)))) (hg : w.grownBy w2 (some g)) (hl : b.length ≤ ys.length) (ho : ∀ j, j < b.length → OwnD w base g (ys.getD j zQ) (b.getD j zM)) :
    k40.R 40 w2 base (fun _ => True) (.slice (some ⟨g, 0, none⟩) ((ys.take b.length).filter (fun q => !(q.2.2.2 == 0))).length c) ((b.filter keepM).map s40) := by
  have h1 : Two (OwnD w base g) (ys.take b.length) b := Two.of (by rw [List.length_take]; omega) (fun j hj => by rw [getD_take' _ _ _ hj]; exact ho j hj)
  have h2 : Two (OwnD w2 base g) ((ys.take b.length).filter (fun q => !(q.2.2.2 == 0))) (b.filter keepM) := (h1.filter (fun q x h => by show (!(q.2.2.2 == 0)) = !(x.2 == 0); rw [h.n])).mono (fun q x h => h.grown hg)
  exact own_row hrow h2.len (fun j hj => h2.get j hj)
def SortUpto (K : Nat) : Prop := ∀ (cf : Q → Q → Int) (hp : Pre cf) (f : FuncId) (fn : Func) (hf : Try.prog.funcs[f]? = some fn) (hname : (fn.name == "runtime.NumGoroutine") = false) (hbody : fn.body.isSome = true) (g c n : Nat) (xs : List Q) (w : World) (base : Nat) (ok : Nat → Prop)
    (hrow : kq.R 40 w base ok (.slice (some ⟨g, 0, none⟩) n c) xs) (hn : n ≤ K) (hcmp : CmpOk f cf w g xs),
    Calls Try.prog 45 #[.slice (some ⟨g, 0, none⟩) n c, .func (.func f) #[] #[]] w fun e w' => e = .returned (.tuple #[]) ∧ ∃ zs, RS w w' base ok g n c xs zs ∧ zs.Pairwise (fun x y => ¬ cf y x < 0)
set_option maxRecDepth 100000 in
set_option maxHeartbeats 400000 in
theorem ins_nil (fv : Value) (w : World) : Calls Try.prog 57 #[.slice none 0 0, .int .i64 0, .int .i64 0, fv] w fun e w' => e = .returned (.tuple #[]) ∧ w' = w := by
  go_enter Try.func57, Try.ntmps57
  go_wp2_with fail
  go_loopw [8] (fun v8 w' => v8 = .int .i64 1 ∧ w = w') (fun _ _ => 0)
  case atStart => exact ⟨rfl, rfl⟩
  case round =>
    obtain ⟨rfl, rfl⟩ := hrel
    go_wp2_with fail
    go_end0
    exact ⟨rfl, rfl⟩
set_option maxRecDepth 100000 in
set_option maxHeartbeats 400000 in
theorem stab_nil (fv : Value) (w : World) : Calls Try.prog 52 #[.slice none 0 0, .int .i64 0, fv] w fun e w' => e = .returned (.tuple #[]) ∧ w' = w := by
  go_enter Try.func52, Try.ntmps52
  go_wp2_with fail
  go_loopw [7, 8] (fun v7 v8 w' => v7 = .int .i64 0 ∧ v8 = .int .i64 20 ∧ w = w') (fun _ _ _ => 0)
  case atStart => exact ⟨rfl, rfl, rfl⟩
  case round =>
    obtain ⟨rfl, rfl, rfl⟩ := hrel
    go_wp2_with (first | (go_at_call 57; refine (ins_nil _ _).mono ?_; rintro e w2 ⟨rfl, rfl⟩) | fail)
    go_loopw [6] (fun v6 w' => v6 = .int .i64 20 ∧ w2 = w') (fun _ _ => 0)
    case atStart => exact ⟨rfl, rfl⟩
    case round =>
      obtain ⟨rfl, rfl⟩ := hrel
      go_wp2_with fail
      go_end0
      exact ⟨rfl, rfl⟩
set_option maxRecDepth 100000 in
set_option maxHeartbeats 400000 in
theorem sort_nil (fv : Value) (w : World) : Calls Try.prog 45 #[.slice none 0 0, fv] w fun e w' => e = .returned (.tuple #[]) ∧ w' = w := by
  go_enter Try.func45, Try.ntmps45
  go_wp2_with (first | (go_at_call 52; refine (stab_nil _ _).mono ?_; rintro e w2 ⟨rfl, rfl⟩) | fail)
  go_end0
  exact ⟨rfl, rfl⟩
set_option maxRecDepth 100000 in
set_option maxHeartbeats 400000 in
theorem idx_nil (fv : Value) (w : World) : Calls Try.prog 55 #[.slice none 0 0, fv] w fun e w' => e = .returned (.int .i64 (-1)) ∧ w' = w := by
  go_enter Try.func55, Try.ntmps55
  go_wp2_with fail
  go_loopw [8] (fun v8 w' => v8 = .int .i64 0 ∧ w = w') (fun _ _ => 0)
  case atStart => exact ⟨rfl, rfl⟩
  case round =>
    obtain ⟨rfl, rfl⟩ := hrel
    go_wp2_with fail
    go_ret
    exact ⟨rfl, rfl⟩
set_option maxRecDepth 100000 in
set_option maxHeartbeats 400000 in
theorem del_nil (fv : Value) (w : World) : Calls Try.prog 48 #[.slice none 0 0, fv] w fun e w' => e = .returned (.slice none 0 0) ∧ w' = w := by
  go_enter Try.func48, Try.ntmps48
  go_wp2_with (first | (go_at_call 55; refine (idx_nil _ _).mono ?_; rintro e w2 ⟨rfl, rfl⟩) | fail)
  go_ret
  exact ⟨rfl, rfl⟩
end Go.Proofs.Ytfeeahjaeapkoaa.Ext
end

section
namespace Go.Proofs.Ytfeeahjaeapkoaa.P
open Go.RowKit Go.Proofs.YtfeeahjaeapkoaaW.PrintWords Go.Proofs.YtfeeahjaeapkoaaW.PrintLast Go.Proofs.YtfeeahjaeapkoaaW.PrintMore
attribute [local go_sem] max2_int min2_int max_two min_two max_three min_three max_four min_four   -- for this text's walks alone
set_option linter.unusedVariables false
set_option linter.unusedSimpArgs false
open Go.Proofs.Ytfeeahjaeapkoaa.Ext (q1_ q2_ q3_ bk_ bw_ sz_ ne_ bx_)
attribute [local go_sem high] Go.Proofs.Ytfeeahjaeapkoaa.Ext.gtr_str Go.Proofs.Ytfeeahjaeapkoaa.Ext.leq_str Go.Proofs.Ytfeeahjaeapkoaa.Ext.geq_str
def fact_Count.l0 : Nat → Int → List (S40) → Int → Int → Option (Int)
 | 0, _, _, _, _ => none
 | k + 1, x2, x5, x6, x7 => if x7 < x6 then (if 0 ≤ x7 then (if x7 < (x5.length : Int) then (fact_Count.l0 k (IntKind.u64.wrap (x2 + ((rd_T40 x5 x7).f1))) x5 x6 (wrap64 (x7 + 1))) else (none)) else (none)) else (some x2)
def fact_Count.f (k : Nat) (l0 : List (S40)) : Option (Int) := fact_Count.l0 k 0 l0 (l0.length : Int) 0
set_option maxHeartbeats 8000000 in
set_option maxRecDepth 100000 in
theorem fact_Count.calls (k : Nat) (A0 : Option Addr) (c0 : Nat) (l0 : List (S40)) (r : Int) (w : World) (hr0 : Kd.C k40 w A0 l0.length l0) (hc0 : l0.length ≤ c0) (h : fact_Count.f k l0 = some r) :
  Calls Try.prog 17 #[.slice A0 l0.length c0] w fun e w' => e = .returned (.int .u64 r) ∧ Below w.heap.size w w' := by
 have hu40 := Try.underlying40
 have HR0 := Aside0.mk hr0
 have HC0 := Aside0.mk hc0
 clear hr0 hc0
 have HB := Aside0.mk (Below.refl w.heap.size w)
 have H : (fact_Count.l0 k 0 l0 (l0.length : Int) 0) = some r := h
 clear h
 have H' := Aside0.mk H
 clear H
 go_enter Try.func17, Try.ntmps17
 go_wp2
 go_loopg [2, 7] k (fun kq v2 v7 w' => ∃ (x2_1 : Int) (x7_1 : Int), v2 = .int .u64 x2_1 ∧ v7 = .int .i64 x7_1 ∧ Aside0 (fact_Count.l0 kq x2_1 l0 (l0.length : Int) x7_1 = some r) ∧ Aside0 (kq ≤ k) ∧ Aside0 (Below w.heap.size w w'))
 case atStart => exact ⟨(0), (0), (by first | rfl | (simp; done) | (simp [*]; done)), (by first | rfl | (simp; done) | (simp [*]; done)), H', ⟨Nat.le_refl _⟩, ⟨by repeat (first | (with_reducible first | exact HB.out | apply below_alloc | apply pw_below_drewN | apply below_drew1) | exact HB.out)⟩⟩
 case round =>
  clear H'
  try clear c1
  obtain ⟨x2_1, x7_1, rfl, rfl, HA, HK1, HB⟩ := hrel
  cases gk with
  | zero => exact absurd HA.out (by simp [fact_Count.l0])
  | succ k1 =>
   have H := HA.out
   clear HA
   simp only [fact_Count.l0] at H
   by_cases c2 : x7_1 < (l0.length : Int)
   ·rw [if_pos c2] at H
    have c2b0 : decide (x7_1 < (l0.length : Int)) = true := decide_eq_true c2
    clear c2
    by_cases c3 : 0 ≤ x7_1
    ·rw [if_pos c3] at H
     have c3b0 : decide (0 ≤ x7_1) = true := decide_eq_true c3
     clear c3
     by_cases c4 : x7_1 < (l0.length : Int)
     ·rw [if_pos c4] at H
      have c4b0 : decide (x7_1 < (l0.length : Int)) = true := decide_eq_true c4
      clear c4
      have H' := Aside0.mk H
      clear H
      have p160 : 0 ≤ (x7_1 : Int) := of_decide_eq_true (by assumption)
      have q160 : x7_1 < (l0.length : Int) := of_decide_eq_true (by assumption)
      obtain ⟨ad160, A160_1, c160_1, A160_2, c160_2, e160, hx160_0, hx160_1, hx160_2, hx160_3, hl160_1, hi160_1, hl160_2, hi160_2⟩ := at_T40 HR0.out x7_1 p160 q160
      cases e160
      replace hx160_0 := pw_cell_below HB.out hx160_0
      replace hx160_1 := pw_cell_below HB.out hx160_1
      replace hx160_2 := pw_cell_below HB.out hx160_2
      replace hx160_3 := pw_cell_below HB.out hx160_3
      have HR160_1 := Aside0.mk hi160_1
      have HC160_1 := Aside0.mk hl160_1
      clear hi160_1 hl160_1
      have HR160_2 := Aside0.mk hi160_2
      have HC160_2 := Aside0.mk hl160_2
      clear hi160_2 hl160_2
      replace p160 := eq_true p160
      replace q160 := eq_true q160
      go_wp2_with (first | ((with_reducible refine gate_dst (N := 4) rfl ?_); refine bx_ (N := 4) (cs := #[.int .i64 0, .slice none 0 0, .slice none 0 0, .int .u64 0]) (t := 40) ?_; intro gb161 hg w5 hbox hb; have n0_ := Aside0.mk (below_step (bw_ HB.out) hb); have n1_ := Aside0.mk (hbox); have n2_ := Aside0.mk (sz_ hg (bw_ HB.out)); have n3_ := n2_; clear HB; have HB := n0_; have BK161 := n1_; have GW161 := n2_; have GE161 := n3_; clear n0_ n1_ n2_ n3_; clear hb hbox hg; have hcz6_0 : w5.cell? ⟨gb161, 0, none⟩ = some (.int .i64 0) := (blk_cell BK161.out 0).trans rfl; have hcz6_1 : w5.cell? ⟨gb161, 1, none⟩ = some (.slice none 0 0) := (blk_cell BK161.out 1).trans rfl; have hcz6_2 : w5.cell? ⟨gb161, 2, none⟩ = some (.slice none 0 0) := (blk_cell BK161.out 2).trans rfl; have hcz6_3 : w5.cell? ⟨gb161, 3, none⟩ = some (.int .u64 0) := (blk_cell BK161.out 3).trans rfl; have hfz6_0 := blk_frozen BK161.out 0; have hfz6_1 := blk_frozen BK161.out 1; have hfz6_2 := blk_frozen BK161.out 2; have hfz6_3 := blk_frozen BK161.out 3))
      go_roundg k1
      case measure => have := HK1.out; omega
      case rel => exact ⟨(IntKind.u64.wrap (x2_1 + ((rd_T40 l0 x7_1).f1))), (wrap64 (x7_1 + 1)), (by first | rfl | (simp; done) | (simp [*]; done)), (by first | rfl | (simp; done) | (simp [*]; done)), H', ⟨by have := HK1.out; omega⟩, ⟨by repeat (first | (with_reducible first | exact HB.out | apply below_alloc | apply pw_below_drewN | apply below_drew1 | refine below_set ?_ GE161.out) | exact HB.out)⟩⟩
     ·rw [if_neg c4] at H
      exact absurd H (by simp)
    ·rw [if_neg c3] at H
     exact absurd H (by simp)
   ·rw [if_neg c2] at H
    have c2b0 : decide (x7_1 < (l0.length : Int)) = false := decide_eq_false c2
    clear c2
    obtain rfl := Option.some.inj H
    go_wp2
    go_ret
    exact ⟨by first | rfl | (simp [errW_none, errW_some] <;> rfl) | (simp [*, errW_none, errW_some] <;> rfl), by repeat (first | (with_reducible first | exact HB.out | apply below_alloc | apply pw_below_drewN | apply below_drew1) | exact HB.out)⟩
end Go.Proofs.Ytfeeahjaeapkoaa.P
end

section
namespace Go.Proofs.Ytfeeahjaeapkoaa.Ext
set_option linter.unusedVariables false
set_option linter.unusedSimpArgs false
open Go.RowKit Go.Proofs.YtfeeahjaeapkoaaW.PrintWords Go.Proofs.Ytfeeahjaeapkoaa.P
theorem bagB_mem1 {l : List M} {y : M} (h : y ∈ bagB [] l) : ∃ z ∈ l, y.1 = z.1 := by
  rcases bagB_mem l [] y h with h | h | ⟨z, h, _⟩
  · simp at h
  · exact h
  · simp at h
theorem bagOf_mem {l : List M} {y : M} (h : y ∈ bagOf l) : ∃ z ∈ l, y.1 = z.1 := bagB_mem1 (List.mem_filter.1 h).1
theorem bagB_len : ∀ (l b : List M), (bagB b l).length ≤ b.length + l.length
  | [], b => Nat.le_refl _
  | x :: l, b => by
    have h1 := bagB_len l (putB b x.1 x.2)
    have h2 := putB_len b x.1 x.2
    have e : bagB b (x :: l) = bagB (putB b x.1 x.2) l := rfl
    rw [e, List.length_cons]
    omega
theorem bagOf_len (l : List M) : (bagOf l).length ≤ l.length := by
  have h1 := bagB_len l []
  have h2 := List.length_filter_le keepM (bagB [] l)
  unfold bagOf
  simp at h1
  omega
theorem rd40_s (b : List M) (j : Nat) (hj : j < b.length) : rd_T40 (b.map s40) (j : Int) = s40 b[j] := by
  unfold rd_T40
  rw [Int.toNat_natCast, List.getD_eq_getElem?_getD, List.getElem?_map, List.getElem?_eq_getElem hj]; rfl
end Go.Proofs.Ytfeeahjaeapkoaa.Ext
end

section
namespace Go.Proofs.Ytfeeahjaeapkoaa.Ext
set_option linter.unusedVariables false
set_option linter.unusedSimpArgs false
open Go.RowKit Go.Proofs.YtfeeahjaeapkoaaW.PrintWords Go.Proofs.Ytfeeahjaeapkoaa.P
def InR (l : List M) : Prop := ∀ x ∈ l, 0 ≤ x.2 ∧ x.2 < 18446744073709551616
def tot : List M → F → Int
  | [], _ => 0
  | x :: r, f => (if fC x.1 f = 0 then x.2 else 0) + tot r f
def val (b : List M) (f : F) : Int := (look b f).getD 0
theorem W64_range (n : Int) : 0 ≤ W64 n ∧ W64 n < 18446744073709551616 := by rw [W64_is]; omega
theorem W64_in {n : Int} (h : 0 ≤ n ∧ n < 18446744073709551616) : W64 n = n := by rw [W64_is]; omega
theorem InR.cons {x : M} {l : List M} (h : InR (x :: l)) : (0 ≤ x.2 ∧ x.2 < 18446744073709551616) ∧ InR l := ⟨h x (by simp), fun y hy => h y (by simp [hy])⟩
theorem look_mem : ∀ (b : List M) (f : F) (m : Int), look b f = some m → ∃ x ∈ b, x.2 = m
  | [], f, m, h => by cases h
  | (g, n) :: r, f, m, h => by
    rw [look] at h
    split at h
    · injection h with h; exact ⟨(g, n), by simp, h⟩
    · obtain ⟨x, hx, e⟩ := look_mem r f m h; exact ⟨x, by simp [hx], e⟩
theorem val_range {b : List M} (h : InR b) (f : F) : 0 ≤ val b f ∧ val b f < 18446744073709551616 := by
  unfold val
  cases e : look b f with
  | none => simp
  | some m =>
    obtain ⟨x, hx, rfl⟩ := look_mem b f m e
    exact h x hx
theorem InR.put : ∀ {b : List M} {f : F} {n : Int}, InR b → (0 ≤ n ∧ n < 18446744073709551616) → InR (putB b f n)
  | [], f, n, _, hn => by rw [putB]; intro x hx; rw [List.mem_singleton] at hx; subst hx; exact hn
  | (g, m) :: r, f, n, h, hn => by
    rw [putB]
    have hc := h.cons
    split
    · intro x hx
      rcases List.mem_cons.1 hx with rfl | hx
      · exact hc.1
      · exact InR.put hc.2 hn x hx
    · split
      · intro x hx
        rcases List.mem_cons.1 hx with rfl | hx
        · exact W64_range _
        · exact hc.2 x hx
      · intro x hx
        rcases List.mem_cons.1 hx with rfl | hx
        · exact hn
        · exact h x hx
theorem val_put {b : List M} (hs : Strict b) (hb : InR b) (g : F) (n : Int) (hn : 0 ≤ n ∧ n < 18446744073709551616) (f : F) : val (putB b g n) f = W64 (val b f + if fC g f = 0 then n else 0) := by
  have hv := val_range hb f
  unfold val at hv ⊢
  rw [look_put b g n f hs]
  by_cases e : f = g
  · subst e
    rw [if_pos rfl, if_pos (fC_self f)]
    cases look b f with
    | none => simp only [Option.getD_some, Option.getD_none, Int.zero_add]; exact (W64_in hn).symm
    | some m => rfl
  · rw [if_neg e, if_neg (fun h => e (fC_eq h).symm), Int.add_zero, W64_in hv]
theorem val_bag : ∀ (l b : List M), Strict b → InR b → InR l → InR (bagB b l) ∧ ∀ f, val (bagB b l) f = W64 (val b f + tot l f)
  | [], b, hs, hb, _ => ⟨hb, fun f => by rw [tot, Int.add_zero, W64_in (val_range hb f)]; rfl⟩
  | x :: l, b, hs, hb, hl => by
    have hc := hl.cons
    obtain ⟨h1, h2⟩ := val_bag l (putB b x.1 x.2) (strict_put _ _ _ hs) (hb.put hc.1) hc.2
    refine ⟨h1, fun f => ?_⟩
    have e : bagB b (x :: l) = bagB (putB b x.1 x.2) l := rfl
    rw [e, h2 f, val_put hs hb x.1 x.2 hc.1 f, tot]
    simp only [W64_is]
    omega
theorem InR.bagOf {l : List M} (hl : InR l) : InR (bagOf l) := fun x hx => (val_bag l [] List.Pairwise.nil (fun x hx => by simp at hx) hl).1 x (List.mem_filter.1 hx).1
theorem InR.append {a b : List M} (ha : InR a) (hb : InR b) : InR (a ++ b) := fun x hx => (List.mem_append.1 hx).elim (ha x) (hb x)
theorem InR.filter {a : List M} (ha : InR a) (p : M → Bool) : InR (a.filter p) := fun x hx => ha x (List.mem_filter.1 hx).1
end Go.Proofs.Ytfeeahjaeapkoaa.Ext
end

section
namespace Go.Proofs.Ytfeeahjaeapkoaa.Ext
set_option linter.unusedVariables false
set_option linter.unusedSimpArgs false
open Go.RowKit Go.Proofs.YtfeeahjaeapkoaaW.PrintWords Go.Proofs.YtfeeahjaeapkoaaW.PrintLast Go.Proofs.YtfeeahjaeapkoaaW.PrintMore Go.Proofs.Ytfeeahjaeapkoaa.Lib Go.Proofs.Ytfeeahjaeapkoaa.P
theorem infoMany : (Try.prog.info? 40).map (fun i => (i.zero, i.size, i.bytes)) = some (some (.agg #[.int .i64 0, .slice none 0 0, .slice none 0 0, .int .u64 0]), 4, 64) := by kernel_rfl
set_option maxRecDepth 100000 in
set_option maxHeartbeats 400000 in
theorem all_calls (a b c : Value) (ha : a.oneCell' = true) (hb : b.oneCell' = true) (hc : c.oneCell' = true) (w : World) : Calls Try.prog 34 #[.agg #[a, b, c]] w fun e w' => e = .returned (.bool true) ∧ Below w.heap.size w w' := by
  go_enter Try.func34, Try.ntmps34
  go_wp2_with (first | (((with_reducible refine gate_dst (N := 1) rfl ?_); refine box_event ?hg (N := 1) ?hd (cs := #[a, b, c]) (t := 27) ?hr ?_; (case hd => rfl); (case hg => rfl); (case hr => first | (go_simp; done) | (go_simp; rfl)); intro g1 hg w1 hbox hb; have GE1 := Aside0.mk (Nat.le_of_eq hg.symm); have BK1 := Aside0.mk hbox; have HX1 := Aside0.mk hb; clear hg hbox hb)) | fail)
  go_ret
  exact ⟨rfl, HX1.out⟩
theorem kqC_get {w : World} {A : Option Addr} {n : Nat} {xs : List Q} (h : kq.C w A n xs) (i : Nat) (hi : i < n) :
    ∃ ad, A = some ad ∧ w.cell? (ad.add (i * 4)) = some (.int .i64 (xs.getD i zQ).1) ∧ w.cell? ⟨(ad.add (i * 4)).block, (ad.add (i * 4)).off + 1, none⟩ = some (.slice (xs.getD i zQ).2.1.1 (xs.getD i zQ).2.1.2.1 (xs.getD i zQ).2.1.2.2) ∧ w.cell? ⟨(ad.add (i * 4)).block, (ad.add (i * 4)).off + 2, none⟩ = some (.slice (xs.getD i zQ).2.2.1.1 (xs.getD i zQ).2.2.1.2.1 (xs.getD i zQ).2.2.1.2.2) ∧ w.cell? ⟨(ad.add (i * 4)).block, (ad.add (i * 4)).off + 3, none⟩ = some (.int .u64 (xs.getD i zQ).2.2.2) := by
  obtain ⟨ad, cs, e, hcl, hK, hcc⟩ := Kd.C_get h zQ (i : Int) (by omega) (by omega)
  rw [Int.toNat_natCast] at hK hcc
  have e1 : cs = encQ (xs.getD i zQ) := by
    obtain ⟨_, _, rfl, rfl, _, _, rfl, rfl, _, _, rfl, rfl, rfl⟩ := hK; rfl
  subst e1
  have hc : ∀ j u, (encQ (xs.getD i zQ))[j]? = some u → w.cell? (ad.add (i * 4 + j)) = some u := hcc
  exact ⟨ad, e, hc 0 _ rfl, by rw [← add_field _ _ 1 (by omega)]; exact hc 1 _ rfl, by rw [← add_field _ _ 2 (by omega)]; exact hc 2 _ rfl, by rw [← add_field _ _ 3 (by omega)]; exact hc 3 _ rfl⟩
structure TakeOk (W : World) (ls : List Q) (f : FuncId) (cap : Array Value) (tk : Q → Bool) : Prop where
  ok : ∃ fn, Try.prog.funcs[f]? = some fn ∧ (fn.name == "runtime.NumGoroutine") = false ∧ fn.body.isSome = true
  calls : ∀ w, Below W.heap.size W w → ∀ q ∈ ls, Calls Try.prog f (#[] ++ #[qV q] ++ cap) w fun e w' => e = .returned (.bool (tk q)) ∧ Below w.heap.size w w'
theorem pre_fC (dec : Q → F) : Pre (fun p q => fC (dec p) (dec q)) where
  asym := fun x y h1 h2 => by have := fC_anti (dec x) (dec y); omega
  trans := fun x y z h1 h2 h3 => by
    have a1 := fC_anti (dec x) (dec y)
    have a2 := fC_anti (dec y) (dec z)
    have a3 := fC_anti (dec x) (dec z)
    have v1 := fC_vals (dec x) (dec y)
    have v2 := fC_vals (dec y) (dec z)
    have v3 := fC_vals (dec x) (dec z)
    by_cases e1 : fC (dec x) (dec y) = 0
    · have := fC_eq e1; rw [this] at h3; exact h2 h3
    · by_cases e2 : fC (dec y) (dec z) = 0
      · have := fC_eq e2; rw [← this] at h3; exact h1 h3
      · have := fC_trans (a := dec z) (b := dec y) (c := dec x) (by omega) (by omega)
        omega
theorem dec_of {w w4 : World} {g : Nat} {q : Q} {x : F} (h : Fl w q x) (hb : Below w.heap.size w w4) (hg : w.heap.size ≤ g) : Dec w4 g q x :=
  ⟨h.t, h.dn, h.dc, Kd.C_foot_came (Kd.heap_scalar) h.d hb hg, h.mn, h.mc, Kd.C_foot_came (Kd.heap_scalar) h.m hb hg, h.dl, h.ml⟩
theorem below_drewN (w : World) (n : Nat) : Below w.heap.size w (w.drewN n) := pw_below_drewN (Below.refl _ _) n
set_option maxRecDepth 100000 in
set_option maxHeartbeats 1600000 in
theorem bag_calls (K : Nat) (hK : K ≤ 1099511627776) (hsort : SortUpto K) (n c : Nat) (A : Option Addr) (ls : List Q) (f : FuncId) (cap : Array Value) (tk : Q → Bool) (w : World) (hC : kq.C w A n ls) (hn : n ≤ K) (htk : TakeOk w ls f cap tk) (dec : Q → F) (hdec : ∀ q ∈ ls, Fl w q (dec q)) :
    Calls Try.prog 33 #[.slice A n c, .func (.func f) #[] cap] w fun e w' => ∃ v, e = .returned v ∧ k40.R 40 w' w.heap.size (fun _ => True) v ((bagOf ((ls.filter tk).map fun q => (dec q, q.2.2.2))).map s40) ∧ Below w.heap.size w w' := by
  have HDec := Aside0.mk hdec
  have HSort := Aside0.mk hsort
  have HC := Aside0.mk hC
  have HN := Aside0.mk (show ls.length = n from hC.1)
  obtain ⟨fn, hf, hname, hbody⟩ := htk.ok
  have HF := Aside0.mk hf
  have HNm := Aside0.mk hname
  have HBd := Aside0.mk hbody
  have HTk := Aside0.mk htk.calls
  clear hC hf hname hbody htk hdec hsort
  have HB := Aside0.mk (Below.refl w.heap.size w)
  go_enter Try.func33, Try.ntmps33
  go_wp2_with fail
  go_loopw [5, 13] (fun v5 v13 w' => ∃ (i : Nat) (v : Value), i ≤ n ∧ v5 = v ∧ v13 = .int .i64 i ∧ Aside0 (kq.R 40 w' w.heap.size (fun _ => True) v ((ls.take i).filter tk)) ∧ Aside0 (Below w.heap.size w w')) (fun _ v13 _ => n - (intOf v13).toNat)
  case atStart => exact ⟨0, _, Nat.zero_le _, rfl, rfl, ⟨Kd.R_nil _ _ _ _ _⟩, HB⟩
  case round =>
    clear HB
    obtain ⟨i, v, hi, rfl, rfl, HR, HB⟩ := hrel
    by_cases hlt : i < n
    · have hii : (i : Int) < (n : Int) := by omega
      obtain ⟨ad, e, d0, d1, d2, d3⟩ := kqC_get (Kd.C_below HC.out HB.out) i hlt
      subst e
      have HT := Aside0.mk (show (ls.take (i + 1)).filter tk = (ls.take i).filter tk ++ if tk (ls.getD i zQ) = true then [ls.getD i zQ] else [] by
        have := HN.out
        rw [List.take_succ_eq_append_getElem (by omega), List.getD_eq_getElem?_getD, List.getElem?_eq_getElem (by omega), List.filter_append, List.filter_cons, List.filter_nil]; rfl)
      have HM := Aside0.mk (show ls.getD i zQ ∈ ls by
        have := HN.out
        rw [List.getD_eq_getElem?_getD, List.getElem?_eq_getElem (by omega)]; exact List.getElem_mem _)
      generalize ls.getD i zQ = q at *
      have HTq := Aside0.mk (fun w1 (h : Below w.heap.size w w1) => HTk.out w1 h q HM.out)
      clear HM
      generalize tk q = bt at HT HTq
      go_wp2_with (first
        | (((with_reducible refine gate_dst (N := 7) rfl ?_); refine box_event ?hg (N := 7) ?hd (cs := #[.int .i64 0, .slice none 0 0, .slice none 0 0, .int .u64 0]) (t := 40) ?hr ?_; (case hd => rfl); (case hg => rfl); (case hr => first | (go_simp; done) | (go_simp; rfl)); intro g1 hg w1 hbox hb; have GE1 := Aside0.mk (Nat.le_of_eq hg.symm); have BK1 := Aside0.mk hbox; have HX1 := Aside0.mk hb; clear hg hbox hb); have HB1 := Aside0.mk (below_then HB.out HB.out.size HX1.out); have HR1 := Aside0.mk (Kd.R_below HR.out HX1.out); have HG1 := Aside0.mk (Nat.le_trans HB.out.size GE1.out); (have hg1_0 : w1.cell? ⟨g1, 0, none⟩ = some (.int .i64 0) := (blk_cell BK1.out 0).trans rfl; have hfg1_0 := blk_frozen BK1.out 0; have hg1_1 : w1.cell? ⟨g1, 1, none⟩ = some (.slice none 0 0) := (blk_cell BK1.out 1).trans rfl; have hfg1_1 := blk_frozen BK1.out 1; have hg1_2 : w1.cell? ⟨g1, 2, none⟩ = some (.slice none 0 0) := (blk_cell BK1.out 2).trans rfl; have hfg1_2 := blk_frozen BK1.out 2; have hg1_3 : w1.cell? ⟨g1, 3, none⟩ = some (.int .u64 0) := (blk_cell BK1.out 3).trans rfl; have hfg1_3 := blk_frozen BK1.out 3))
        | ((with_reducible refine gate_dst (N := 20) rfl ?_); refine goesLv_ (some 20) rfl rfl HF.out HNm.out HBd.out #[qV q] rfl rfl (by simp only [List.map_toArray, List.map_cons, List.map_nil]; rfl) ?_; have HXs := Aside0.mk (show Below wr.heap.size wr ((((w1.setCell ⟨g1, 0, none⟩ (.int .i64 (q).1)).setCell ⟨g1, 1, none⟩ (.slice (q).2.1.1 (q).2.1.2.1 (q).2.1.2.2)).setCell ⟨g1, 2, none⟩ (.slice (q).2.2.1.1 (q).2.2.1.2.1 (q).2.2.1.2.2)).setCell ⟨g1, 3, none⟩ (.int .u64 (q).2.2.2)) from below_set (below_set (below_set (below_set HX1.out GE1.out) GE1.out) GE1.out) GE1.out); have BKs := Aside0.mk (show (((((w1.setCell ⟨g1, 0, none⟩ (.int .i64 (q).1)).setCell ⟨g1, 1, none⟩ (.slice (q).2.1.1 (q).2.1.2.1 (q).2.1.2.2)).setCell ⟨g1, 2, none⟩ (.slice (q).2.2.1.1 (q).2.2.1.2.1 (q).2.2.1.2.2)).setCell ⟨g1, 3, none⟩ (.int .u64 (q).2.2.2))).heap[g1]? = some (.cells #[.int .i64 q.1, .slice q.2.1.1 q.2.1.2.1 q.2.1.2.2, .slice q.2.2.1.1 q.2.2.1.2.1 q.2.2.1.2.2, .int .u64 q.2.2.2] 40 (0, 0)) from (blk_set (blk_set (blk_set (blk_set BK1.out 0 _) 1 _) 2 _) 3 _)); clear hg1_0 hfg1_0 hg1_1 hfg1_1 hg1_2 hfg1_2 hg1_3 hfg1_3; generalize ((((w1.setCell ⟨g1, 0, none⟩ (.int .i64 (q).1)).setCell ⟨g1, 1, none⟩ (.slice (q).2.1.1 (q).2.1.2.1 (q).2.1.2.2)).setCell ⟨g1, 2, none⟩ (.slice (q).2.2.1.1 (q).2.2.1.2.1 (q).2.2.1.2.2)).setCell ⟨g1, 3, none⟩ (.int .u64 (q).2.2.2)) = w2 at *; have HBs := Aside0.mk (below_then HB.out HB.out.size HXs.out); refine (HTq.out _ HBs.out).mono ?_; rintro e w3 ⟨rfl, hb⟩; refine ⟨_, rfl, ?_⟩; have HX3 := Aside0.mk (below_then HXs.out HXs.out.size hb); have HB3 := Aside0.mk (below_then HB.out HB.out.size HX3.out); have HR3 := Aside0.mk (Kd.R_below HR.out HX3.out); have BK3 := Aside0.mk (blk_below BKs.out hb); clear hb; (have hg1_0 : w3.cell? ⟨g1, 0, none⟩ = some (.int .i64 (q).1) := (blk_cell BK3.out 0).trans rfl; have hfg1_0 := blk_frozen BK3.out 0; have hg1_1 : w3.cell? ⟨g1, 1, none⟩ = some (.slice (q).2.1.1 (q).2.1.2.1 (q).2.1.2.2) := (blk_cell BK3.out 1).trans rfl; have hfg1_1 := blk_frozen BK3.out 1; have hg1_2 : w3.cell? ⟨g1, 2, none⟩ = some (.slice (q).2.2.1.1 (q).2.2.1.2.1 (q).2.2.1.2.2) := (blk_cell BK3.out 2).trans rfl; have hfg1_2 := blk_frozen BK3.out 2; have hg1_3 : w3.cell? ⟨g1, 3, none⟩ = some (.int .u64 (q).2.2.2) := (blk_cell BK3.out 3).trans rfl; have hfg1_3 := blk_frozen BK3.out 3); cases bt)
        | ((with_reducible refine gate_builtin (b := .append) (xs := #[.tmp 21, .tmp 23]) rfl ?_); at_builtin; refine Kd.R_append kq (w0 := w) w.heap.size rfl (.tmp 21) (.tmp 23) 36 40 (.agg #[.int .i64 0, .slice none 0 0, .slice none 0 0, .int .u64 0]) 64 rfl Try.underlying36 infoMany rfl (by decide) (by omega) u5 ((ls.take i).filter tk) q (encQ q) (fun _ => True) (fun _ => False) rfl rfl (kq_M.2 rfl) (fun _ hk => hk.elim) (fun _ _ => trivial) HR3.out HB3.out HB3.out.size (by have := List.length_filter_le tk (ls.take i); have := List.length_take_le i ls; omega) ?_; intro v4 w4 ho4 hb4 hg4 ha4; have HO4 := Aside0.mk ho4; have HB4 := Aside0.mk hb4; clear ho4 hb4 hg4 ha4; clear hg1_0 hfg1_0 hg1_1 hfg1_1 hg1_2 hfg1_2 hg1_3 hfg1_3)
        | fail)
      · go_roundw
        case rel => exact ⟨i + 1, _, by omega, rfl, by go_num, ⟨by rw [HT.out, if_neg (by decide), List.append_nil]; exact HR3.out⟩, HB3⟩
        case measure => simp [intOf]; omega
      · go_roundw
        case rel => exact ⟨i + 1, _, by omega, rfl, by go_num, ⟨by rw [HT.out, if_pos rfl]; exact HO4.out⟩, HB4⟩
        case measure => simp [intOf]; omega
    · have e0 : i = n := by omega
      subst e0
      have HL := Aside0.mk (show (ls.take ls.length).filter tk = ls.filter tk by rw [List.take_length])
      have hii : decide (i < i) = false := decide_eq_false (by omega)
      have HD4 := Aside0.mk (fun q (h : q ∈ ls.filter tk) => HDec.out q (List.mem_filter.1 h).1)
      have HLn := Aside0.mk (List.length_filter_le tk ls)
      replace HR := Aside0.mk (show kq.R 40 wr w.heap.size (fun _ => True) u5 (ls.filter tk) by have := HR.out; rw [← HN.out, HL.out] at this; exact this)
      generalize hLd : ls.filter tk = L at *
      have HLd := Aside0.mk hLd
      clear HL hlt hLd
      go_wp2_with fail
      rcases R_cases HR.out with ⟨rfl, rfl⟩ | ⟨g, c5, rfl, hg1, hg2⟩
      · go_wp2_with (first | (go_at_call 45; refine (sort_nil _ _).mono ?_; rintro e w2 ⟨rfl, hw2⟩; subst hw2) | fail)
        go_loopw [8, 30] (fun v8 v30 w' => v8 = .int .i64 0 ∧ v30 = .int .i64 0 ∧ w2 = w') (fun _ _ _ => 0)
        case atStart => exact ⟨rfl, rfl, rfl⟩
        case round =>
          obtain ⟨rfl, rfl, rfl⟩ := hrel
          go_wp2_with (first | (go_at_call 48; refine (del_nil _ _).mono ?_; rintro e w3 ⟨rfl, hw3⟩; subst hw3) | fail)
          go_ret
          refine ⟨_, rfl, ?_, HB.out⟩
          rw [HLd.out]
          exact Kd.R_nil _ _ _ _ _
      · have HDc := Aside0.mk (fun q (h : q ∈ L) => dec_of (HD4.out q h) HB.out hg1)
        refine (HSort.out _ (pre_fC dec) _ _ Try.func46 rfl rfl g c5 L.length L wr w.heap.size _ HR.out (Nat.le_trans HLn.out (by rw [HN.out]; exact hn)) (cmp_ok wr g L dec HDc.out)).mono ?_
        rintro e w5 ⟨rfl, zs, hrs, hso⟩
        have HI0 := Aside0.mk (show Inv2 w wr w5 w.heap.size g L.length c5 zs zs (zs.map fun q => (dec q, q.2.2.2)) 0 from ⟨hrs.row, fun _ _ => rfl, fun j hj => absurd hj (Nat.not_lt_zero j), HB.out.grown hrs.grown HB.out.size (fun k hk => by injection hk with hk; omega), hrs.grown⟩)
        have HSo := Aside0.mk (show SortedM (zs.map fun q => (dec q, q.2.2.2)) from List.Pairwise.map _ (fun _ _ h => h) hso)
        have HPe := Aside0.mk hrs.perm
        have HZl := Aside0.mk hrs.perm.length_eq
        have HDz := Aside0.mk (fun q (h : q ∈ zs) => HDc.out q (hrs.perm.mem_iff.1 h))
        clear hrs hso HR HDc HD4
        generalize L.length = m at *
        go_wp2_with fail
        go_loopw [8, 30] (fun v8 v30 w' => ∃ (i : Nat) (ys : List Q), v8 = .int .i64 (upB (zs.map fun q => (dec q, q.2.2.2)) i).length ∧ v30 = .int .i64 i ∧ i ≤ m ∧ Aside0 (Inv2 w wr w' w.heap.size g m c5 zs ys (zs.map fun q => (dec q, q.2.2.2)) i)) (fun _ v30 _ => m - (intOf v30).toNat)
        case atStart => exact ⟨0, zs, rfl, rfl, Nat.zero_le _, HI0⟩
        case round =>
          clear HI0
          obtain ⟨k, ys, rfl, rfl, hkm, HI⟩ := hrel
          by_cases hk : k < m
          · have hki : (k : Int) < (m : Int) := by omega
            obtain ⟨d0, d1, d2, d3⟩ := kq_get HI.out.row k (by omega)
            simp only [encSL] at d1 d2
            have HBg := Aside0.mk HI.out.below
            have hkl : k < zs.length := by have := HZl.out; have := (Kd.R_reads' HI.out.row).1; omega
            have HMz := Aside0.mk (show zs.getD k zQ ∈ zs by rw [List.getD_eq_getElem?_getD, List.getElem?_eq_getElem hkl]; exact List.getElem_mem _)
            have HQ := Aside0.mk (show ys.getD k zQ = zs.getD k zQ from HI.out.rest k (Nat.le_refl k))
            have HFq := Aside0.mk ((HDz.out _ HMz.out).fl HI.out.grown)
            rw [HQ.out] at d0 d1 d2 d3
            have HLi := Aside0.mk (show (zs.map fun q => (dec q, q.2.2.2)).length = m ∧ ∀ h, (zs.map fun q => (dec q, q.2.2.2))[k]'h = (dec (zs.getD k zQ), (zs.getD k zQ).2.2.2) from ⟨by rw [List.length_map]; have := HZl.out; have := (Kd.R_reads' HI.out.row).1; omega, fun h => by rw [List.getElem_map, List.getD_eq_getElem?_getD, List.getElem?_eq_getElem hkl]; rfl⟩)
            clear HMz HQ
            generalize zs.getD k zQ = q at *
            generalize dec q = x at *
            go_wp2_with (first
              | (((with_reducible refine gate_dst (N := 10) rfl ?_); refine box_event ?hg (N := 10) ?hd (cs := #[.int .i64 0, .slice none 0 0, .slice none 0 0, .int .u64 0]) (t := 40) ?hr ?_; (case hd => rfl); (case hg => rfl); (case hr => first | (go_simp; done) | (go_simp; rfl)); intro g1 hg w1 hbox hb; have GE1 := Aside0.mk (Nat.le_of_eq hg.symm); have BK1 := Aside0.mk hbox; have HX1 := Aside0.mk hb; clear hg hbox hb); have HI1 := Aside0.mk (HI.out.step HX1.out); have HG1 := Aside0.mk (Nat.le_trans HI.out.below.size GE1.out); (have hg1_0 : w1.cell? ⟨g1, 0, none⟩ = some (.int .i64 0) := (blk_cell BK1.out 0).trans rfl; have hfg1_0 := blk_frozen BK1.out 0; have hg1_1 : w1.cell? ⟨g1, 1, none⟩ = some (.slice none 0 0) := (blk_cell BK1.out 1).trans rfl; have hfg1_1 := blk_frozen BK1.out 1; have hg1_2 : w1.cell? ⟨g1, 2, none⟩ = some (.slice none 0 0) := (blk_cell BK1.out 2).trans rfl; have hfg1_2 := blk_frozen BK1.out 2; have hg1_3 : w1.cell? ⟨g1, 3, none⟩ = some (.int .u64 0) := (blk_cell BK1.out 3).trans rfl; have hfg1_3 := blk_frozen BK1.out 3))
              | fail)
            have HX2 := Aside0.mk (show Below wr.heap.size wr (((((w1.setCell ⟨g1, 0, none⟩ (.int .i64 (q).1)).setCell ⟨g1, 1, none⟩ (.slice (q).2.1.1 (q).2.1.2.1 (q).2.1.2.2)).setCell ⟨g1, 2, none⟩ (.slice (q).2.2.1.1 (q).2.2.1.2.1 (q).2.2.1.2.2)).setCell ⟨g1, 3, none⟩ (.int .u64 (q).2.2.2))) from below_set (below_set (below_set (below_set HX1.out GE1.out) GE1.out) GE1.out) GE1.out)
            have BK2 := Aside0.mk (show (((((w1.setCell ⟨g1, 0, none⟩ (.int .i64 (q).1)).setCell ⟨g1, 1, none⟩ (.slice (q).2.1.1 (q).2.1.2.1 (q).2.1.2.2)).setCell ⟨g1, 2, none⟩ (.slice (q).2.2.1.1 (q).2.2.1.2.1 (q).2.2.1.2.2)).setCell ⟨g1, 3, none⟩ (.int .u64 (q).2.2.2))).heap[g1]? = some (.cells #[.int .i64 q.1, .slice q.2.1.1 q.2.1.2.1 q.2.1.2.2, .slice q.2.2.1.1 q.2.2.1.2.1 q.2.2.1.2.2, .int .u64 q.2.2.2] 40 (0, 0)) from blk_set (blk_set (blk_set (blk_set BK1.out 0 _) 1 _) 2 _) 3 _)
            have HI2 := Aside0.mk (HI.out.step HX2.out)
            have HFq2 := Aside0.mk (HFq.out.below HX2.out)
            clear hg1_0 hfg1_0 hg1_1 hfg1_1 hg1_2 hfg1_2 hg1_3 hfg1_3 d0 d1 d2 d3 HI HI1 HBg HFq BK1 HX1
            generalize ((((w1.setCell ⟨g1, 0, none⟩ (.int .i64 (q).1)).setCell ⟨g1, 1, none⟩ (.slice (q).2.1.1 (q).2.1.2.1 (q).2.1.2.2)).setCell ⟨g1, 2, none⟩ (.slice (q).2.2.1.1 (q).2.2.1.2.1 (q).2.2.1.2.2)).setCell ⟨g1, 3, none⟩ (.int .u64 (q).2.2.2)) = w2 at *
            go_cut [8, 47] (fun s8 s47 wx => ∃ b : Bool, s8 = .int .i64 (upB (zs.map fun q => (dec q, q.2.2.2)) k).length ∧ s47 = .bool b ∧ Aside0 (Below w2.heap.size w2 wx) ∧ Aside0 (b = true → ∃ n, (upB (zs.map fun q => (dec q, q.2.2.2)) k).length = n + 1 ∧ fC ((upB (zs.map fun q => (dec q, q.2.2.2)) k).getD n zM).1 x = 0) ∧ Aside0 (b = false → ∀ n, (upB (zs.map fun q => (dec q, q.2.2.2)) k).length = n + 1 → fC ((upB (zs.map fun q => (dec q, q.2.2.2)) k).getD n zM).1 x ≠ 0))
            case first =>
              have HUl := Aside0.mk (upB_len (zs.map fun q => (dec q, q.2.2.2)) k (by have := HLi.out.1; omega))
              rcases hU : (upB (zs.map fun q => (dec q, q.2.2.2)) k).length with _ | n
              · have HU := Aside0.mk hU
                clear hU
                go_wp2_with fail
                go_quiet (fail)
                go_wp2_with fail
                go_meet
                exact ⟨false, by rw [HU.out], rfl, ⟨below_drewN _ _⟩, ⟨fun h => by cases h⟩, ⟨fun _ n h => by rw [HU.out] at h; cases h⟩⟩
              · have HU := Aside0.mk hU
                have HO := Aside0.mk (HI2.out.own n (by omega))
                obtain ⟨d0, d1, d2, d3⟩ := kq_get HI2.out.row n (by have := HUl.out; omega)
                simp only [encSL] at d1 d2
                have HFy := Aside0.mk (OwnD.fl HO.out)
                have hnm : (n : Int) < (m : Int) := by have := HUl.out; omega
                have hmb : m ≤ 1099511627776 := by have := HLn.out; have := HN.out; omega
                have hn0 : (0 : Int) < (n : Int) + 1 := by omega
                have hwn : wrap64 (n : Int) = (n : Int) := by unfold wrap64; omega
                clear hU HO
                generalize hyy : (upB (zs.map fun q => (dec q, q.2.2.2)) k).getD n zM = y at *
                have HY := Aside0.mk hyy
                clear hyy
                generalize ys.getD n zQ = p at *
                (have hg1_0 : w2.cell? ⟨g1, 0, none⟩ = some (.int .i64 q.1) := (blk_cell BK2.out 0).trans rfl; have hfg1_0 := blk_frozen BK2.out 0; have hg1_1 : w2.cell? ⟨g1, 1, none⟩ = some (.slice q.2.1.1 q.2.1.2.1 q.2.1.2.2) := (blk_cell BK2.out 1).trans rfl; have hfg1_1 := blk_frozen BK2.out 1; have hg1_2 : w2.cell? ⟨g1, 2, none⟩ = some (.slice q.2.2.1.1 q.2.2.1.2.1 q.2.2.1.2.2) := (blk_cell BK2.out 2).trans rfl; have hfg1_2 := blk_frozen BK2.out 2; have hg1_3 : w2.cell? ⟨g1, 3, none⟩ = some (.int .u64 q.2.2.2) := (blk_cell BK2.out 3).trans rfl; have hfg1_3 := blk_frozen BK2.out 3)
                go_wp2_with fail
                refine start_ (n := 14) (S := fun w' => w'.cell? ⟨g, n * 4, none⟩ = some (.int .i64 p.1) ∧ w'.cell? ⟨g, n * 4 + 1, none⟩ = some (.slice p.2.1.1 p.2.1.2.1 p.2.1.2.2) ∧ w'.cell? ⟨g, n * 4 + 2, none⟩ = some (.slice p.2.2.1.1 p.2.2.1.2.1 p.2.2.1.2.2) ∧ w'.cell? ⟨g1, 0, none⟩ = some (.int .i64 q.1) ∧ w'.cell? ⟨g1, 1, none⟩ = some (.slice q.2.1.1 q.2.1.2.1 q.2.1.2.2) ∧ w'.cell? ⟨g1, 2, none⟩ = some (.slice q.2.2.1.1 q.2.2.1.2.1 q.2.2.1.2.2)) (ds := []) #[false, false, false, false, false, false, false, false, false, false, false, false, false, false] (by kernel_rfl) rfl rfl ⟨d0, d1, d2, hg1_0, hg1_1, hg1_2⟩ (fun hHeld => ?_)
                refine pure_ (i := 0) (N := some 34) (v := ?_) (a' := ?_) #[true, false, false, false, false, false, false, false, false, false, false, false, false, false] rfl rfl (by kernel_rfl) (fun _ _ _ h => h) (Or.inl ⟨by rfl, ?_⟩) ?_ ?_
                rotate_left
                · intro w'
                  go_simp
                  with_reducible rfl
                rotate_left
                · simp only [Act.put, List.setIfInBounds_toArray, List.set_cons_zero, List.set_cons_succ, i64_w, i32_w]
                  rfl
                refine pure_ (i := 1) (N := some 35) (v := ?_) (a' := ?_) #[true, true, false, false, false, false, false, false, false, false, false, false, false, false] rfl rfl (by kernel_rfl) (fun _ _ _ h => h) (Or.inl ⟨by rfl, ?_⟩) ?_ ?_
                rotate_left
                · intro w'
                  go_simp
                  with_reducible rfl
                rotate_left
                · simp only [Act.put, List.setIfInBounds_toArray, List.set_cons_zero, List.set_cons_succ, i64_w, i32_w]
                  rfl
                refine pure_ (i := 2) (N := some 36) (v := ?_) (a' := ?_) #[true, true, true, false, false, false, false, false, false, false, false, false, false, false] rfl rfl (by kernel_rfl) (fun _ _ _ h => h) (Or.inl ⟨by rfl, ?_⟩) ?_ ?_
                rotate_left
                · intro w'
                  go_simp
                  with_reducible rfl
                rotate_left
                · simp only [Act.put, List.setIfInBounds_toArray, List.set_cons_zero, List.set_cons_succ, i64_w, i32_w]
                  rfl
                refine pure_ (i := 3) (N := some 37) (v := ?_) (a' := ?_) #[true, true, true, true, false, false, false, false, false, false, false, false, false, false] rfl rfl (by kernel_rfl) (fun _ _ _ h => h) (Or.inl ⟨by rfl, ?_⟩) ?_ ?_
                rotate_left
                · intro w'
                  go_simp
                  with_reducible rfl
                rotate_left
                · simp only [Act.put, List.setIfInBounds_toArray, List.set_cons_zero, List.set_cons_succ, i64_w, i32_w]
                  rfl
                refine pure_ (i := 4) (N := some 38) (v := ?_) (a' := ?_) #[true, true, true, true, true, false, false, false, false, false, false, false, false, false] rfl rfl (by kernel_rfl) (fun _ _ _ h => h) (Or.inl ⟨by rfl, ?_⟩) ?_ ?_
                rotate_left
                · intro w'
                  go_simp
                  with_reducible rfl
                rotate_left
                · simp only [Act.put, List.setIfInBounds_toArray, List.set_cons_zero, List.set_cons_succ, i64_w, i32_w]
                  rfl
                refine pure_ (i := 5) (N := some 39) (v := ?_) (a' := ?_) #[true, true, true, true, true, true, false, false, false, false, false, false, false, false] rfl rfl (by kernel_rfl) (fun _ _ _ h => h) (Or.inl ⟨by rfl, ?_⟩) ?_ ?_
                rotate_left
                · intro w'
                  go_simp
                  with_reducible rfl
                rotate_left
                · simp only [Act.put, List.setIfInBounds_toArray, List.set_cons_zero, List.set_cons_succ, i64_w, i32_w]
                  rfl
                refine pure_ (i := 6) (N := some 40) (v := ?_) (a' := ?_) #[true, true, true, true, true, true, true, false, false, false, false, false, false, false] rfl rfl (by kernel_rfl) (fun _ _ _ h => h) (Or.inl ⟨by rfl, ?_⟩) ?_ ?_
                rotate_left
                · intro w'
                  go_simp
                  with_reducible rfl
                rotate_left
                · simp only [Act.put, List.setIfInBounds_toArray, List.set_cons_zero, List.set_cons_succ, i64_w, i32_w]
                  rfl
                refine pure_ (i := 7) (N := some 41) (v := ?_) (a' := ?_) #[true, true, true, true, true, true, true, true, false, false, false, false, false, false] rfl rfl (by kernel_rfl) (fun _ _ _ h => h) (Or.inl ⟨by rfl, ?_⟩) ?_ ?_
                rotate_left
                · intro w'
                  go_simp
                  with_reducible rfl
                rotate_left
                · simp only [Act.put, List.setIfInBounds_toArray, List.set_cons_zero, List.set_cons_succ, i64_w, i32_w]
                  rfl
                refine pure_ (i := 9) (N := some 43) (v := ?_) (a' := ?_) #[true, true, true, true, true, true, true, true, false, true, false, false, false, false] rfl rfl (by kernel_rfl) (fun _ _ _ h => h) (Or.inl ⟨by rfl, ?_⟩) ?_ ?_
                rotate_left
                · intro w'
                  go_simp
                  with_reducible rfl
                rotate_left
                · simp only [Act.put, List.setIfInBounds_toArray, List.set_cons_zero, List.set_cons_succ, i64_w, i32_w]
                  rfl
                refine take_ (i := 8) (N := some 42) (v := ?_) (a' := ?_) #[true, true, true, true, true, true, true, true, true, true, false, false, false, false] rfl rfl (by kernel_rfl) (fun _ _ _ h => h) (Or.inl ⟨by rfl, ?_⟩) hHeld ?_ ?_
                rotate_left
                · rintro w' ⟨s0, s1, s2, s3, s4, s5⟩
                  go_simp
                  with_reducible rfl
                rotate_left
                · simp only [Act.put, List.setIfInBounds_toArray, List.set_cons_zero, List.set_cons_succ, i64_w, i32_w]
                  rfl
                refine take_ (i := 10) (N := some 44) (v := ?_) (a' := ?_) #[true, true, true, true, true, true, true, true, true, true, true, false, false, false] rfl rfl (by kernel_rfl) (fun _ _ _ h => h) (Or.inl ⟨by rfl, ?_⟩) hHeld ?_ ?_
                rotate_left
                · rintro w' ⟨s0, s1, s2, s3, s4, s5⟩
                  go_simp
                  with_reducible rfl
                rotate_left
                · simp only [Act.put, List.setIfInBounds_toArray, List.set_cons_zero, List.set_cons_succ, i64_w, i32_w]
                  rfl
                refine one_ (i := 11) (N := some 45) #[true, true, true, true, true, true, true, true, true, true, true, true, false, false] rfl rfl (by kernel_rfl) (by decide) (fun K hK => ?_)
                refine goes_ Try.func14 (by kernel_rfl) rfl #[.agg #[.int .i64 p.1, .slice p.2.1.1 p.2.1.2.1 p.2.1.2.2, .slice p.2.2.1.1 p.2.2.1.2.1 p.2.2.1.2.2], .agg #[.int .i64 q.1, .slice q.2.1.1 q.2.1.2.1 q.2.1.2.2, .slice q.2.2.1.1 q.2.2.1.2.1 q.2.2.1.2.2]] (by rfl) rfl rfl (by simp only [List.map_toArray, List.map_cons, List.map_nil]; rfl) ?_
                with_reducible refine (cmp_flat (HFy.out.below (below_drew (Below.refl _ _))) (HFq2.out.below (below_drew (Below.refl _ _)))).mono ?_
                rintro e w3 ⟨rfl, hb⟩
                refine ⟨_, rfl, ?_⟩
                have hbx := Aside0.mk (below_then (below_drew (Below.refl _ _)) (Nat.le_refl _) hb)
                clear hb
                refine hK.out _ _ ⟨(pw_cell_below hbx.out d0), (pw_cell_below hbx.out d1), (pw_cell_below hbx.out d2), (pw_cell_below hbx.out hg1_0), (pw_cell_below hbx.out hg1_1), (pw_cell_below hbx.out hg1_2)⟩ (fun hHeld => ?_)
                clear hK K
                refine norm_ (a' := ?_) ?_ ?_
                rotate_left
                · show Act.put _ (some 45) _ = _
                  simp only [Act.put, List.setIfInBounds_toArray, List.set_cons_zero, List.set_cons_succ, i64_w, i32_w]
                  rfl
                refine pure_ (i := 12) (N := some 46) (v := ?_) (a' := ?_) #[true, true, true, true, true, true, true, true, true, true, true, true, true, false] rfl rfl (by kernel_rfl) (fun _ _ _ h => h) (Or.inl ⟨by rfl, ?_⟩) ?_ ?_
                rotate_left
                · intro w'
                  go_simp
                  with_reducible rfl
                rotate_left
                · simp only [Act.put, List.setIfInBounds_toArray, List.set_cons_zero, List.set_cons_succ, i64_w, i32_w]
                  rfl
                refine pure_ (i := 13) (N := some 47) (v := ?_) (a' := ?_) #[true, true, true, true, true, true, true, true, true, true, true, true, true, true] rfl rfl (by kernel_rfl) (fun _ _ _ h => h) (Or.inl ⟨by rfl, ?_⟩) ?_ ?_
                rotate_left
                · intro w'
                  go_simp
                  with_reducible rfl
                rotate_left
                · simp only [Act.put, List.setIfInBounds_toArray, List.set_cons_zero, List.set_cons_succ, i64_w, i32_w]
                  rfl
                refine done_ (by kernel_rfl) ?_
                clear hmb hn0 hnm hwn
                go_wp2_with fail
                go_meet
                exact ⟨fC y.1 x == 0, by rw [HU.out], rfl, hbx, ⟨fun h => ⟨n, HU.out, by rw [HY.out]; exact eq_of_beq h⟩⟩, ⟨fun h n2 h2 => by
                  rw [HU.out] at h2
                  injection h2 with h2
                  subst h2
                  rw [HY.out]
                  exact fun h3 => by rw [h3] at h; cases h⟩⟩
            case rest =>
              obtain ⟨b, rfl, rfl, HBc, HB1, HB0⟩ := hcut
              have HI3 := Aside0.mk (HI2.out.step HBc.out)
              have HFq3 := Aside0.mk (HFq2.out.below HBc.out)
              have BK3 := Aside0.mk (blk_below BK2.out HBc.out)
              have HX3 := Aside0.mk (below_then HX2.out HX2.out.size HBc.out)
              clear HI2 HFq2 BK2 HBc HX2
              cases b with
              | true =>
                obtain ⟨n, hU, hfc⟩ := HB1.out rfl
                have HU := Aside0.mk hU
                have HUl := Aside0.mk (upB_len (zs.map fun q => (dec q, q.2.2.2)) k (by have := HLi.out.1; omega))
                have HIs := Aside0.mk (HI3.out.same HSo.out (by have := HLi.out.1; omega) HLi.out.1 hg1 n hU (by rw [HLi.out.2]; exact hfc))
                have HN3 := Aside0.mk (HI3.out.own n (by omega)).n
                have HFc := Aside0.mk hfc
                clear HB1 HB0 hfc
                rw [hU]
                obtain ⟨-, -, -, d3⟩ := kq_get HI3.out.row n (by have := HUl.out; omega)
                have hnm : (n : Int) < (m : Int) := by have := HUl.out; omega
                have hmb : m ≤ 1099511627776 := by have := HLn.out; have := HN.out; omega
                have hn0 : (0 : Int) < (n : Int) + 1 := by omega
                have hwn : wrap64 (n : Int) = (n : Int) := by unfold wrap64; omega
                clear hU
                rw [HLi.out.2] at HIs
                generalize ys.getD n zQ = p at *
                (have hg1_0 : wc.cell? ⟨g1, 0, none⟩ = some (.int .i64 q.1) := (blk_cell BK3.out 0).trans rfl; have hfg1_0 := blk_frozen BK3.out 0; have hg1_1 : wc.cell? ⟨g1, 1, none⟩ = some (.slice q.2.1.1 q.2.1.2.1 q.2.1.2.2) := (blk_cell BK3.out 1).trans rfl; have hfg1_1 := blk_frozen BK3.out 1; have hg1_2 : wc.cell? ⟨g1, 2, none⟩ = some (.slice q.2.2.1.1 q.2.2.1.2.1 q.2.2.1.2.2) := (blk_cell BK3.out 2).trans rfl; have hfg1_2 := blk_frozen BK3.out 2; have hg1_3 : wc.cell? ⟨g1, 3, none⟩ = some (.int .u64 q.2.2.2) := (blk_cell BK3.out 3).trans rfl; have hfg1_3 := blk_frozen BK3.out 3)
                obtain ⟨cs3, hcs3⟩ := Kd.R_typed HI3.out.row g rfl
                have hfz : ∀ o, wc.frozen? ⟨g, o, none⟩ = false := fun o => blk_frozen hcs3 o
                go_wp2_with fail
                refine start_ (n := 12) (S := fun w' => w'.cell? ⟨g, n * 4 + 3, none⟩ = some (.int .u64 p.2.2.2) ∧ w'.cell? ⟨g1, 3, none⟩ = some (.int .u64 q.2.2.2) ∧ ∀ o, w'.frozen? ⟨g, o, none⟩ = false) (ds := [11]) #[false, false, false, false, false, false, false, false, false, false, false, false] (by kernel_rfl) rfl rfl ⟨d3, hg1_3, hfz⟩ (fun hHeld => ?_)
                refine pure_ (i := 0) (N := some 48) (v := ?_) (a' := ?_) #[true, false, false, false, false, false, false, false, false, false, false, false] rfl rfl (by kernel_rfl) (fun _ _ _ h => h) (Or.inl ⟨by rfl, ?_⟩) ?_ ?_
                rotate_left
                · intro w'
                  go_simp
                  with_reducible rfl
                rotate_left
                · simp only [Act.put, List.setIfInBounds_toArray, List.set_cons_zero, List.set_cons_succ, i64_w, i32_w]
                  rfl
                refine pure_ (i := 1) (N := some 49) (v := ?_) (a' := ?_) #[true, true, false, false, false, false, false, false, false, false, false, false] rfl rfl (by kernel_rfl) (fun _ _ _ h => h) (Or.inl ⟨by rfl, ?_⟩) ?_ ?_
                rotate_left
                · intro w'
                  go_simp
                  with_reducible rfl
                rotate_left
                · simp only [Act.put, List.setIfInBounds_toArray, List.set_cons_zero, List.set_cons_succ, i64_w, i32_w]
                  rfl
                refine pure_ (i := 2) (N := some 50) (v := ?_) (a' := ?_) #[true, true, true, false, false, false, false, false, false, false, false, false] rfl rfl (by kernel_rfl) (fun _ _ _ h => h) (Or.inl ⟨by rfl, ?_⟩) ?_ ?_
                rotate_left
                · intro w'
                  go_simp
                  with_reducible rfl
                rotate_left
                · simp only [Act.put, List.setIfInBounds_toArray, List.set_cons_zero, List.set_cons_succ, i64_w, i32_w]
                  rfl
                refine pure_ (i := 3) (N := some 51) (v := ?_) (a' := ?_) #[true, true, true, true, false, false, false, false, false, false, false, false] rfl rfl (by kernel_rfl) (fun _ _ _ h => h) (Or.inl ⟨by rfl, ?_⟩) ?_ ?_
                rotate_left
                · intro w'
                  go_simp
                  with_reducible rfl
                rotate_left
                · simp only [Act.put, List.setIfInBounds_toArray, List.set_cons_zero, List.set_cons_succ, i64_w, i32_w]
                  rfl
                refine pure_ (i := 4) (N := some 52) (v := ?_) (a' := ?_) #[true, true, true, true, true, false, false, false, false, false, false, false] rfl rfl (by kernel_rfl) (fun _ _ _ h => h) (Or.inl ⟨by rfl, ?_⟩) ?_ ?_
                rotate_left
                · intro w'
                  go_simp
                  with_reducible rfl
                rotate_left
                · simp only [Act.put, List.setIfInBounds_toArray, List.set_cons_zero, List.set_cons_succ, i64_w, i32_w]
                  rfl
                refine pure_ (i := 6) (N := some 54) (v := ?_) (a' := ?_) #[true, true, true, true, true, false, true, false, false, false, false, false] rfl rfl (by kernel_rfl) (fun _ _ _ h => h) (Or.inl ⟨by rfl, ?_⟩) ?_ ?_
                rotate_left
                · intro w'
                  go_simp
                  with_reducible rfl
                rotate_left
                · simp only [Act.put, List.setIfInBounds_toArray, List.set_cons_zero, List.set_cons_succ, i64_w, i32_w]
                  rfl
                refine take_ (i := 5) (N := some 53) (v := ?_) (a' := ?_) #[true, true, true, true, true, true, true, false, false, false, false, false] rfl rfl (by kernel_rfl) (fun _ _ _ h => h) (Or.inl ⟨by rfl, ?_⟩) hHeld ?_ ?_
                rotate_left
                · rintro w' ⟨s0, s1, s2⟩
                  go_simp
                  with_reducible rfl
                rotate_left
                · simp only [Act.put, List.setIfInBounds_toArray, List.set_cons_zero, List.set_cons_succ, i64_w, i32_w]
                  rfl
                refine take_ (i := 7) (N := some 55) (v := ?_) (a' := ?_) #[true, true, true, true, true, true, true, true, false, false, false, false] rfl rfl (by kernel_rfl) (fun _ _ _ h => h) (Or.inl ⟨by rfl, ?_⟩) hHeld ?_ ?_
                rotate_left
                · rintro w' ⟨s0, s1, s2⟩
                  go_simp
                  with_reducible rfl
                rotate_left
                · simp only [Act.put, List.setIfInBounds_toArray, List.set_cons_zero, List.set_cons_succ, i64_w, i32_w]
                  rfl
                refine pure_ (i := 8) (N := some 56) (v := ?_) (a' := ?_) #[true, true, true, true, true, true, true, true, true, false, false, false] rfl rfl (by kernel_rfl) (fun _ _ _ h => h) (Or.inl ⟨by rfl, ?_⟩) ?_ ?_
                rotate_left
                · intro w'
                  go_simp
                  with_reducible rfl
                rotate_left
                · simp only [Act.put, List.setIfInBounds_toArray, List.set_cons_zero, List.set_cons_succ, i64_w, i32_w]
                  rfl
                refine pure_ (i := 9) (N := some 57) (v := ?_) (a' := ?_) #[true, true, true, true, true, true, true, true, true, true, false, false] rfl rfl (by kernel_rfl) (fun _ _ _ h => h) (Or.inl ⟨by rfl, ?_⟩) ?_ ?_
                rotate_left
                · intro w'
                  go_simp
                  with_reducible rfl
                rotate_left
                · simp only [Act.put, List.setIfInBounds_toArray, List.set_cons_zero, List.set_cons_succ, i64_w, i32_w]
                  rfl
                refine pure_ (i := 10) (N := some 58) (v := ?_) (a' := ?_) #[true, true, true, true, true, true, true, true, true, true, true, false] rfl rfl (by kernel_rfl) (fun _ _ _ h => h) (Or.inl ⟨by rfl, ?_⟩) ?_ ?_
                rotate_left
                · intro w'
                  go_simp
                  with_reducible rfl
                rotate_left
                · simp only [Act.put, List.setIfInBounds_toArray, List.set_cons_zero, List.set_cons_succ, i64_w, i32_w]
                  rfl
                refine last_ (i := 11) (N := none) #[true, true, true, true, true, true, true, true, true, true, true, true] rfl rfl (by kernel_rfl) (by decide) (fun K hK => ?_)
                refine skip_ (w1 := ?_) (by rfl) rfl ?_ ?_
                rotate_left
                · go_simp
                  rfl
                refine hK.out _ _ ?_
                clear hK K
                refine done_ (by kernel_rfl) ?_
                have HI4 := Aside0.mk (HIs.out.step (below_drew (Below.refl _ _)))
                have HSa := Aside0.mk (up_same HSo.out k (by have := HLi.out.1; omega) n HU.out (by rw [HLi.out.2]; exact HFc.out))
                clear HI3 HIs hHeld hfz d3 hcs3 hg1_0 hfg1_0 hg1_1 hfg1_1 hg1_2 hfg1_2 hg1_3 hfg1_3 hn0 hnm hwn
                go_wp2_with fail
                go_roundw
                case rel => exact ⟨k + 1, _, by rw [HSa.out, List.length_set, HU.out]; rfl, by go_num, by omega, HI4⟩
                case measure => simp [intOf]; omega
              | false =>
                have HUl := Aside0.mk (upB_len (zs.map fun q => (dec q, q.2.2.2)) k (by have := HLi.out.1; omega))
                have HNe := Aside0.mk (up_new HSo.out k (by have := HLi.out.1; omega) (by rw [HLi.out.2]; exact HB0.out rfl))
                have HNq := Aside0.mk (HB0.out rfl)
                generalize hUU : (upB (zs.map fun q => (dec q, q.2.2.2)) k).length = U at *
                have HU := Aside0.mk hUU
                clear hUU HB0 HB1
                have hum : (U : Int) < (m : Int) := by have := HUl.out; omega
                have hmb : m ≤ 1099511627776 := by have := HLn.out; have := HN.out; omega
                obtain ⟨d0, d1, d2, d3⟩ := kq_get HI3.out.row U (by have := HUl.out; omega)
                simp only [encSL] at d1 d2
                generalize ys.getD U zQ = r at *
                (have hg1_0 : wc.cell? ⟨g1, 0, none⟩ = some (.int .i64 q.1) := (blk_cell BK3.out 0).trans rfl; have hfg1_0 := blk_frozen BK3.out 0; have hg1_1 : wc.cell? ⟨g1, 1, none⟩ = some (.slice q.2.1.1 q.2.1.2.1 q.2.1.2.2) := (blk_cell BK3.out 1).trans rfl; have hfg1_1 := blk_frozen BK3.out 1; have hg1_2 : wc.cell? ⟨g1, 2, none⟩ = some (.slice q.2.2.1.1 q.2.2.1.2.1 q.2.2.1.2.2) := (blk_cell BK3.out 2).trans rfl; have hfg1_2 := blk_frozen BK3.out 2; have hg1_3 : wc.cell? ⟨g1, 3, none⟩ = some (.int .u64 q.2.2.2) := (blk_cell BK3.out 3).trans rfl; have hfg1_3 := blk_frozen BK3.out 3)
                obtain ⟨cs3, hcs3⟩ := Kd.R_typed HI3.out.row g rfl
                have hfz : ∀ o, wc.frozen? ⟨g, o, none⟩ = false := fun o => blk_frozen hcs3 o
                go_wp2_with fail
                refine start_ (n := 10) (S := fun w' => w'.cell? ⟨g1, 0, none⟩ = some (.int .i64 q.1) ∧ w'.cell? ⟨g1, 1, none⟩ = some (.slice q.2.1.1 q.2.1.2.1 q.2.1.2.2) ∧ w'.cell? ⟨g1, 2, none⟩ = some (.slice q.2.2.1.1 q.2.2.1.2.1 q.2.2.1.2.2) ∧ w'.cell? ⟨g1, 3, none⟩ = some (.int .u64 q.2.2.2) ∧ w'.cell? ⟨g, U * 4, none⟩ = some (.int .i64 r.1) ∧ w'.cell? ⟨g, U * 4 + 1, none⟩ = some (.slice r.2.1.1 r.2.1.2.1 r.2.1.2.2) ∧ w'.cell? ⟨g, U * 4 + 2, none⟩ = some (.slice r.2.2.1.1 r.2.2.1.2.1 r.2.2.1.2.2) ∧ w'.cell? ⟨g, U * 4 + 3, none⟩ = some (.int .u64 r.2.2.2) ∧ ∀ o, w'.frozen? ⟨g, o, none⟩ = false) (ds := [9]) #[false, false, false, false, false, false, false, false, false, false] (by kernel_rfl) rfl rfl ⟨hg1_0, hg1_1, hg1_2, hg1_3, d0, d1, d2, d3, hfz⟩ (fun hHeld => ?_)
                refine pure_ (i := 0) (N := some 59) (v := ?_) (a' := ?_) #[true, false, false, false, false, false, false, false, false, false] rfl rfl (by kernel_rfl) (fun _ _ _ h => h) (Or.inl ⟨by rfl, ?_⟩) ?_ ?_
                rotate_left
                · intro w'
                  go_simp
                  with_reducible rfl
                rotate_left
                · simp only [Act.put, List.setIfInBounds_toArray, List.set_cons_zero, List.set_cons_succ, i64_w, i32_w]
                  rfl
                refine pure_ (i := 1) (N := some 60) (v := ?_) (a' := ?_) #[true, true, false, false, false, false, false, false, false, false] rfl rfl (by kernel_rfl) (fun _ _ _ h => h) (Or.inl ⟨by rfl, ?_⟩) ?_ ?_
                rotate_left
                · intro w'
                  go_simp
                  with_reducible rfl
                rotate_left
                · simp only [Act.put, List.setIfInBounds_toArray, List.set_cons_zero, List.set_cons_succ, i64_w, i32_w]
                  rfl
                refine pure_ (i := 2) (N := some 61) (v := ?_) (a' := ?_) #[true, true, true, false, false, false, false, false, false, false] rfl rfl (by kernel_rfl) (fun _ _ _ h => h) (Or.inl ⟨by rfl, ?_⟩) ?_ ?_
                rotate_left
                · intro w'
                  go_simp
                  with_reducible rfl
                rotate_left
                · simp only [Act.put, List.setIfInBounds_toArray, List.set_cons_zero, List.set_cons_succ, i64_w, i32_w]
                  rfl
                refine pure_ (i := 5) (N := some 64) (v := ?_) (a' := ?_) #[true, true, true, false, false, true, false, false, false, false] rfl rfl (by kernel_rfl) (fun _ _ _ h => h) (Or.inl ⟨by rfl, ?_⟩) ?_ ?_
                rotate_left
                · intro w'
                  go_simp
                  with_reducible rfl
                rotate_left
                · simp only [Act.put, List.setIfInBounds_toArray, List.set_cons_zero, List.set_cons_succ, i64_w, i32_w]
                  rfl
                refine take_ (i := 3) (N := some 62) (v := ?_) (a' := ?_) #[true, true, true, true, false, true, false, false, false, false] rfl rfl (by kernel_rfl) (fun _ _ _ h => h) (Or.inl ⟨by rfl, ?_⟩) hHeld ?_ ?_
                rotate_left
                · rintro w' ⟨s0, s1, s2, s3, s4, s5, s6, s7, s8⟩
                  go_simp
                  with_reducible rfl
                rotate_left
                · simp only [Act.put, List.setIfInBounds_toArray, List.set_cons_zero, List.set_cons_succ, i64_w, i32_w]
                  rfl
                refine take_ (i := 6) (N := some 65) (v := ?_) (a' := ?_) #[true, true, true, true, false, true, true, false, false, false] rfl rfl (by kernel_rfl) (fun _ _ _ h => h) (Or.inl ⟨by rfl, ?_⟩) hHeld ?_ ?_
                rotate_left
                · rintro w' ⟨s0, s1, s2, s3, s4, s5, s6, s7, s8⟩
                  go_simp
                  with_reducible rfl
                rotate_left
                · simp only [Act.put, List.setIfInBounds_toArray, List.set_cons_zero, List.set_cons_succ, i64_w, i32_w]
                  rfl
                refine one_ (i := 4) (N := some 63) #[true, true, true, true, true, true, true, false, false, false] rfl rfl (by kernel_rfl) (by decide) (fun K hK => ?_)
                refine goes_ Try.func47 (by kernel_rfl) rfl #[.agg #[.int .i64 q.1, .slice q.2.1.1 q.2.1.2.1 q.2.1.2.2, .slice q.2.2.1.1 q.2.2.1.2.1 q.2.2.1.2.2]] (by rfl) rfl rfl (by simp only [List.map_toArray, List.map_cons, List.map_nil]; rfl) ?_
                with_reducible refine (own_flat (HFq3.out.below (below_drew (Below.refl _ _)))).mono ?_
                rintro e w5 ⟨dA, dn, dc, mA, mn, mc, rfl, rd, rm, hb⟩
                refine ⟨_, rfl, ?_⟩
                have hbx := Aside0.mk (below_then (below_drew (Below.refl _ _)) (Nat.le_refl _) hb)
                have HRd := Aside0.mk rd
                have HRm := Aside0.mk rm
                have HFz := Aside0.mk (fun o => blk_frozen (blk_below hcs3 hbx.out) o)
                clear hb rd rm
                refine hK.out _ _ ⟨(pw_cell_below hbx.out hg1_0), (pw_cell_below hbx.out hg1_1), (pw_cell_below hbx.out hg1_2), (pw_cell_below hbx.out hg1_3), (pw_cell_below hbx.out d0), (pw_cell_below hbx.out d1), (pw_cell_below hbx.out d2), (pw_cell_below hbx.out d3), HFz.out⟩ (fun hHeld => ?_)
                clear hK K
                refine norm_ (a' := ?_) ?_ ?_
                rotate_left
                · show Act.put _ (some 63) _ = _
                  simp only [Act.put, List.setIfInBounds_toArray, List.set_cons_zero, List.set_cons_succ, i64_w, i32_w]
                  rfl
                refine pure_ (i := 7) (N := some 66) (v := ?_) (a' := ?_) #[true, true, true, true, true, true, true, true, false, false] rfl rfl (by kernel_rfl) (fun _ _ _ h => h) (Or.inl ⟨by rfl, ?_⟩) ?_ ?_
                rotate_left
                · intro w'
                  go_simp
                  with_reducible rfl
                rotate_left
                · simp only [Act.put, List.setIfInBounds_toArray, List.set_cons_zero, List.set_cons_succ, i64_w, i32_w]
                  rfl
                refine pure_ (i := 8) (N := some 67) (v := ?_) (a' := ?_) #[true, true, true, true, true, true, true, true, true, false] rfl rfl (by kernel_rfl) (fun _ _ _ h => h) (Or.inl ⟨by rfl, ?_⟩) ?_ ?_
                rotate_left
                · intro w'
                  go_simp
                  with_reducible rfl
                rotate_left
                · simp only [Act.put, List.setIfInBounds_toArray, List.set_cons_zero, List.set_cons_succ, i64_w, i32_w]
                  rfl
                refine last_ (i := 9) (N := none) #[true, true, true, true, true, true, true, true, true, true] rfl rfl (by kernel_rfl) (by decide) (fun K hK => ?_)
                refine skip_ (w1 := ?_) (by rfl) rfl ?_ ?_
                rotate_left
                · go_simp
                  rfl
                refine hK.out _ _ ?_
                clear hK K
                refine done_ (by kernel_rfl) ?_
                have HPu := Aside0.mk ((HI3.out.step hbx.out).put HSo.out (by have := HLi.out.1; omega) HLi.out.1 hg1 (by rw [HLi.out.2]; rw [HU.out]; exact HNq.out) (x.1, (dA, dn, dc), (mA, mn, mc), q.2.2.2) (by
                  rw [HLi.out.2]
                  exact own_new (Nat.lt_of_lt_of_le hg2 HI3.out.grown.size) HI3.out.below.size rfl rfl HRd.out HRm.out HFq3.out.dl HFq3.out.ml))
                rw [HU.out, set4] at HPu
                clear hHeld HFz HRd HRm hbx d0 d1 d2 d3 hfz hcs3 hg1_0 hfg1_0 hg1_1 hfg1_1 hg1_2 hfg1_2 hg1_3 hfg1_3 HI3 HX3 BK3 HFq3
                generalize ((((w5.setCell ⟨g, U * 4, none⟩ (.int .i64 x.1)).setCell ⟨g, U * 4 + 1, none⟩ (.slice dA dn dc)).setCell ⟨g, U * 4 + 2, none⟩ (.slice mA mn mc)).setCell ⟨g, U * 4 + 3, none⟩ (.int .u64 q.2.2.2)) = w6 at *
                go_wp2_with fail
                go_roundw
                case rel => exact ⟨k + 1, _, by rw [HNe.out, List.length_append, HU.out]; go_num, by go_num, by omega, HPu⟩
                case measure => simp [intOf]; omega
          · have e0 : k = m := by omega
            subst e0
            have hii2 : decide (k < k) = false := decide_eq_false (by omega)
            clear hk
            have HLz := Aside0.mk (show (zs.map fun q => (dec q, q.2.2.2)).length = k by rw [List.length_map]; exact HZl.out)
            have HUl := Aside0.mk (upB_len (zs.map fun q => (dec q, q.2.2.2)) k (Nat.le_of_eq HLz.out.symm))
            have HUa := Aside0.mk (show upB (zs.map fun q => (dec q, q.2.2.2)) k = bagB [] (L.map fun q => (dec q, q.2.2.2)) by
              have h := upB_all (zs.map fun q => (dec q, q.2.2.2))
              rw [HLz.out] at h
              rw [h]
              exact bagB_perm (HPe.out.map _) [] List.Pairwise.nil)
            have HYl := Aside0.mk (Kd.R_reads' HI.out.row)
            have HDl := Aside0.mk (del_flat g (upB (zs.map fun q => (dec q, q.2.2.2)) k).length c5 (ys.take (upB (zs.map fun q => (dec q, q.2.2.2)) k).length) wr w.heap.size (Kd.R_take HI.out.row (by have := HUl.out; have := HYl.out.1; omega)) (by have := HUl.out; have := HLn.out; have := HN.out; omega))
            have HEn := Aside0.mk (fun w2 hr hg => bag_end (n := 0) (w := wr) (w2 := w2) (c := c5) hr hg (by have := HUl.out; have := HYl.out.1; omega) HI.out.own)
            generalize hUU : (upB (zs.map fun q => (dec q, q.2.2.2)) k).length = U at *
            have HU := Aside0.mk hUU
            have hUc : U ≤ c5 := by have := HUl.out; have := HYl.out.2.1; have := HYl.out.1; omega
            have HBw := Aside0.mk HI.out.below
            clear hUU
            go_wp2_with (first | (go_at_call 48; refine HDl.out.mono ?_; rintro e w7 ⟨rfl, hr7, hg7⟩; have HR7 := Aside0.mk hr7; have HG7 := Aside0.mk hg7; clear hr7 hg7) | fail)
            go_ret
            refine ⟨_, rfl, ?_, HBw.out.grown HG7.out HBw.out.size (fun k hk => by injection hk with hk; omega)⟩
            (try rw [HLd.out])
            have h := HEn.out w7
            rw [HUa.out] at h
            exact h HR7.out HG7.out
end Go.Proofs.Ytfeeahjaeapkoaa.Ext
end

section
namespace Go.Proofs.Ytfeeahjaeapkoaa.Ext
set_option linter.unusedVariables false
set_option linter.unusedSimpArgs false
open Go.RowKit Go.Proofs.YtfeeahjaeapkoaaW.PrintWords Go.Proofs.YtfeeahjaeapkoaaW.PrintLast Go.Proofs.YtfeeahjaeapkoaaW.PrintMore Go.Proofs.Ytfeeahjaeapkoaa.Lib Go.Proofs.Ytfeeahjaeapkoaa.P
theorem kq_K {w : World} {q : Q} {cs : List Value} : kq.K w q cs ↔ cs = encQ q := by
  constructor
  · rintro ⟨_, _, rfl, rfl, _, _, rfl, rfl, _, _, rfl, rfl, rfl⟩; rfl
  · rintro rfl; exact ⟨[_], _, rfl, rfl, [_], _, rfl, rfl, [_], [_], rfl, rfl, rfl⟩
theorem C_det {α : Type} {enc : α → Value} {h1 : ∀ x, (enc x).oneCell' = true} (hinj : ∀ x y, enc x = enc y → x = y) {w : World} {A : Option Addr} {n m : Nat} {xs ys : List α} (hx : (Kd.scalar enc h1).C w A n xs) (hy : (Kd.scalar enc h1).C w A m ys) (hl : n = m) : xs = ys := by
  subst hl
  obtain ⟨l1, _, c1⟩ := hx
  obtain ⟨l2, _, c2⟩ := hy
  refine List.ext_getElem (l1.trans l2.symm) (fun i h h' => ?_)
  obtain ⟨a1, e1, k1⟩ := c1 (by omega)
  obtain ⟨a2, e2, k2⟩ := c2 (by omega)
  rw [e1] at e2
  injection e2 with e2
  subst e2
  obtain ⟨d1, _, r1, u1⟩ := k1 i _ (List.getElem?_eq_getElem h)
  obtain ⟨d2, _, r2, u2⟩ := k2 i _ (List.getElem?_eq_getElem h')
  have e1 : d1 = [enc xs[i]] := r1
  have e2 : d2 = [enc ys[i]] := r2
  subst e1 e2
  have v1 := u1 0 _ rfl
  have v2 := u2 0 _ rfl
  rw [v1] at v2
  exact hinj _ _ (Option.some.inj v2)
theorem Fl.det {w : World} {q : Q} {x y : F} (hx : Fl w q x) (hy : Fl w q y) : x = y := by
  obtain ⟨a, b, c⟩ := x
  obtain ⟨a', b', c'⟩ := y
  have e1 : a = a' := hx.t.symm.trans hy.t
  have e2 : b = b' := C_det (fun x y h => by injection h) hx.d hy.d (hx.dn.symm.trans hy.dn)
  have e3 : c = c' := C_det (fun x y h => by injection h) hx.m hy.m (hx.mn.symm.trans hy.mn)
  subst e1 e2 e3
  rfl
noncomputable def decW (w : World) (q : Q) : F := @Classical.epsilon F ⟨(0, [], [])⟩ (fun x => Fl w q x)
theorem decW_eq {w : World} {q : Q} {x : F} (h : Fl w q x) : decW w q = x := Fl.det (@Classical.epsilon_spec_aux F ⟨(0, [], [])⟩ (fun x => Fl w q x) ⟨x, h⟩) h
def m40 (x : S40) : M := ((x.f0.f0, x.f0.f1, x.f0.f2), x.f1)
def Small (x : M) : Prop := x.1.2.1.length ≤ 8796093022208 ∧ x.1.2.2.length ≤ 17592186044416
theorem flat40 {w : World} {A : Option Addr} {n : Nat} {l : List S40} (h : Kd.C k40 w A n l) (hb : ∀ x ∈ l, Small (m40 x)) : ∃ qs : List Q, kq.C w A n qs ∧ Two (fun q x => Fl w q x.1 ∧ q.2.2.2 = x.2) qs (l.map m40) := by
  obtain ⟨hl, hn, hc⟩ := h
  by_cases h0 : 0 < n
  · obtain ⟨ad, e, hk⟩ := hc h0
    have key : ∀ j : Nat, ∃ q : Q, ∀ p, l[j]? = some p → (∀ i u, (encQ q)[i]? = some u → w.cell? (ad.add (j * 4 + i)) = some u) ∧ Fl w q (m40 p).1 ∧ q.2.2.2 = (m40 p).2 := by
      intro j
      by_cases hj : j < l.length
      · obtain ⟨c, h1, h2, h3⟩ := hk j _ (List.getElem?_eq_getElem hj)
        obtain ⟨A1, c1, A2, c2, rfl, l1, g1, l2, g2⟩ := k40_open h2
        refine ⟨(l[j].f0.f0, (A1, l[j].f0.f1.length, c1), (A2, l[j].f0.f2.length, c2), l[j].f1), fun p hp => ?_⟩
        rw [List.getElem?_eq_getElem hj] at hp
        obtain rfl := Option.some.inj hp
        have hs := hb _ (List.getElem_mem hj)
        exact ⟨h3, ⟨rfl, rfl, l1, g1, rfl, l2, g2, hs.1, hs.2⟩, rfl⟩
      · exact ⟨zQ, fun p hp => by rw [List.getElem?_eq_none (by omega)] at hp; cases hp⟩
    obtain ⟨f, hf⟩ := Classical.axiomOfChoice key
    have hfl : ((List.range l.length).map f).length = l.length := by simp
    refine ⟨(List.range l.length).map f, ⟨by rw [hfl]; exact hl, hn, fun _ => ⟨ad, e, fun j p hp => ?_⟩⟩, Two.of (by rw [List.length_map, hfl]) (fun j hj => ?_)⟩
    · rw [List.getElem?_map] at hp
      obtain ⟨i, hi, rfl⟩ := Option.map_eq_some_iff.1 hp
      obtain ⟨hi1, hi2⟩ := List.getElem?_eq_some_iff.1 hi
      rw [List.getElem_range] at hi2
      subst hi2
      rw [List.length_range] at hi1
      exact ⟨encQ (f j), rfl, kq_K.2 rfl, (hf j _ (List.getElem?_eq_getElem hi1)).1⟩
    · rw [List.length_map] at hj
      have h2 := (hf j _ (List.getElem?_eq_getElem hj)).2
      rw [List.getD_eq_getElem?_getD, List.getElem?_map, List.getElem?_range hj, List.getD_eq_getElem?_getD, List.getElem?_map, List.getElem?_eq_getElem hj]
      exact h2
  · have e0 : n = 0 := by omega
    subst e0
    have : l = [] := List.length_eq_zero_iff.1 hl
    subst this
    exact ⟨[], ⟨rfl, hn, fun h => absurd h (Nat.lt_irrefl _)⟩, trivial⟩
theorem two_map {R : Q → M → Prop} {w : World} (hR : ∀ q x, R q x → Fl w q x.1 ∧ q.2.2.2 = x.2) (tk : F → Bool) : ∀ {qs : List Q} {l : List M}, Two R qs l → (qs.filter (fun q => tk (decW w q))).map (fun q => (decW w q, q.2.2.2)) = l.filter (fun x => tk x.1)
  | [], [], _ => rfl
  | q :: a, x :: b, h => by
    have e := decW_eq (hR _ _ h.1).1
    rw [List.filter_cons, List.filter_cons, e]
    split
    · rw [List.map_cons, two_map hR tk h.2, e, (hR _ _ h.1).2]
    · exact two_map hR tk h.2
theorem two_mem {R : Q → M → Prop} : ∀ {qs : List Q} {l : List M}, Two R qs l → ∀ q ∈ qs, ∃ x ∈ l, R q x
  | q :: a, x :: b, h, p, hp => by
    rcases List.mem_cons.1 hp with rfl | hp
    · exact ⟨x, by simp, h.1⟩
    · obtain ⟨y, hy, hr⟩ := two_mem h.2 p hp
      exact ⟨y, by simp [hy], hr⟩
  | [], [], _, p, hp => by simp at hp
theorem bag_known (K : Nat) (hK : K ≤ 1099511627776) (hsort : SortUpto K) (n c : Nat) (A : Option Addr) (qs : List Q) (l : List M) (f : FuncId) (cap : Array Value) (tk : F → Bool) (w : World) (hC : kq.C w A n qs) (hn : n ≤ K) (ht : Two (fun q x => Fl w q x.1 ∧ q.2.2.2 = x.2) qs l)
    (hf : ∃ fn, Try.prog.funcs[f]? = some fn ∧ (fn.name == "runtime.NumGoroutine") = false ∧ fn.body.isSome = true)
    (htk : ∀ w', Below w.heap.size w w' → ∀ q x, Fl w' q x → Calls Try.prog f (#[] ++ #[qV q] ++ cap) w' fun e w'' => e = .returned (.bool (tk x)) ∧ Below w'.heap.size w' w'') :
    Calls Try.prog 33 #[.slice A n c, .func (.func f) #[] cap] w fun e w' => ∃ v, e = .returned v ∧ k40.R 40 w' w.heap.size (fun _ => True) v ((bagOf (l.filter fun x => tk x.1)).map s40) ∧ Below w.heap.size w w' := by
  have hd : ∀ q ∈ qs, Fl w q (decW w q) := fun q hq => by
    obtain ⟨x, _, hx⟩ := two_mem ht q hq
    rw [decW_eq hx.1]
    exact hx.1
  have := bag_calls K hK hsort n c A qs f cap (fun q => tk (decW w q)) w hC hn ⟨hf, fun w' hb q hq => htk w' hb q _ ((hd q hq).below hb)⟩ (decW w) hd
  rw [two_map (fun _ _ h => h) tk ht] at this
  exact this
end Go.Proofs.Ytfeeahjaeapkoaa.Ext
end

section
namespace Go.Proofs.Ytfeeahjaeapkoaa.Ext
set_option linter.unusedVariables false
set_option linter.unusedSimpArgs false
open Go.RowKit Go.Proofs.YtfeeahjaeapkoaaW.PrintWords
abbrev at_ (xs : List Q) : Nat → Q := fun i => xs.getD i zQ
def swapF (p q n : Nat) (f : Nat → Q) (i : Nat) : Q := if p ≤ i ∧ i < p + n then f (i - p + q) else if q ≤ i ∧ i < q + n then f (i - q + p) else f i
def rotF (a m b : Nat) (f : Nat → Q) (i : Nat) : Q := if i < a then f i else if i < a + (b - m) then f (i - a + m) else if i < b then f (i - (b - m)) else f i
theorem swapF_zero (p q : Nat) (f : Nat → Q) : swapF p q 0 f = f := by
  funext i; unfold swapF; rw [if_neg (by omega), if_neg (by omega)]
theorem rot_more (m i j : Nat) (f : Nat → Q) (hi : i ≤ m) (hj : j < i) (hj0 : 0 < j) : rotF (m - (i - j)) m (m + j) (swapF (m - i) m j f) = rotF (m - i) m (m + j) f := by
  funext x
  unfold rotF swapF
  try dsimp only
  repeat' split
  all_goals first | (exfalso; omega) | rfl | (refine congrArg f ?_; omega)
theorem rot_less (m i j : Nat) (f : Nat → Q) (hi : i ≤ m) (hj : i < j) (hi0 : 0 < i) : rotF (m - i) m (m + (j - i)) (swapF (m - i) (m + j - i) i f) = rotF (m - i) m (m + j) f := by
  funext x
  unfold rotF swapF
  try dsimp only
  repeat' split
  all_goals first | (exfalso; omega) | rfl | (refine congrArg f ?_; omega)
theorem rot_same (m i : Nat) (f : Nat → Q) (hi : i ≤ m) : swapF (m - i) m i f = rotF (m - i) m (m + i) f := by
  funext x
  unfold rotF swapF
  try dsimp only
  repeat' split
  all_goals first | (exfalso; omega) | rfl | (refine congrArg f ?_; omega)
theorem rot_none1 (m b : Nat) (f : Nat → Q) : rotF m m b f = f := by
  funext x
  unfold rotF
  repeat' split
  all_goals first | rfl | (exfalso; omega) | (refine congrArg f ?_; omega)
theorem rot_none2 (a m : Nat) (f : Nat → Q) : rotF a m m f = f := by
  funext x
  unfold rotF
  repeat' split
  all_goals first | rfl | (exfalso; omega) | (refine congrArg f ?_; omega)
theorem rot_right (a k : Nat) (f : Nat → Q) (hk : a ≤ k) : swapF k (k + 1) 1 (rotF a (a + 1) (k + 1) f) = rotF a (a + 1) (k + 2) f := by
  funext x
  unfold rotF swapF
  try dsimp only
  repeat' split
  all_goals first | (exfalso; omega) | rfl | (refine congrArg f ?_; omega)
theorem rot_left (k m : Nat) (f : Nat → Q) (hk : k < m) : swapF (k + 1) k 1 (rotF (k + 1) m (m + 1) f) = rotF k m (m + 1) f := by
  funext x
  unfold rotF swapF
  try dsimp only
  repeat' split
  all_goals first | (exfalso; omega) | rfl | (refine congrArg f ?_; omega)
def SrtOn (cf : Q → Q → Int) (f : Nat → Q) (a b : Nat) : Prop := ∀ i j, a ≤ i → i ≤ j → j < b → ¬ cf (f j) (f i) < 0
section
variable {cf : Q → Q → Int} (hp : Pre cf) {f : Nat → Q} {a s m e b : Nat}
include hp in
theorem sym_cross (h1 : SrtOn cf f a m) (h2 : SrtOn cf f m b) (ha : a ≤ s) (hs : s ≤ m) (hm : m ≤ e) (he : e ≤ b) (c1 : a < s → e < b → ¬ cf (f e) (f (s - 1)) < 0) (c2 : s < m → m < e → cf (f (e - 1)) (f s) < 0) :
    ∀ i j, a ≤ i → i < s + (e - m) → s + (e - m) ≤ j → j < b → ¬ cf (rotF s m e f j) (rotF s m e f i) < 0 := by
  intro i j hi1 hi2 hj1 hj2
  have ei : rotF s m e f i = if i < s then f i else f (i - s + m) := by
    unfold rotF; repeat' split
    all_goals first | rfl | (exfalso; omega) | (refine congrArg f ?_; omega)
  have ej : rotF s m e f j = if j < e then f (j - (e - m)) else f j := by
    unfold rotF; repeat' split
    all_goals first | rfl | (exfalso; omega) | (refine congrArg f ?_; omega)
  rw [ei, ej]
  by_cases x1 : i < s
  · rw [if_pos x1]
    by_cases x2 : j < e
    · rw [if_pos x2]; exact h1 _ _ hi1 (by omega) (by omega)
    · rw [if_neg x2]
      exact hp.trans _ _ _ (h2 e j (by omega) (by omega) hj2) (hp.trans _ _ _ (c1 (by omega) (by omega)) (h1 i (s - 1) hi1 (by omega) (by omega)))
  · rw [if_neg x1]
    by_cases x2 : j < e
    · rw [if_pos x2]
      exact hp.trans _ _ _ (h1 s (j - (e - m)) ha (by omega) (by omega)) (hp.trans _ _ _ (hp.asym _ _ (c2 (by omega) (by omega))) (h2 (i - s + m) (e - 1) (by omega) (by omega) (by omega)))
    · rw [if_neg x2]; exact h2 _ _ (by omega) (by omega) hj2
theorem sym_one (h1 : SrtOn cf f a m) (hs : s ≤ m) (hm : m ≤ e) : SrtOn cf (rotF s m e f) a s := fun i j x y z => by
  unfold rotF; rw [if_pos (by omega), if_pos (by omega)]; exact h1 i j x y (by omega)
theorem sym_two (h2 : SrtOn cf f m b) (hs : s ≤ m) (hm : m ≤ e) (he : e ≤ b) : SrtOn cf (rotF s m e f) s (s + (e - m)) := fun i j x y z => by
  unfold rotF; rw [if_neg (by omega), if_pos (by omega), if_neg (by omega), if_pos (by omega)]; exact h2 _ _ (by omega) (by omega) (by omega)
theorem sym_three (h1 : SrtOn cf f a m) (ha : a ≤ s) (hs : s ≤ m) (hm : m ≤ e) : SrtOn cf (rotF s m e f) (s + (e - m)) e := fun i j x y z => by
  unfold rotF; rw [if_neg (by omega), if_neg (by omega), if_pos (by omega), if_neg (by omega), if_neg (by omega), if_pos (by omega)]; exact h1 _ _ (by omega) (by omega) (by omega)
theorem sym_four (h2 : SrtOn cf f m b) (hs : s ≤ m) (hm : m ≤ e) : SrtOn cf (rotF s m e f) e b := fun i j x y z => by
  unfold rotF; rw [if_neg (by omega), if_neg (by omega), if_neg (by omega), if_neg (by omega), if_neg (by omega), if_neg (by omega)]; exact h2 i j (by omega) y z
structure In (a b : Nat) (f g : Nat → Q) : Prop where
  out : ∀ i, (i < a ∨ b ≤ i) → g i = f i
  inn : ∀ i, a ≤ i → i < b → ∃ j, a ≤ j ∧ j < b ∧ g i = f j
theorem In.refl (a b : Nat) (f : Nat → Q) : In a b f f := ⟨fun _ _ => rfl, fun i h1 h2 => ⟨i, h1, h2, rfl⟩⟩
theorem In.wide {c d : Nat} {g : Nat → Q} (h : In c d f g) (h1 : a ≤ c) (h2 : d ≤ b) : In a b f g :=
  ⟨fun i hi => h.out i (by omega), fun i x y => by
    by_cases z : c ≤ i ∧ i < d
    · obtain ⟨j, u, v, r⟩ := h.inn i z.1 z.2; exact ⟨j, by omega, by omega, r⟩
    · exact ⟨i, x, y, h.out i (by omega)⟩⟩
theorem In.trans {g k : Nat → Q} (h : In a b f g) (h' : In a b g k) : In a b f k :=
  ⟨fun i hi => (h'.out i hi).trans (h.out i hi), fun i x y => by
    obtain ⟨j, u, v, r⟩ := h'.inn i x y
    obtain ⟨j2, u2, v2, r2⟩ := h.inn j u v
    exact ⟨j2, u2, v2, r.trans r2⟩⟩
theorem rot_in (hs : s ≤ m) (hm : m ≤ e) : In s e f (rotF s m e f) :=
  ⟨fun i hi => by unfold rotF; repeat' split
                  all_goals first | rfl | (exfalso; omega), fun i x y => by
    unfold rotF
    repeat' split
    all_goals first | exact ⟨_, by omega, by omega, rfl⟩ | (exfalso; omega)⟩
theorem SrtOn.out {f g : Nat → Q} {c d : Nat} (h : SrtOn cf f c d) (hi : In a b f g) (hd : d ≤ a ∨ b ≤ c) : SrtOn cf g c d := fun i j x y z => by
  rw [hi.out i (by omega), hi.out j (by omega)]; exact h i j x y z
theorem SrtOn.mono {f : Nat → Q} {a b c d : Nat} (h : SrtOn cf f a b) (h1 : a ≤ c) (h2 : d ≤ b) : SrtOn cf f c d := fun i j x y z => h i j (by omega) y (by omega)
theorem srt_join {f : Nat → Q} {a b mid : Nat} (h1 : SrtOn cf f a mid) (h2 : SrtOn cf f mid b) (hx : ∀ i j, a ≤ i → i < mid → mid ≤ j → j < b → ¬ cf (f j) (f i) < 0) : SrtOn cf f a b := fun i j x y z => by
  by_cases u : j < mid
  · exact h1 i j x y u
  · by_cases v : i < mid
    · exact hx i j x v (by omega) z
    · exact h2 i j (by omega) y z
theorem sym_done {f g k h : Nat → Q} {mid : Nat} (hg1 : In a mid g k) (hk : SrtOn cf k a mid) (hg2 : In mid b k h) (hh : SrtOn cf h mid b) (hx : ∀ i j, a ≤ i → i < mid → mid ≤ j → j < b → ¬ cf (g j) (g i) < 0) : SrtOn cf h a b := by
  refine srt_join (hk.out hg2 (.inl (Nat.le_refl _))) hh (fun i j x y z u => ?_)
  obtain ⟨j2, p1, p2, e2⟩ := hg2.inn j z u
  obtain ⟨i2, q1, q2, e1⟩ := hg1.inn i x y
  rw [e2, hg2.out i (.inl y), e1, hg1.out j2 (.inr p1)]
  exact hx i2 j2 q1 q2 p1 p2
include hp in
theorem sym_leaf (h1 : SrtOn cf f a m) (h2 : SrtOn cf f m b) (ha : a ≤ s) (hs : s ≤ m) (hm : m ≤ e) (he : e ≤ b) (ab : a < s → m < e → ¬ cf (f m) (f (s - 1)) < 0) (bc : s < m → m < e → ¬ cf (f s) (f (e - 1)) < 0) (cd : s < m → e < b → ¬ cf (f e) (f (m - 1)) < 0) (ad : a < s → e < b → ¬ cf (f e) (f (s - 1)) < 0) :
    SrtOn cf (rotF s m e f) a b := by
  refine srt_join (mid := s + (e - m)) ?_ ?_ ?_
  · refine srt_join (mid := s) (sym_one h1 hs hm) (sym_two h2 hs hm he) (fun i j x y z u => ?_)
    unfold rotF
    rw [if_neg (by omega), if_pos (by omega), if_pos (by omega)]
    exact hp.trans _ _ _ (h2 m (j - s + m) (by omega) (by omega) (by omega)) (hp.trans _ _ _ (ab (by omega) (by omega)) (h1 i (s - 1) x (by omega) (by omega)))
  · refine srt_join (mid := e) (sym_three h1 ha hs hm) (sym_four h2 hs hm) (fun i j x y z u => ?_)
    unfold rotF
    rw [if_neg (by omega), if_neg (by omega), if_neg (by omega), if_neg (by omega), if_neg (by omega), if_pos (by omega)]
    exact hp.trans _ _ _ (h2 e j (by omega) (by omega) (by omega)) (hp.trans _ _ _ (cd (by omega) (by omega)) (h1 _ (m - 1) (by omega) (by omega) (by omega)))
  · intro i j x y z u
    have ei : rotF s m e f i = if i < s then f i else f (i - s + m) := by
      unfold rotF; repeat' split
      all_goals first | rfl | (exfalso; omega) | (refine congrArg f ?_; omega)
    have ej : rotF s m e f j = if j < e then f (j - (e - m)) else f j := by
      unfold rotF; repeat' split
      all_goals first | rfl | (exfalso; omega) | (refine congrArg f ?_; omega)
    rw [ei, ej]
    by_cases x1 : i < s
    · rw [if_pos x1]
      by_cases x2 : j < e
      · rw [if_pos x2]; exact h1 _ _ x (by omega) (by omega)
      · rw [if_neg x2]
        exact hp.trans _ _ _ (h2 e j (by omega) (by omega) u) (hp.trans _ _ _ (ad (by omega) (by omega)) (h1 i (s - 1) x (by omega) (by omega)))
    · rw [if_neg x1]
      by_cases x2 : j < e
      · rw [if_pos x2]
        exact hp.trans _ _ _ (h1 s (j - (e - m)) ha (by omega) (by omega)) (hp.trans _ _ _ (bc (by omega) (by omega)) (h2 (i - s + m) (e - 1) (by omega) (by omega) (by omega)))
      · rw [if_neg x2]; exact h2 _ _ (by omega) (by omega) u
end
theorem swap_at (xs : List Q) (i j : Nat) (hi : i < xs.length) (hj : j < xs.length) (hij : i ≠ j) : at_ ((xs.set i (at_ xs j)).set j (at_ xs i)) = swapF i j 1 (at_ xs) := by
  funext x
  unfold swapF
  try dsimp only
  show ((xs.set i _).set j _).getD x zQ = _
  rw [List.getD_eq_getElem?_getD, List.getElem?_set, List.getElem?_set, List.length_set]
  by_cases c1 : j = x
  · subst c1
    rw [if_pos rfl, if_pos hj, if_neg (by omega), if_pos (by omega), Nat.sub_self, Nat.zero_add]; rfl
  · rw [if_neg c1]
    by_cases c2 : i = x
    · subst c2
      rw [if_pos rfl, if_pos hi, if_pos (by omega), Nat.sub_self, Nat.zero_add]; rfl
    · rw [if_neg c2, if_neg (by omega), if_neg (by omega), ← List.getD_eq_getElem?_getD]
theorem two_sets (A B C : List Q) (u v : Q) : ((A ++ u :: (B ++ v :: C)).set A.length v).set (A.length + (B.length + 1)) u = A ++ v :: (B ++ u :: C) := by
  rw [List.set_append_right _ _ (Nat.le_refl _), Nat.sub_self]
  show (A ++ v :: (B ++ v :: C)).set _ _ = _
  rw [List.set_append_right _ _ (by omega), Nat.add_sub_cancel_left]
  show A ++ v :: (B ++ v :: C).set B.length u = _
  rw [List.set_append_right _ _ (Nat.le_refl _), Nat.sub_self]
  rfl
theorem swapF_next (p q n : Nat) (f : Nat → Q) (h : p + n < q ∨ q + n < p) : swapF (p + n) (q + n) 1 (swapF p q n f) = swapF p q (n + 1) f := by
  funext x
  unfold swapF
  try dsimp only
  repeat' split
  all_goals first | (exfalso; omega) | rfl | (refine congrArg f ?_; omega)
theorem set_perm (xs : List Q) (i j : Nat) (hj : j < xs.length) (hij : i < j) : ((xs.set i (at_ xs j)).set j (at_ xs i)).Perm xs := by
  have hi : i < xs.length := by omega
  have h1 : at_ xs i = xs[i] := by show xs.getD i zQ = _; rw [List.getD_eq_getElem?_getD, List.getElem?_eq_getElem hi]; rfl
  have h2 : at_ xs j = xs[j] := by show xs.getD j zQ = _; rw [List.getD_eq_getElem?_getD, List.getElem?_eq_getElem hj]; rfl
  rw [h1, h2]
  have e : xs = xs.take i ++ xs[i] :: ((xs.drop (i + 1)).take (j - (i + 1)) ++ xs[j] :: xs.drop (j + 1)) := by
    have e2 : (xs.drop (i + 1)).drop (j - (i + 1)) = xs[j] :: xs.drop (j + 1) := by rw [List.drop_drop, show i + 1 + (j - (i + 1)) = j by omega, List.drop_eq_getElem_cons hj]
    rw [← e2, List.take_append_drop, ← List.drop_eq_getElem_cons hi, List.take_append_drop]
  have hl1 : (xs.take i).length = i := by rw [List.length_take]; omega
  have hl2 : ((xs.drop (i + 1)).take (j - (i + 1))).length = j - (i + 1) := by rw [List.length_take, List.length_drop]; omega
  generalize xs[i] = u at *
  generalize xs[j] = v at *
  generalize xs.take i = A at *
  generalize (xs.drop (i + 1)).take (j - (i + 1)) = B at *
  generalize xs.drop (j + 1) = C at *
  have e2 : (xs.set i v).set j u = A ++ v :: (B ++ u :: C) := by
    rw [e, show i = A.length from hl1.symm, show j = A.length + (B.length + 1) by omega]
    exact two_sets A B C u v
  rw [e2, e]
  refine List.Perm.append_left _ ?_
  exact (List.Perm.cons v List.perm_middle).trans ((List.Perm.swap u v _).trans (List.Perm.cons u List.perm_middle.symm))
end Go.Proofs.Ytfeeahjaeapkoaa.Ext
end
