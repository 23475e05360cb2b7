/- Texts of this repo, joined, without what this claim does not use: P21, FBagL, FOrdLaw, OpenK, Bulk, UptoK, OpenF2. -/
import Derived.Test.YtfeeahjaeapkoaaDFactOrders1
import Derived.Test.YtfeeahjaeapkoaaDFactOrders2
import Derived.Test.YtfeeahjaeapkoaaDFactOrders3
import Derived.SizedLaws
import Derived.Deep.Slices
import Derived.Test.YtfeeahjaeapkoaaRows
import Derived.JoinedCond
section
namespace Go.Proofs.Ytfeeahjaeapkoaa.P
open Go.RowKit Go.Proofs.YtfeeahjaeapkoaaW.PrintWords Go.Proofs.YtfeeahjaeapkoaaW.PrintLast Go.Proofs.YtfeeahjaeapkoaaW.PrintMore
attribute [local go_sem] max2_int min2_int max_two min_two max_three min_three max_four min_four   -- for this text's walks alone
set_option linter.unusedVariables false
set_option linter.unusedSimpArgs false
open Go.Proofs.Ytfeeahjaeapkoaa.Ext (q1_ q2_ q3_ bk_ bw_ sz_ ne_ bx_)
attribute [local go_sem high] Go.Proofs.Ytfeeahjaeapkoaa.Ext.gtr_str Go.Proofs.Ytfeeahjaeapkoaa.Ext.leq_str Go.Proofs.Ytfeeahjaeapkoaa.Ext.geq_str
set_option maxHeartbeats 8000000 in
set_option maxRecDepth 100000 in
theorem gristmilllaw04_FactOrders.calls (k : Nat) (a0_0 : Int) (A0_1 : Option Addr) (c0_1 : Nat) (l0_1 : List ByteArray) (A0_2 : Option Addr) (c0_2 : Nat) (l0_2 : List Int) (a1_0 : Int) (A1_1 : Option Addr) (c1_1 : Nat) (l1_1 : List ByteArray) (A1_2 : Option Addr) (c1_2 : Nat) (l1_2 : List Int) (a2_0 : Int) (A2_1 : Option Addr) (c2_1 : Nat) (l2_1 : List ByteArray) (A2_2 : Option Addr) (c2_2 : Nat) (l2_2 : List Int) (A3 : Option Addr) (c3 : Nat) (l3 : List (S27)) (r : Bool) (w : World) (hr0_1 : Kd.C Kd.string w A0_1 l0_1.length l0_1) (hc0_1 : l0_1.length ≤ c0_1) (hr0_2 : Kd.C (Kd.int .i64) w A0_2 l0_2.length l0_2) (hc0_2 : l0_2.length ≤ c0_2) (hr1_1 : Kd.C Kd.string w A1_1 l1_1.length l1_1) (hc1_1 : l1_1.length ≤ c1_1) (hr1_2 : Kd.C (Kd.int .i64) w A1_2 l1_2.length l1_2) (hc1_2 : l1_2.length ≤ c1_2) (hr2_1 : Kd.C Kd.string w A2_1 l2_1.length l2_1) (hc2_1 : l2_1.length ≤ c2_1) (hr2_2 : Kd.C (Kd.int .i64) w A2_2 l2_2.length l2_2) (hc2_2 : l2_2.length ≤ c2_2) (hr3 : Kd.C k27 w A3 l3.length l3) (hc3 : l3.length ≤ c3) (h : gristmilllaw04_FactOrders.f k a0_0 l0_1 l0_2 a1_0 l1_1 l1_2 a2_0 l2_1 l2_2 l3 = some r) :
  Calls Try.prog 4 #[.agg #[.int .i64 a0_0, .slice A0_1 l0_1.length c0_1, .slice A0_2 l0_2.length c0_2], .agg #[.int .i64 a1_0, .slice A1_1 l1_1.length c1_1, .slice A1_2 l1_2.length c1_2], .agg #[.int .i64 a2_0, .slice A2_1 l2_1.length c2_1, .slice A2_2 l2_2.length c2_2], .slice A3 l3.length c3] w fun e w' => e = .returned (.bool r) ∧ Below w.heap.size w w' := by
 have hu27 := Try.underlying27
 have HR0_1 := Aside0.mk hr0_1
 have HC0_1 := Aside0.mk hc0_1
 clear hr0_1 hc0_1
 have HR0_2 := Aside0.mk hr0_2
 have HC0_2 := Aside0.mk hc0_2
 clear hr0_2 hc0_2
 have HR1_1 := Aside0.mk hr1_1
 have HC1_1 := Aside0.mk hc1_1
 clear hr1_1 hc1_1
 have HR1_2 := Aside0.mk hr1_2
 have HC1_2 := Aside0.mk hc1_2
 clear hr1_2 hc1_2
 have HR2_1 := Aside0.mk hr2_1
 have HC2_1 := Aside0.mk hc2_1
 clear hr2_1 hc2_1
 have HR2_2 := Aside0.mk hr2_2
 have HC2_2 := Aside0.mk hc2_2
 clear hr2_2 hc2_2
 have HR3 := Aside0.mk hr3
 have HC3 := Aside0.mk hc3
 clear hr3 hc3
 have HB := Aside0.mk (Below.refl w.heap.size w)
 have H : ((gristmilllaw04_awake.f).bind fun t165 => (if t165 = true then ((fact_Compare.f k a0_0 l0_1 l0_2 a1_0 l1_1 l1_2).bind fun t166 => ((fact_Compare.f k a1_0 l1_1 l1_2 a2_0 l2_1 l2_2).bind fun t167 => ((fact_Compare.f k a0_0 l0_1 l0_2 a2_0 l2_1 l2_2).bind fun t168 => ((fact_Compare.f k a1_0 l1_1 l1_2 a0_0 l0_1 l0_2).bind fun t169 => (if t166 = (wrap64 (-t169)) then (if t166 ≤ 0 then (if t167 ≤ 0 then (if t168 > 0 then (gristmilllaw04_FactOrders.j0 k l3 true) else (if t166 ≥ 0 then (if t167 ≥ 0 then (if t168 < 0 then (gristmilllaw04_FactOrders.j0 k l3 true) else (if t166 < 0 then (if t167 < 0 then (gristmilllaw04_FactOrders.j0 k l3 (decide (t168 ≥ 0))) else (gristmilllaw04_FactOrders.j0 k l3 false)) else (gristmilllaw04_FactOrders.j0 k l3 false))) else (if t166 < 0 then (if t167 < 0 then (gristmilllaw04_FactOrders.j0 k l3 (decide (t168 ≥ 0))) else (gristmilllaw04_FactOrders.j0 k l3 false)) else (gristmilllaw04_FactOrders.j0 k l3 false))) else (if t166 < 0 then (if t167 < 0 then (gristmilllaw04_FactOrders.j0 k l3 (decide (t168 ≥ 0))) else (gristmilllaw04_FactOrders.j0 k l3 false)) else (gristmilllaw04_FactOrders.j0 k l3 false)))) else (if t166 ≥ 0 then (if t167 ≥ 0 then (if t168 < 0 then (gristmilllaw04_FactOrders.j0 k l3 true) else (if t166 < 0 then (if t167 < 0 then (gristmilllaw04_FactOrders.j0 k l3 (decide (t168 ≥ 0))) else (gristmilllaw04_FactOrders.j0 k l3 false)) else (gristmilllaw04_FactOrders.j0 k l3 false))) else (if t166 < 0 then (if t167 < 0 then (gristmilllaw04_FactOrders.j0 k l3 (decide (t168 ≥ 0))) else (gristmilllaw04_FactOrders.j0 k l3 false)) else (gristmilllaw04_FactOrders.j0 k l3 false))) else (if t166 < 0 then (if t167 < 0 then (gristmilllaw04_FactOrders.j0 k l3 (decide (t168 ≥ 0))) else (gristmilllaw04_FactOrders.j0 k l3 false)) else (gristmilllaw04_FactOrders.j0 k l3 false)))) else (if t166 ≥ 0 then (if t167 ≥ 0 then (if t168 < 0 then (gristmilllaw04_FactOrders.j0 k l3 true) else (if t166 < 0 then (if t167 < 0 then (gristmilllaw04_FactOrders.j0 k l3 (decide (t168 ≥ 0))) else (gristmilllaw04_FactOrders.j0 k l3 false)) else (gristmilllaw04_FactOrders.j0 k l3 false))) else (if t166 < 0 then (if t167 < 0 then (gristmilllaw04_FactOrders.j0 k l3 (decide (t168 ≥ 0))) else (gristmilllaw04_FactOrders.j0 k l3 false)) else (gristmilllaw04_FactOrders.j0 k l3 false))) else (if t166 < 0 then (if t167 < 0 then (gristmilllaw04_FactOrders.j0 k l3 (decide (t168 ≥ 0))) else (gristmilllaw04_FactOrders.j0 k l3 false)) else (gristmilllaw04_FactOrders.j0 k l3 false)))) else (gristmilllaw04_FactOrders.j0 k l3 true)))))) else (some false))) = some r := h
 clear h
 replace H := Option.bind_eq_some_iff.mp H
 obtain ⟨t165, A50, H⟩ := H
 replace H : (if t165 = true then ((fact_Compare.f k a0_0 l0_1 l0_2 a1_0 l1_1 l1_2).bind fun t166 => ((fact_Compare.f k a1_0 l1_1 l1_2 a2_0 l2_1 l2_2).bind fun t167 => ((fact_Compare.f k a0_0 l0_1 l0_2 a2_0 l2_1 l2_2).bind fun t168 => ((fact_Compare.f k a1_0 l1_1 l1_2 a0_0 l0_1 l0_2).bind fun t169 => (if t166 = (wrap64 (-t169)) then (if t166 ≤ 0 then (if t167 ≤ 0 then (if t168 > 0 then (gristmilllaw04_FactOrders.j0 k l3 true) else (if t166 ≥ 0 then (if t167 ≥ 0 then (if t168 < 0 then (gristmilllaw04_FactOrders.j0 k l3 true) else (if t166 < 0 then (if t167 < 0 then (gristmilllaw04_FactOrders.j0 k l3 (decide (t168 ≥ 0))) else (gristmilllaw04_FactOrders.j0 k l3 false)) else (gristmilllaw04_FactOrders.j0 k l3 false))) else (if t166 < 0 then (if t167 < 0 then (gristmilllaw04_FactOrders.j0 k l3 (decide (t168 ≥ 0))) else (gristmilllaw04_FactOrders.j0 k l3 false)) else (gristmilllaw04_FactOrders.j0 k l3 false))) else (if t166 < 0 then (if t167 < 0 then (gristmilllaw04_FactOrders.j0 k l3 (decide (t168 ≥ 0))) else (gristmilllaw04_FactOrders.j0 k l3 false)) else (gristmilllaw04_FactOrders.j0 k l3 false)))) else (if t166 ≥ 0 then (if t167 ≥ 0 then (if t168 < 0 then (gristmilllaw04_FactOrders.j0 k l3 true) else (if t166 < 0 then (if t167 < 0 then (gristmilllaw04_FactOrders.j0 k l3 (decide (t168 ≥ 0))) else (gristmilllaw04_FactOrders.j0 k l3 false)) else (gristmilllaw04_FactOrders.j0 k l3 false))) else (if t166 < 0 then (if t167 < 0 then (gristmilllaw04_FactOrders.j0 k l3 (decide (t168 ≥ 0))) else (gristmilllaw04_FactOrders.j0 k l3 false)) else (gristmilllaw04_FactOrders.j0 k l3 false))) else (if t166 < 0 then (if t167 < 0 then (gristmilllaw04_FactOrders.j0 k l3 (decide (t168 ≥ 0))) else (gristmilllaw04_FactOrders.j0 k l3 false)) else (gristmilllaw04_FactOrders.j0 k l3 false)))) else (if t166 ≥ 0 then (if t167 ≥ 0 then (if t168 < 0 then (gristmilllaw04_FactOrders.j0 k l3 true) else (if t166 < 0 then (if t167 < 0 then (gristmilllaw04_FactOrders.j0 k l3 (decide (t168 ≥ 0))) else (gristmilllaw04_FactOrders.j0 k l3 false)) else (gristmilllaw04_FactOrders.j0 k l3 false))) else (if t166 < 0 then (if t167 < 0 then (gristmilllaw04_FactOrders.j0 k l3 (decide (t168 ≥ 0))) else (gristmilllaw04_FactOrders.j0 k l3 false)) else (gristmilllaw04_FactOrders.j0 k l3 false))) else (if t166 < 0 then (if t167 < 0 then (gristmilllaw04_FactOrders.j0 k l3 (decide (t168 ≥ 0))) else (gristmilllaw04_FactOrders.j0 k l3 false)) else (gristmilllaw04_FactOrders.j0 k l3 false)))) else (gristmilllaw04_FactOrders.j0 k l3 true)))))) else (some false)) = some r := H
 have A5 := Aside0.mk A50
 clear A50
 by_cases c6 : t165 = true
 ·subst c6
  have H1 : ((fact_Compare.f k a0_0 l0_1 l0_2 a1_0 l1_1 l1_2).bind fun t166 => ((fact_Compare.f k a1_0 l1_1 l1_2 a2_0 l2_1 l2_2).bind fun t167 => ((fact_Compare.f k a0_0 l0_1 l0_2 a2_0 l2_1 l2_2).bind fun t168 => ((fact_Compare.f k a1_0 l1_1 l1_2 a0_0 l0_1 l0_2).bind fun t169 => (if t166 = (wrap64 (-t169)) then (if t166 ≤ 0 then (if t167 ≤ 0 then (if t168 > 0 then (gristmilllaw04_FactOrders.j0 k l3 true) else (if t166 ≥ 0 then (if t167 ≥ 0 then (if t168 < 0 then (gristmilllaw04_FactOrders.j0 k l3 true) else (if t166 < 0 then (if t167 < 0 then (gristmilllaw04_FactOrders.j0 k l3 (decide (t168 ≥ 0))) else (gristmilllaw04_FactOrders.j0 k l3 false)) else (gristmilllaw04_FactOrders.j0 k l3 false))) else (if t166 < 0 then (if t167 < 0 then (gristmilllaw04_FactOrders.j0 k l3 (decide (t168 ≥ 0))) else (gristmilllaw04_FactOrders.j0 k l3 false)) else (gristmilllaw04_FactOrders.j0 k l3 false))) else (if t166 < 0 then (if t167 < 0 then (gristmilllaw04_FactOrders.j0 k l3 (decide (t168 ≥ 0))) else (gristmilllaw04_FactOrders.j0 k l3 false)) else (gristmilllaw04_FactOrders.j0 k l3 false)))) else (if t166 ≥ 0 then (if t167 ≥ 0 then (if t168 < 0 then (gristmilllaw04_FactOrders.j0 k l3 true) else (if t166 < 0 then (if t167 < 0 then (gristmilllaw04_FactOrders.j0 k l3 (decide (t168 ≥ 0))) else (gristmilllaw04_FactOrders.j0 k l3 false)) else (gristmilllaw04_FactOrders.j0 k l3 false))) else (if t166 < 0 then (if t167 < 0 then (gristmilllaw04_FactOrders.j0 k l3 (decide (t168 ≥ 0))) else (gristmilllaw04_FactOrders.j0 k l3 false)) else (gristmilllaw04_FactOrders.j0 k l3 false))) else (if t166 < 0 then (if t167 < 0 then (gristmilllaw04_FactOrders.j0 k l3 (decide (t168 ≥ 0))) else (gristmilllaw04_FactOrders.j0 k l3 false)) else (gristmilllaw04_FactOrders.j0 k l3 false)))) else (if t166 ≥ 0 then (if t167 ≥ 0 then (if t168 < 0 then (gristmilllaw04_FactOrders.j0 k l3 true) else (if t166 < 0 then (if t167 < 0 then (gristmilllaw04_FactOrders.j0 k l3 (decide (t168 ≥ 0))) else (gristmilllaw04_FactOrders.j0 k l3 false)) else (gristmilllaw04_FactOrders.j0 k l3 false))) else (if t166 < 0 then (if t167 < 0 then (gristmilllaw04_FactOrders.j0 k l3 (decide (t168 ≥ 0))) else (gristmilllaw04_FactOrders.j0 k l3 false)) else (gristmilllaw04_FactOrders.j0 k l3 false))) else (if t166 < 0 then (if t167 < 0 then (gristmilllaw04_FactOrders.j0 k l3 (decide (t168 ≥ 0))) else (gristmilllaw04_FactOrders.j0 k l3 false)) else (gristmilllaw04_FactOrders.j0 k l3 false)))) else (gristmilllaw04_FactOrders.j0 k l3 true)))))) = some r := by rw [if_pos rfl] at H; exact H
  clear H
  have H := H1
  clear H1
  replace H := Option.bind_eq_some_iff.mp H
  obtain ⟨t166, A70, H⟩ := H
  replace H : ((fact_Compare.f k a1_0 l1_1 l1_2 a2_0 l2_1 l2_2).bind fun t167 => ((fact_Compare.f k a0_0 l0_1 l0_2 a2_0 l2_1 l2_2).bind fun t168 => ((fact_Compare.f k a1_0 l1_1 l1_2 a0_0 l0_1 l0_2).bind fun t169 => (if t166 = (wrap64 (-t169)) then (if t166 ≤ 0 then (if t167 ≤ 0 then (if t168 > 0 then (gristmilllaw04_FactOrders.j0 k l3 true) else (if t166 ≥ 0 then (if t167 ≥ 0 then (if t168 < 0 then (gristmilllaw04_FactOrders.j0 k l3 true) else (if t166 < 0 then (if t167 < 0 then (gristmilllaw04_FactOrders.j0 k l3 (decide (t168 ≥ 0))) else (gristmilllaw04_FactOrders.j0 k l3 false)) else (gristmilllaw04_FactOrders.j0 k l3 false))) else (if t166 < 0 then (if t167 < 0 then (gristmilllaw04_FactOrders.j0 k l3 (decide (t168 ≥ 0))) else (gristmilllaw04_FactOrders.j0 k l3 false)) else (gristmilllaw04_FactOrders.j0 k l3 false))) else (if t166 < 0 then (if t167 < 0 then (gristmilllaw04_FactOrders.j0 k l3 (decide (t168 ≥ 0))) else (gristmilllaw04_FactOrders.j0 k l3 false)) else (gristmilllaw04_FactOrders.j0 k l3 false)))) else (if t166 ≥ 0 then (if t167 ≥ 0 then (if t168 < 0 then (gristmilllaw04_FactOrders.j0 k l3 true) else (if t166 < 0 then (if t167 < 0 then (gristmilllaw04_FactOrders.j0 k l3 (decide (t168 ≥ 0))) else (gristmilllaw04_FactOrders.j0 k l3 false)) else (gristmilllaw04_FactOrders.j0 k l3 false))) else (if t166 < 0 then (if t167 < 0 then (gristmilllaw04_FactOrders.j0 k l3 (decide (t168 ≥ 0))) else (gristmilllaw04_FactOrders.j0 k l3 false)) else (gristmilllaw04_FactOrders.j0 k l3 false))) else (if t166 < 0 then (if t167 < 0 then (gristmilllaw04_FactOrders.j0 k l3 (decide (t168 ≥ 0))) else (gristmilllaw04_FactOrders.j0 k l3 false)) else (gristmilllaw04_FactOrders.j0 k l3 false)))) else (if t166 ≥ 0 then (if t167 ≥ 0 then (if t168 < 0 then (gristmilllaw04_FactOrders.j0 k l3 true) else (if t166 < 0 then (if t167 < 0 then (gristmilllaw04_FactOrders.j0 k l3 (decide (t168 ≥ 0))) else (gristmilllaw04_FactOrders.j0 k l3 false)) else (gristmilllaw04_FactOrders.j0 k l3 false))) else (if t166 < 0 then (if t167 < 0 then (gristmilllaw04_FactOrders.j0 k l3 (decide (t168 ≥ 0))) else (gristmilllaw04_FactOrders.j0 k l3 false)) else (gristmilllaw04_FactOrders.j0 k l3 false))) else (if t166 < 0 then (if t167 < 0 then (gristmilllaw04_FactOrders.j0 k l3 (decide (t168 ≥ 0))) else (gristmilllaw04_FactOrders.j0 k l3 false)) else (gristmilllaw04_FactOrders.j0 k l3 false)))) else (gristmilllaw04_FactOrders.j0 k l3 true))))) = some r := H
  have A7 := Aside0.mk A70
  clear A70
  replace H := Option.bind_eq_some_iff.mp H
  obtain ⟨t167, A80, H⟩ := H
  replace H : ((fact_Compare.f k a0_0 l0_1 l0_2 a2_0 l2_1 l2_2).bind fun t168 => ((fact_Compare.f k a1_0 l1_1 l1_2 a0_0 l0_1 l0_2).bind fun t169 => (if t166 = (wrap64 (-t169)) then (if t166 ≤ 0 then (if t167 ≤ 0 then (if t168 > 0 then (gristmilllaw04_FactOrders.j0 k l3 true) else (if t166 ≥ 0 then (if t167 ≥ 0 then (if t168 < 0 then (gristmilllaw04_FactOrders.j0 k l3 true) else (if t166 < 0 then (if t167 < 0 then (gristmilllaw04_FactOrders.j0 k l3 (decide (t168 ≥ 0))) else (gristmilllaw04_FactOrders.j0 k l3 false)) else (gristmilllaw04_FactOrders.j0 k l3 false))) else (if t166 < 0 then (if t167 < 0 then (gristmilllaw04_FactOrders.j0 k l3 (decide (t168 ≥ 0))) else (gristmilllaw04_FactOrders.j0 k l3 false)) else (gristmilllaw04_FactOrders.j0 k l3 false))) else (if t166 < 0 then (if t167 < 0 then (gristmilllaw04_FactOrders.j0 k l3 (decide (t168 ≥ 0))) else (gristmilllaw04_FactOrders.j0 k l3 false)) else (gristmilllaw04_FactOrders.j0 k l3 false)))) else (if t166 ≥ 0 then (if t167 ≥ 0 then (if t168 < 0 then (gristmilllaw04_FactOrders.j0 k l3 true) else (if t166 < 0 then (if t167 < 0 then (gristmilllaw04_FactOrders.j0 k l3 (decide (t168 ≥ 0))) else (gristmilllaw04_FactOrders.j0 k l3 false)) else (gristmilllaw04_FactOrders.j0 k l3 false))) else (if t166 < 0 then (if t167 < 0 then (gristmilllaw04_FactOrders.j0 k l3 (decide (t168 ≥ 0))) else (gristmilllaw04_FactOrders.j0 k l3 false)) else (gristmilllaw04_FactOrders.j0 k l3 false))) else (if t166 < 0 then (if t167 < 0 then (gristmilllaw04_FactOrders.j0 k l3 (decide (t168 ≥ 0))) else (gristmilllaw04_FactOrders.j0 k l3 false)) else (gristmilllaw04_FactOrders.j0 k l3 false)))) else (if t166 ≥ 0 then (if t167 ≥ 0 then (if t168 < 0 then (gristmilllaw04_FactOrders.j0 k l3 true) else (if t166 < 0 then (if t167 < 0 then (gristmilllaw04_FactOrders.j0 k l3 (decide (t168 ≥ 0))) else (gristmilllaw04_FactOrders.j0 k l3 false)) else (gristmilllaw04_FactOrders.j0 k l3 false))) else (if t166 < 0 then (if t167 < 0 then (gristmilllaw04_FactOrders.j0 k l3 (decide (t168 ≥ 0))) else (gristmilllaw04_FactOrders.j0 k l3 false)) else (gristmilllaw04_FactOrders.j0 k l3 false))) else (if t166 < 0 then (if t167 < 0 then (gristmilllaw04_FactOrders.j0 k l3 (decide (t168 ≥ 0))) else (gristmilllaw04_FactOrders.j0 k l3 false)) else (gristmilllaw04_FactOrders.j0 k l3 false)))) else (gristmilllaw04_FactOrders.j0 k l3 true)))) = some r := H
  have A8 := Aside0.mk A80
  clear A80
  replace H := Option.bind_eq_some_iff.mp H
  obtain ⟨t168, A90, H⟩ := H
  replace H : ((fact_Compare.f k a1_0 l1_1 l1_2 a0_0 l0_1 l0_2).bind fun t169 => (if t166 = (wrap64 (-t169)) then (if t166 ≤ 0 then (if t167 ≤ 0 then (if t168 > 0 then (gristmilllaw04_FactOrders.j0 k l3 true) else (if t166 ≥ 0 then (if t167 ≥ 0 then (if t168 < 0 then (gristmilllaw04_FactOrders.j0 k l3 true) else (if t166 < 0 then (if t167 < 0 then (gristmilllaw04_FactOrders.j0 k l3 (decide (t168 ≥ 0))) else (gristmilllaw04_FactOrders.j0 k l3 false)) else (gristmilllaw04_FactOrders.j0 k l3 false))) else (if t166 < 0 then (if t167 < 0 then (gristmilllaw04_FactOrders.j0 k l3 (decide (t168 ≥ 0))) else (gristmilllaw04_FactOrders.j0 k l3 false)) else (gristmilllaw04_FactOrders.j0 k l3 false))) else (if t166 < 0 then (if t167 < 0 then (gristmilllaw04_FactOrders.j0 k l3 (decide (t168 ≥ 0))) else (gristmilllaw04_FactOrders.j0 k l3 false)) else (gristmilllaw04_FactOrders.j0 k l3 false)))) else (if t166 ≥ 0 then (if t167 ≥ 0 then (if t168 < 0 then (gristmilllaw04_FactOrders.j0 k l3 true) else (if t166 < 0 then (if t167 < 0 then (gristmilllaw04_FactOrders.j0 k l3 (decide (t168 ≥ 0))) else (gristmilllaw04_FactOrders.j0 k l3 false)) else (gristmilllaw04_FactOrders.j0 k l3 false))) else (if t166 < 0 then (if t167 < 0 then (gristmilllaw04_FactOrders.j0 k l3 (decide (t168 ≥ 0))) else (gristmilllaw04_FactOrders.j0 k l3 false)) else (gristmilllaw04_FactOrders.j0 k l3 false))) else (if t166 < 0 then (if t167 < 0 then (gristmilllaw04_FactOrders.j0 k l3 (decide (t168 ≥ 0))) else (gristmilllaw04_FactOrders.j0 k l3 false)) else (gristmilllaw04_FactOrders.j0 k l3 false)))) else (if t166 ≥ 0 then (if t167 ≥ 0 then (if t168 < 0 then (gristmilllaw04_FactOrders.j0 k l3 true) else (if t166 < 0 then (if t167 < 0 then (gristmilllaw04_FactOrders.j0 k l3 (decide (t168 ≥ 0))) else (gristmilllaw04_FactOrders.j0 k l3 false)) else (gristmilllaw04_FactOrders.j0 k l3 false))) else (if t166 < 0 then (if t167 < 0 then (gristmilllaw04_FactOrders.j0 k l3 (decide (t168 ≥ 0))) else (gristmilllaw04_FactOrders.j0 k l3 false)) else (gristmilllaw04_FactOrders.j0 k l3 false))) else (if t166 < 0 then (if t167 < 0 then (gristmilllaw04_FactOrders.j0 k l3 (decide (t168 ≥ 0))) else (gristmilllaw04_FactOrders.j0 k l3 false)) else (gristmilllaw04_FactOrders.j0 k l3 false)))) else (gristmilllaw04_FactOrders.j0 k l3 true))) = some r := H
  have A9 := Aside0.mk A90
  clear A90
  have HC10 := Aside0.mk H
  clear H
  go_enter Try.func4, Try.ntmps4
  go_upto_region 7 with (first | ((with_reducible refine gate_dst (N := 4) rfl ?_); refine bx_ (N := 4) (cs := #[.int .i64 a0_0, .slice A0_1 l0_1.length c0_1, .slice A0_2 l0_2.length c0_2]) (t := 27) ?_; intro gb162 hg w11 hbox hb; have n0_ := Aside0.mk (below_step (bw_ HB.out) hb); have n1_ := Aside0.mk (hbox); have n2_ := Aside0.mk (sz_ hg (bw_ HB.out)); have n3_ := n2_; clear HB; have HB := n0_; have BK162 := n1_; have GW162 := n2_; have GE162 := n3_; clear n0_ n1_ n2_ n3_; clear hb hbox hg) | ((with_reducible refine gate_dst (N := 5) rfl ?_); refine bx_ (N := 5) (cs := #[.int .i64 a1_0, .slice A1_1 l1_1.length c1_1, .slice A1_2 l1_2.length c1_2]) (t := 27) ?_; intro gb163 hg w12 hbox hb; have n0_ := Aside0.mk (blk_below (bk_ BK162.out) hb); have n1_ := Aside0.mk (below_step (bw_ HB.out) hb); have n2_ := Aside0.mk (hbox); have n3_ := Aside0.mk (sz_ hg (bw_ HB.out)); have n4_ := n3_; have n5_ := Aside0.mk (ne_ hg (blk_lt (bk_ BK162.out))); have n6_ := Aside0.mk n5_.out.symm; clear BK162 HB; have BK162 := n0_; have HB := n1_; have BK163 := n2_; have GW163 := n3_; have GE163 := n4_; have NB162_163 := n5_; have NB163_162 := n6_; clear n0_ n1_ n2_ n3_ n4_ n5_ n6_; clear hb hbox hg) | ((with_reducible refine gate_dst (N := 6) rfl ?_); refine bx_ (N := 6) (cs := #[.int .i64 a2_0, .slice A2_1 l2_1.length c2_1, .slice A2_2 l2_2.length c2_2]) (t := 27) ?_; intro gb164 hg w13 hbox hb; have n0_ := Aside0.mk (blk_below (bk_ BK162.out) hb); have n1_ := Aside0.mk (blk_below (bk_ BK163.out) hb); have n2_ := Aside0.mk (below_step (bw_ HB.out) hb); have n3_ := Aside0.mk (hbox); have n4_ := Aside0.mk (sz_ hg (bw_ HB.out)); have n5_ := n4_; have n6_ := Aside0.mk (ne_ hg (blk_lt (bk_ BK162.out))); have n7_ := Aside0.mk n6_.out.symm; have n8_ := Aside0.mk (ne_ hg (blk_lt (bk_ BK163.out))); have n9_ := Aside0.mk n8_.out.symm; clear BK162 BK163 HB; have BK162 := n0_; have BK163 := n1_; have HB := n2_; have BK164 := n3_; have GW164 := n4_; have GE164 := n5_; have NB162_164 := n6_; have NB164_162 := n7_; have NB163_164 := n8_; have NB164_163 := n9_; clear n0_ n1_ n2_ n3_ n4_ n5_ n6_ n7_ n8_ n9_; clear hb hbox hg) | ((with_reducible refine gate_callee (f := 9) rfl ?_); refine goesL_ (some 15) rfl rfl Try.func9 (by kernel_rfl) rfl #[] rfl (by (try simp only [List.map_toArray, List.map_cons, List.map_nil]); first | done | rfl | (simp only [List.length_drop, List.length_take]; rfl)) ?_; (with_reducible refine (gristmilllaw04_awake.calls  true _ A5.out).mono ?_); rintro e w14 ⟨rfl, hb⟩; refine ⟨_, rfl, ?_⟩; have n0_ := Aside0.mk (blk_below (bk_ BK162.out) hb); have n1_ := Aside0.mk (blk_below (bk_ BK163.out) hb); have n2_ := Aside0.mk (blk_below (bk_ BK164.out) hb); have n3_ := Aside0.mk (below_step (bw_ HB.out) hb); clear BK162 BK163 BK164 HB; have BK162 := n0_; have BK163 := n1_; have BK164 := n2_; have HB := n3_; clear n0_ n1_ n2_ n3_; (try clear hb); (try clear hb2); (try clear hk); (try clear hi); have hnb15 := NB162_163.out; have hnc15 := NB163_162.out; have hnb16 := NB162_164.out; have hnc16 := NB164_162.out; have hcz17_0 : w14.cell? ⟨gb162, 0, none⟩ = some (.int .i64 a0_0) := (blk_cell BK162.out 0).trans rfl; have hcz17_1 : w14.cell? ⟨gb162, 1, none⟩ = some (.slice A0_1 l0_1.length c0_1) := (blk_cell BK162.out 1).trans rfl; have hcz17_2 : w14.cell? ⟨gb162, 2, none⟩ = some (.slice A0_2 l0_2.length c0_2) := (blk_cell BK162.out 2).trans rfl; have hfz17_0 := blk_frozen BK162.out 0; have hfz17_1 := blk_frozen BK162.out 1; have hfz17_2 := blk_frozen BK162.out 2; have hnb18 := NB163_164.out; have hnc18 := NB164_163.out; have hcz19_0 : w14.cell? ⟨gb163, 0, none⟩ = some (.int .i64 a1_0) := (blk_cell BK163.out 0).trans rfl; have hcz19_1 : w14.cell? ⟨gb163, 1, none⟩ = some (.slice A1_1 l1_1.length c1_1) := (blk_cell BK163.out 1).trans rfl; have hcz19_2 : w14.cell? ⟨gb163, 2, none⟩ = some (.slice A1_2 l1_2.length c1_2) := (blk_cell BK163.out 2).trans rfl; have hfz19_0 := blk_frozen BK163.out 0; have hfz19_1 := blk_frozen BK163.out 1; have hfz19_2 := blk_frozen BK163.out 2) | ((with_reducible refine gate_callee (f := 14) rfl ?_); refine goesL_ (some 20) rfl rfl Try.func14 (by kernel_rfl) rfl #[.agg #[.int .i64 a0_0, .slice A0_1 l0_1.length c0_1, .slice A0_2 l0_2.length c0_2], .agg #[.int .i64 a1_0, .slice A1_1 l1_1.length c1_1, .slice A1_2 l1_2.length c1_2]] rfl (by (try simp only [List.map_toArray, List.map_cons, List.map_nil]); first | done | rfl | (simp only [List.length_drop, List.length_take]; rfl)) ?_; (with_reducible refine (fact_Compare.calls k a0_0 _ _ l0_1 _ _ l0_2 a1_0 _ _ l1_1 _ _ l1_2 t166 _ ?side1 ?side2 ?side3 ?side4 ?side5 ?side6 ?side7 ?side8 A7.out).mono ?_); (case side1 => repeat (first | exact (Kd.C_below HR0_1.out HB.out) | (with_reducible refine Kd.C_alloc ?_ _) | (with_reducible refine Kd.C_drewN ?_ _) | (with_reducible refine Kd.C_drew ?_))); (case side2 => exact HC0_1.out); (case side3 => repeat (first | exact (Kd.C_below HR0_2.out HB.out) | (with_reducible refine Kd.C_alloc ?_ _) | (with_reducible refine Kd.C_drewN ?_ _) | (with_reducible refine Kd.C_drew ?_))); (case side4 => exact HC0_2.out); (case side5 => repeat (first | exact (Kd.C_below HR1_1.out HB.out) | (with_reducible refine Kd.C_alloc ?_ _) | (with_reducible refine Kd.C_drewN ?_ _) | (with_reducible refine Kd.C_drew ?_))); (case side6 => exact HC1_1.out); (case side7 => repeat (first | exact (Kd.C_below HR1_2.out HB.out) | (with_reducible refine Kd.C_alloc ?_ _) | (with_reducible refine Kd.C_drewN ?_ _) | (with_reducible refine Kd.C_drew ?_))); (case side8 => exact HC1_2.out); rintro e w20 ⟨rfl, hb⟩; refine ⟨_, rfl, ?_⟩; have n0_ := Aside0.mk (blk_below (bk_ BK162.out) hb); have n1_ := Aside0.mk (blk_below (bk_ BK163.out) hb); have n2_ := Aside0.mk (blk_below (bk_ BK164.out) hb); have n3_ := Aside0.mk (below_step (bw_ HB.out) hb); clear BK162 BK163 BK164 HB; have BK162 := n0_; have BK163 := n1_; have BK164 := n2_; have HB := n3_; clear n0_ n1_ n2_ n3_; (try clear hb); (try clear hb2); (try clear hk); (try clear hi); have hcz21_0 : w20.cell? ⟨gb163, 0, none⟩ = some (.int .i64 a1_0) := (blk_cell BK163.out 0).trans rfl; have hcz21_1 : w20.cell? ⟨gb163, 1, none⟩ = some (.slice A1_1 l1_1.length c1_1) := (blk_cell BK163.out 1).trans rfl; have hcz21_2 : w20.cell? ⟨gb163, 2, none⟩ = some (.slice A1_2 l1_2.length c1_2) := (blk_cell BK163.out 2).trans rfl; have hfz21_0 := blk_frozen BK163.out 0; have hfz21_1 := blk_frozen BK163.out 1; have hfz21_2 := blk_frozen BK163.out 2; have hcz22_0 : w20.cell? ⟨gb164, 0, none⟩ = some (.int .i64 a2_0) := (blk_cell BK164.out 0).trans rfl; have hcz22_1 : w20.cell? ⟨gb164, 1, none⟩ = some (.slice A2_1 l2_1.length c2_1) := (blk_cell BK164.out 1).trans rfl; have hcz22_2 : w20.cell? ⟨gb164, 2, none⟩ = some (.slice A2_2 l2_2.length c2_2) := (blk_cell BK164.out 2).trans rfl; have hfz22_0 := blk_frozen BK164.out 0; have hfz22_1 := blk_frozen BK164.out 1; have hfz22_2 := blk_frozen BK164.out 2) | ((with_reducible refine gate_callee (f := 14) rfl ?_); refine goesL_ (some 23) rfl rfl Try.func14 (by kernel_rfl) rfl #[.agg #[.int .i64 a1_0, .slice A1_1 l1_1.length c1_1, .slice A1_2 l1_2.length c1_2], .agg #[.int .i64 a2_0, .slice A2_1 l2_1.length c2_1, .slice A2_2 l2_2.length c2_2]] rfl (by (try simp only [List.map_toArray, List.map_cons, List.map_nil]); first | done | rfl | (simp only [List.length_drop, List.length_take]; rfl)) ?_; (with_reducible refine (fact_Compare.calls k a1_0 _ _ l1_1 _ _ l1_2 a2_0 _ _ l2_1 _ _ l2_2 t167 _ ?side1 ?side2 ?side3 ?side4 ?side5 ?side6 ?side7 ?side8 A8.out).mono ?_); (case side1 => repeat (first | exact (Kd.C_below HR1_1.out HB.out) | (with_reducible refine Kd.C_alloc ?_ _) | (with_reducible refine Kd.C_drewN ?_ _) | (with_reducible refine Kd.C_drew ?_))); (case side2 => exact HC1_1.out); (case side3 => repeat (first | exact (Kd.C_below HR1_2.out HB.out) | (with_reducible refine Kd.C_alloc ?_ _) | (with_reducible refine Kd.C_drewN ?_ _) | (with_reducible refine Kd.C_drew ?_))); (case side4 => exact HC1_2.out); (case side5 => repeat (first | exact (Kd.C_below HR2_1.out HB.out) | (with_reducible refine Kd.C_alloc ?_ _) | (with_reducible refine Kd.C_drewN ?_ _) | (with_reducible refine Kd.C_drew ?_))); (case side6 => exact HC2_1.out); (case side7 => repeat (first | exact (Kd.C_below HR2_2.out HB.out) | (with_reducible refine Kd.C_alloc ?_ _) | (with_reducible refine Kd.C_drewN ?_ _) | (with_reducible refine Kd.C_drew ?_))); (case side8 => exact HC2_2.out); rintro e w23 ⟨rfl, hb⟩; refine ⟨_, rfl, ?_⟩; have n0_ := Aside0.mk (blk_below (bk_ BK162.out) hb); have n1_ := Aside0.mk (blk_below (bk_ BK163.out) hb); have n2_ := Aside0.mk (blk_below (bk_ BK164.out) hb); have n3_ := Aside0.mk (below_step (bw_ HB.out) hb); clear BK162 BK163 BK164 HB; have BK162 := n0_; have BK163 := n1_; have BK164 := n2_; have HB := n3_; clear n0_ n1_ n2_ n3_; (try clear hb); (try clear hb2); (try clear hk); (try clear hi); have hcz24_0 : w23.cell? ⟨gb162, 0, none⟩ = some (.int .i64 a0_0) := (blk_cell BK162.out 0).trans rfl; have hcz24_1 : w23.cell? ⟨gb162, 1, none⟩ = some (.slice A0_1 l0_1.length c0_1) := (blk_cell BK162.out 1).trans rfl; have hcz24_2 : w23.cell? ⟨gb162, 2, none⟩ = some (.slice A0_2 l0_2.length c0_2) := (blk_cell BK162.out 2).trans rfl; have hfz24_0 := blk_frozen BK162.out 0; have hfz24_1 := blk_frozen BK162.out 1; have hfz24_2 := blk_frozen BK162.out 2; have hcz25_0 : w23.cell? ⟨gb164, 0, none⟩ = some (.int .i64 a2_0) := (blk_cell BK164.out 0).trans rfl; have hcz25_1 : w23.cell? ⟨gb164, 1, none⟩ = some (.slice A2_1 l2_1.length c2_1) := (blk_cell BK164.out 1).trans rfl; have hcz25_2 : w23.cell? ⟨gb164, 2, none⟩ = some (.slice A2_2 l2_2.length c2_2) := (blk_cell BK164.out 2).trans rfl; have hfz25_0 := blk_frozen BK164.out 0; have hfz25_1 := blk_frozen BK164.out 1; have hfz25_2 := blk_frozen BK164.out 2) | ((with_reducible refine gate_callee (f := 14) rfl ?_); refine goesL_ (some 26) rfl rfl Try.func14 (by kernel_rfl) rfl #[.agg #[.int .i64 a0_0, .slice A0_1 l0_1.length c0_1, .slice A0_2 l0_2.length c0_2], .agg #[.int .i64 a2_0, .slice A2_1 l2_1.length c2_1, .slice A2_2 l2_2.length c2_2]] rfl (by (try simp only [List.map_toArray, List.map_cons, List.map_nil]); first | done | rfl | (simp only [List.length_drop, List.length_take]; rfl)) ?_; (with_reducible refine (fact_Compare.calls k a0_0 _ _ l0_1 _ _ l0_2 a2_0 _ _ l2_1 _ _ l2_2 t168 _ ?side1 ?side2 ?side3 ?side4 ?side5 ?side6 ?side7 ?side8 A9.out).mono ?_); (case side1 => repeat (first | exact (Kd.C_below HR0_1.out HB.out) | (with_reducible refine Kd.C_alloc ?_ _) | (with_reducible refine Kd.C_drewN ?_ _) | (with_reducible refine Kd.C_drew ?_))); (case side2 => exact HC0_1.out); (case side3 => repeat (first | exact (Kd.C_below HR0_2.out HB.out) | (with_reducible refine Kd.C_alloc ?_ _) | (with_reducible refine Kd.C_drewN ?_ _) | (with_reducible refine Kd.C_drew ?_))); (case side4 => exact HC0_2.out); (case side5 => repeat (first | exact (Kd.C_below HR2_1.out HB.out) | (with_reducible refine Kd.C_alloc ?_ _) | (with_reducible refine Kd.C_drewN ?_ _) | (with_reducible refine Kd.C_drew ?_))); (case side6 => exact HC2_1.out); (case side7 => repeat (first | exact (Kd.C_below HR2_2.out HB.out) | (with_reducible refine Kd.C_alloc ?_ _) | (with_reducible refine Kd.C_drewN ?_ _) | (with_reducible refine Kd.C_drew ?_))); (case side8 => exact HC2_2.out); rintro e w26 ⟨rfl, hb⟩; refine ⟨_, rfl, ?_⟩; have n0_ := Aside0.mk (blk_below (bk_ BK162.out) hb); have n1_ := Aside0.mk (blk_below (bk_ BK163.out) hb); have n2_ := Aside0.mk (blk_below (bk_ BK164.out) hb); have n3_ := Aside0.mk (below_step (bw_ HB.out) hb); clear BK162 BK163 BK164 HB; have BK162 := n0_; have BK163 := n1_; have BK164 := n2_; have HB := n3_; clear n0_ n1_ n2_ n3_; (try clear hb); (try clear hb2); (try clear hk); (try clear hi)))
  (try simp only [Act.put, q1_, q2_, q3_])
  go_cut [68] (fun v68 wc => ∃ (kq : Nat) (x68_9 : Bool), v68 = .bool x68_9 ∧ Aside0 (gristmilllaw04_FactOrders.j0 kq l3 x68_9 = some r) ∧ Aside0 (kq ≤ k) ∧ Aside0 (wc.heap[gb162]? = some (.cells #[.int .i64 a0_0, (.slice A0_1 l0_1.length c0_1), (.slice A0_2 l0_2.length c0_2)] 27 (0, 0))) ∧ Aside0 (wc.heap[gb163]? = some (.cells #[.int .i64 a1_0, (.slice A1_1 l1_1.length c1_1), (.slice A1_2 l1_2.length c1_2)] 27 (0, 0))) ∧ Aside0 (wc.heap[gb164]? = some (.cells #[.int .i64 a2_0, (.slice A2_1 l2_1.length c2_1), (.slice A2_2 l2_2.length c2_2)] 27 (0, 0))) ∧ Aside0 (Below w.heap.size w wc))
  case first =>
   have H := HC10.out
   clear HC10
   replace H := Option.bind_eq_some_iff.mp H
   obtain ⟨t169, A270, H⟩ := H
   replace H : (if t166 = (wrap64 (-t169)) then (if t166 ≤ 0 then (if t167 ≤ 0 then (if t168 > 0 then (gristmilllaw04_FactOrders.j0 k l3 true) else (if t166 ≥ 0 then (if t167 ≥ 0 then (if t168 < 0 then (gristmilllaw04_FactOrders.j0 k l3 true) else (if t166 < 0 then (if t167 < 0 then (gristmilllaw04_FactOrders.j0 k l3 (decide (t168 ≥ 0))) else (gristmilllaw04_FactOrders.j0 k l3 false)) else (gristmilllaw04_FactOrders.j0 k l3 false))) else (if t166 < 0 then (if t167 < 0 then (gristmilllaw04_FactOrders.j0 k l3 (decide (t168 ≥ 0))) else (gristmilllaw04_FactOrders.j0 k l3 false)) else (gristmilllaw04_FactOrders.j0 k l3 false))) else (if t166 < 0 then (if t167 < 0 then (gristmilllaw04_FactOrders.j0 k l3 (decide (t168 ≥ 0))) else (gristmilllaw04_FactOrders.j0 k l3 false)) else (gristmilllaw04_FactOrders.j0 k l3 false)))) else (if t166 ≥ 0 then (if t167 ≥ 0 then (if t168 < 0 then (gristmilllaw04_FactOrders.j0 k l3 true) else (if t166 < 0 then (if t167 < 0 then (gristmilllaw04_FactOrders.j0 k l3 (decide (t168 ≥ 0))) else (gristmilllaw04_FactOrders.j0 k l3 false)) else (gristmilllaw04_FactOrders.j0 k l3 false))) else (if t166 < 0 then (if t167 < 0 then (gristmilllaw04_FactOrders.j0 k l3 (decide (t168 ≥ 0))) else (gristmilllaw04_FactOrders.j0 k l3 false)) else (gristmilllaw04_FactOrders.j0 k l3 false))) else (if t166 < 0 then (if t167 < 0 then (gristmilllaw04_FactOrders.j0 k l3 (decide (t168 ≥ 0))) else (gristmilllaw04_FactOrders.j0 k l3 false)) else (gristmilllaw04_FactOrders.j0 k l3 false)))) else (if t166 ≥ 0 then (if t167 ≥ 0 then (if t168 < 0 then (gristmilllaw04_FactOrders.j0 k l3 true) else (if t166 < 0 then (if t167 < 0 then (gristmilllaw04_FactOrders.j0 k l3 (decide (t168 ≥ 0))) else (gristmilllaw04_FactOrders.j0 k l3 false)) else (gristmilllaw04_FactOrders.j0 k l3 false))) else (if t166 < 0 then (if t167 < 0 then (gristmilllaw04_FactOrders.j0 k l3 (decide (t168 ≥ 0))) else (gristmilllaw04_FactOrders.j0 k l3 false)) else (gristmilllaw04_FactOrders.j0 k l3 false))) else (if t166 < 0 then (if t167 < 0 then (gristmilllaw04_FactOrders.j0 k l3 (decide (t168 ≥ 0))) else (gristmilllaw04_FactOrders.j0 k l3 false)) else (gristmilllaw04_FactOrders.j0 k l3 false)))) else (gristmilllaw04_FactOrders.j0 k l3 true)) = some r := H
   have A27 := Aside0.mk A270
   clear A270
   by_cases c28 : t166 = (wrap64 (-t169))
   ·rw [if_pos c28] at H
    have c28b0 : (t166 == (wrap64 (-t169))) = true := beq_iff_eq.mpr c28
    have c28b1 : (t166 != (wrap64 (-t169))) = false := bne_eq_false_iff_eq.mpr c28
    clear c28
    (first | rw [c28b0] | (simp only [i64_w, i32_w]; rw [c28b0]) | skip)
    by_cases c29 : t166 ≤ 0
    ·rw [if_pos c29] at H
     have c29b0 : decide (t166 ≤ 0) = true := decide_eq_true c29
     clear c29
     by_cases c30 : t167 ≤ 0
     ·rw [if_pos c30] at H
      have c30b0 : decide (t167 ≤ 0) = true := decide_eq_true c30
      clear c30
      by_cases c31 : t168 > 0
      ·rw [if_pos c31] at H
       have c31b0 : decide (0 < t168) = true := decide_eq_true c31
       clear c31
       have H' := Aside0.mk H
       clear H
       have hnb32 := NB163_162.out
       have hnc32 := NB162_163.out
       have hnb33 := NB163_164.out
       have hnc33 := NB164_163.out
       have hcz34_0 : w26.cell? ⟨gb163, 0, none⟩ = some (.int .i64 a1_0) := (blk_cell BK163.out 0).trans rfl
       have hcz34_1 : w26.cell? ⟨gb163, 1, none⟩ = some (.slice A1_1 l1_1.length c1_1) := (blk_cell BK163.out 1).trans rfl
       have hcz34_2 : w26.cell? ⟨gb163, 2, none⟩ = some (.slice A1_2 l1_2.length c1_2) := (blk_cell BK163.out 2).trans rfl
       have hfz34_0 := blk_frozen BK163.out 0
       have hfz34_1 := blk_frozen BK163.out 1
       have hfz34_2 := blk_frozen BK163.out 2
       have hnb35 := NB162_164.out
       have hnc35 := NB164_162.out
       have hcz36_0 : w26.cell? ⟨gb162, 0, none⟩ = some (.int .i64 a0_0) := (blk_cell BK162.out 0).trans rfl
       have hcz36_1 : w26.cell? ⟨gb162, 1, none⟩ = some (.slice A0_1 l0_1.length c0_1) := (blk_cell BK162.out 1).trans rfl
       have hcz36_2 : w26.cell? ⟨gb162, 2, none⟩ = some (.slice A0_2 l0_2.length c0_2) := (blk_cell BK162.out 2).trans rfl
       have hfz36_0 := blk_frozen BK162.out 0
       have hfz36_1 := blk_frozen BK162.out 1
       have hfz36_2 := blk_frozen BK162.out 2
       go_wp2_with (first | ((with_reducible refine gate_callee (f := 14) rfl ?_); refine goesL_ (some 30) rfl rfl Try.func14 (by kernel_rfl) rfl #[.agg #[.int .i64 a1_0, .slice A1_1 l1_1.length c1_1, .slice A1_2 l1_2.length c1_2], .agg #[.int .i64 a0_0, .slice A0_1 l0_1.length c0_1, .slice A0_2 l0_2.length c0_2]] rfl (by (try simp only [List.map_toArray, List.map_cons, List.map_nil]); first | done | rfl | (simp only [List.length_drop, List.length_take]; rfl)) ?_; (with_reducible refine (fact_Compare.calls k a1_0 _ _ l1_1 _ _ l1_2 a0_0 _ _ l0_1 _ _ l0_2 t169 _ ?side1 ?side2 ?side3 ?side4 ?side5 ?side6 ?side7 ?side8 A27.out).mono ?_); (case side1 => repeat (first | exact (Kd.C_below HR1_1.out HB.out) | (with_reducible refine Kd.C_alloc ?_ _) | (with_reducible refine Kd.C_drewN ?_ _) | (with_reducible refine Kd.C_drew ?_))); (case side2 => exact HC1_1.out); (case side3 => repeat (first | exact (Kd.C_below HR1_2.out HB.out) | (with_reducible refine Kd.C_alloc ?_ _) | (with_reducible refine Kd.C_drewN ?_ _) | (with_reducible refine Kd.C_drew ?_))); (case side4 => exact HC1_2.out); (case side5 => repeat (first | exact (Kd.C_below HR0_1.out HB.out) | (with_reducible refine Kd.C_alloc ?_ _) | (with_reducible refine Kd.C_drewN ?_ _) | (with_reducible refine Kd.C_drew ?_))); (case side6 => exact HC0_1.out); (case side7 => repeat (first | exact (Kd.C_below HR0_2.out HB.out) | (with_reducible refine Kd.C_alloc ?_ _) | (with_reducible refine Kd.C_drewN ?_ _) | (with_reducible refine Kd.C_drew ?_))); (case side8 => exact HC0_2.out); rintro e w37 ⟨rfl, hb⟩; refine ⟨_, rfl, ?_⟩; have n0_ := Aside0.mk (blk_below (bk_ BK162.out) hb); have n1_ := Aside0.mk (blk_below (bk_ BK163.out) hb); have n2_ := Aside0.mk (blk_below (bk_ BK164.out) hb); have n3_ := Aside0.mk (below_step (bw_ HB.out) hb); clear BK162 BK163 BK164 HB; have BK162 := n0_; have BK163 := n1_; have BK164 := n2_; have HB := n3_; clear n0_ n1_ n2_ n3_; (try clear hb); (try clear hb2); (try clear hk); (try clear hi)))
       go_meet
       case rel => exact ⟨_, (true), (by first | rfl | (simp; done) | (simp [*]; done)), H', ⟨by first | omega | exact Nat.le_refl _⟩, ⟨by (with_reducible repeat (first | refine blk_drewN ?_ _ | refine blk_drew ?_ | refine blk_alloc ?_ _)); exact BK162.out⟩, ⟨by (with_reducible repeat (first | refine blk_drewN ?_ _ | refine blk_drew ?_ | refine blk_alloc ?_ _)); exact BK163.out⟩, ⟨by (with_reducible repeat (first | refine blk_drewN ?_ _ | refine blk_drew ?_ | refine blk_alloc ?_ _)); exact BK164.out⟩, ⟨by repeat (first | (with_reducible first | exact HB.out | apply below_alloc | apply pw_below_drewN | apply below_drew1 | refine below_set ?_ GE162.out | refine below_set ?_ GE163.out | refine below_set ?_ GE164.out) | exact HB.out)⟩⟩
      ·rw [if_neg c31] at H
       have c31b0 : decide (0 < t168) = false := decide_eq_false c31
       clear c31
       by_cases c38 : t166 ≥ 0
       ·rw [if_pos c38] at H
        have c38b0 : decide (0 ≤ t166) = true := decide_eq_true c38
        clear c38
        by_cases c39 : t167 ≥ 0
        ·rw [if_pos c39] at H
         have c39b0 : decide (0 ≤ t167) = true := decide_eq_true c39
         clear c39
         by_cases c40 : t168 < 0
         ·rw [if_pos c40] at H
          have c40b0 : decide (t168 < 0) = true := decide_eq_true c40
          clear c40
          have H' := Aside0.mk H
          clear H
          have hnb41 := NB163_162.out
          have hnc41 := NB162_163.out
          have hnb42 := NB163_164.out
          have hnc42 := NB164_163.out
          have hcz43_0 : w26.cell? ⟨gb163, 0, none⟩ = some (.int .i64 a1_0) := (blk_cell BK163.out 0).trans rfl
          have hcz43_1 : w26.cell? ⟨gb163, 1, none⟩ = some (.slice A1_1 l1_1.length c1_1) := (blk_cell BK163.out 1).trans rfl
          have hcz43_2 : w26.cell? ⟨gb163, 2, none⟩ = some (.slice A1_2 l1_2.length c1_2) := (blk_cell BK163.out 2).trans rfl
          have hfz43_0 := blk_frozen BK163.out 0
          have hfz43_1 := blk_frozen BK163.out 1
          have hfz43_2 := blk_frozen BK163.out 2
          have hnb44 := NB162_164.out
          have hnc44 := NB164_162.out
          have hcz45_0 : w26.cell? ⟨gb162, 0, none⟩ = some (.int .i64 a0_0) := (blk_cell BK162.out 0).trans rfl
          have hcz45_1 : w26.cell? ⟨gb162, 1, none⟩ = some (.slice A0_1 l0_1.length c0_1) := (blk_cell BK162.out 1).trans rfl
          have hcz45_2 : w26.cell? ⟨gb162, 2, none⟩ = some (.slice A0_2 l0_2.length c0_2) := (blk_cell BK162.out 2).trans rfl
          have hfz45_0 := blk_frozen BK162.out 0
          have hfz45_1 := blk_frozen BK162.out 1
          have hfz45_2 := blk_frozen BK162.out 2
          go_wp2_with (first | ((with_reducible refine gate_callee (f := 14) rfl ?_); refine goesL_ (some 30) rfl rfl Try.func14 (by kernel_rfl) rfl #[.agg #[.int .i64 a1_0, .slice A1_1 l1_1.length c1_1, .slice A1_2 l1_2.length c1_2], .agg #[.int .i64 a0_0, .slice A0_1 l0_1.length c0_1, .slice A0_2 l0_2.length c0_2]] rfl (by (try simp only [List.map_toArray, List.map_cons, List.map_nil]); first | done | rfl | (simp only [List.length_drop, List.length_take]; rfl)) ?_; (with_reducible refine (fact_Compare.calls k a1_0 _ _ l1_1 _ _ l1_2 a0_0 _ _ l0_1 _ _ l0_2 t169 _ ?side1 ?side2 ?side3 ?side4 ?side5 ?side6 ?side7 ?side8 A27.out).mono ?_); (case side1 => repeat (first | exact (Kd.C_below HR1_1.out HB.out) | (with_reducible refine Kd.C_alloc ?_ _) | (with_reducible refine Kd.C_drewN ?_ _) | (with_reducible refine Kd.C_drew ?_))); (case side2 => exact HC1_1.out); (case side3 => repeat (first | exact (Kd.C_below HR1_2.out HB.out) | (with_reducible refine Kd.C_alloc ?_ _) | (with_reducible refine Kd.C_drewN ?_ _) | (with_reducible refine Kd.C_drew ?_))); (case side4 => exact HC1_2.out); (case side5 => repeat (first | exact (Kd.C_below HR0_1.out HB.out) | (with_reducible refine Kd.C_alloc ?_ _) | (with_reducible refine Kd.C_drewN ?_ _) | (with_reducible refine Kd.C_drew ?_))); (case side6 => exact HC0_1.out); (case side7 => repeat (first | exact (Kd.C_below HR0_2.out HB.out) | (with_reducible refine Kd.C_alloc ?_ _) | (with_reducible refine Kd.C_drewN ?_ _) | (with_reducible refine Kd.C_drew ?_))); (case side8 => exact HC0_2.out); rintro e w46 ⟨rfl, hb⟩; refine ⟨_, rfl, ?_⟩; have n0_ := Aside0.mk (blk_below (bk_ BK162.out) hb); have n1_ := Aside0.mk (blk_below (bk_ BK163.out) hb); have n2_ := Aside0.mk (blk_below (bk_ BK164.out) hb); have n3_ := Aside0.mk (below_step (bw_ HB.out) hb); clear BK162 BK163 BK164 HB; have BK162 := n0_; have BK163 := n1_; have BK164 := n2_; have HB := n3_; clear n0_ n1_ n2_ n3_; (try clear hb); (try clear hb2); (try clear hk); (try clear hi)))
          go_meet
          case rel => exact ⟨_, (true), (by first | rfl | (simp; done) | (simp [*]; done)), H', ⟨by first | omega | exact Nat.le_refl _⟩, ⟨by (with_reducible repeat (first | refine blk_drewN ?_ _ | refine blk_drew ?_ | refine blk_alloc ?_ _)); exact BK162.out⟩, ⟨by (with_reducible repeat (first | refine blk_drewN ?_ _ | refine blk_drew ?_ | refine blk_alloc ?_ _)); exact BK163.out⟩, ⟨by (with_reducible repeat (first | refine blk_drewN ?_ _ | refine blk_drew ?_ | refine blk_alloc ?_ _)); exact BK164.out⟩, ⟨by repeat (first | (with_reducible first | exact HB.out | apply below_alloc | apply pw_below_drewN | apply below_drew1 | refine below_set ?_ GE162.out | refine below_set ?_ GE163.out | refine below_set ?_ GE164.out) | exact HB.out)⟩⟩
         ·rw [if_neg c40] at H
          have c40b0 : decide (t168 < 0) = false := decide_eq_false c40
          clear c40
          by_cases c47 : t166 < 0
          ·rw [if_pos c47] at H
           have c47b0 : decide (t166 < 0) = true := decide_eq_true c47
           clear c47
           by_cases c48 : t167 < 0
           ·rw [if_pos c48] at H
            have c48b0 : decide (t167 < 0) = true := decide_eq_true c48
            clear c48
            have H' := Aside0.mk H
            clear H
            have hnb49 := NB163_162.out
            have hnc49 := NB162_163.out
            have hnb50 := NB163_164.out
            have hnc50 := NB164_163.out
            have hcz51_0 : w26.cell? ⟨gb163, 0, none⟩ = some (.int .i64 a1_0) := (blk_cell BK163.out 0).trans rfl
            have hcz51_1 : w26.cell? ⟨gb163, 1, none⟩ = some (.slice A1_1 l1_1.length c1_1) := (blk_cell BK163.out 1).trans rfl
            have hcz51_2 : w26.cell? ⟨gb163, 2, none⟩ = some (.slice A1_2 l1_2.length c1_2) := (blk_cell BK163.out 2).trans rfl
            have hfz51_0 := blk_frozen BK163.out 0
            have hfz51_1 := blk_frozen BK163.out 1
            have hfz51_2 := blk_frozen BK163.out 2
            have hnb52 := NB162_164.out
            have hnc52 := NB164_162.out
            have hcz53_0 : w26.cell? ⟨gb162, 0, none⟩ = some (.int .i64 a0_0) := (blk_cell BK162.out 0).trans rfl
            have hcz53_1 : w26.cell? ⟨gb162, 1, none⟩ = some (.slice A0_1 l0_1.length c0_1) := (blk_cell BK162.out 1).trans rfl
            have hcz53_2 : w26.cell? ⟨gb162, 2, none⟩ = some (.slice A0_2 l0_2.length c0_2) := (blk_cell BK162.out 2).trans rfl
            have hfz53_0 := blk_frozen BK162.out 0
            have hfz53_1 := blk_frozen BK162.out 1
            have hfz53_2 := blk_frozen BK162.out 2
            go_wp2_with (first | ((with_reducible refine gate_callee (f := 14) rfl ?_); refine goesL_ (some 30) rfl rfl Try.func14 (by kernel_rfl) rfl #[.agg #[.int .i64 a1_0, .slice A1_1 l1_1.length c1_1, .slice A1_2 l1_2.length c1_2], .agg #[.int .i64 a0_0, .slice A0_1 l0_1.length c0_1, .slice A0_2 l0_2.length c0_2]] rfl (by (try simp only [List.map_toArray, List.map_cons, List.map_nil]); first | done | rfl | (simp only [List.length_drop, List.length_take]; rfl)) ?_; (with_reducible refine (fact_Compare.calls k a1_0 _ _ l1_1 _ _ l1_2 a0_0 _ _ l0_1 _ _ l0_2 t169 _ ?side1 ?side2 ?side3 ?side4 ?side5 ?side6 ?side7 ?side8 A27.out).mono ?_); (case side1 => repeat (first | exact (Kd.C_below HR1_1.out HB.out) | (with_reducible refine Kd.C_alloc ?_ _) | (with_reducible refine Kd.C_drewN ?_ _) | (with_reducible refine Kd.C_drew ?_))); (case side2 => exact HC1_1.out); (case side3 => repeat (first | exact (Kd.C_below HR1_2.out HB.out) | (with_reducible refine Kd.C_alloc ?_ _) | (with_reducible refine Kd.C_drewN ?_ _) | (with_reducible refine Kd.C_drew ?_))); (case side4 => exact HC1_2.out); (case side5 => repeat (first | exact (Kd.C_below HR0_1.out HB.out) | (with_reducible refine Kd.C_alloc ?_ _) | (with_reducible refine Kd.C_drewN ?_ _) | (with_reducible refine Kd.C_drew ?_))); (case side6 => exact HC0_1.out); (case side7 => repeat (first | exact (Kd.C_below HR0_2.out HB.out) | (with_reducible refine Kd.C_alloc ?_ _) | (with_reducible refine Kd.C_drewN ?_ _) | (with_reducible refine Kd.C_drew ?_))); (case side8 => exact HC0_2.out); rintro e w54 ⟨rfl, hb⟩; refine ⟨_, rfl, ?_⟩; have n0_ := Aside0.mk (blk_below (bk_ BK162.out) hb); have n1_ := Aside0.mk (blk_below (bk_ BK163.out) hb); have n2_ := Aside0.mk (blk_below (bk_ BK164.out) hb); have n3_ := Aside0.mk (below_step (bw_ HB.out) hb); clear BK162 BK163 BK164 HB; have BK162 := n0_; have BK163 := n1_; have BK164 := n2_; have HB := n3_; clear n0_ n1_ n2_ n3_; (try clear hb); (try clear hb2); (try clear hk); (try clear hi)))
            go_meet
            case rel => exact ⟨_, (decide (t168 ≥ 0)), (by first | rfl | (simp; done) | (simp [*]; done)), H', ⟨by first | omega | exact Nat.le_refl _⟩, ⟨by (with_reducible repeat (first | refine blk_drewN ?_ _ | refine blk_drew ?_ | refine blk_alloc ?_ _)); exact BK162.out⟩, ⟨by (with_reducible repeat (first | refine blk_drewN ?_ _ | refine blk_drew ?_ | refine blk_alloc ?_ _)); exact BK163.out⟩, ⟨by (with_reducible repeat (first | refine blk_drewN ?_ _ | refine blk_drew ?_ | refine blk_alloc ?_ _)); exact BK164.out⟩, ⟨by repeat (first | (with_reducible first | exact HB.out | apply below_alloc | apply pw_below_drewN | apply below_drew1 | refine below_set ?_ GE162.out | refine below_set ?_ GE163.out | refine below_set ?_ GE164.out) | exact HB.out)⟩⟩
           ·rw [if_neg c48] at H
            have c48b0 : decide (t167 < 0) = false := decide_eq_false c48
            clear c48
            have H' := Aside0.mk H
            clear H
            have hnb55 := NB163_162.out
            have hnc55 := NB162_163.out
            have hnb56 := NB163_164.out
            have hnc56 := NB164_163.out
            have hcz57_0 : w26.cell? ⟨gb163, 0, none⟩ = some (.int .i64 a1_0) := (blk_cell BK163.out 0).trans rfl
            have hcz57_1 : w26.cell? ⟨gb163, 1, none⟩ = some (.slice A1_1 l1_1.length c1_1) := (blk_cell BK163.out 1).trans rfl
            have hcz57_2 : w26.cell? ⟨gb163, 2, none⟩ = some (.slice A1_2 l1_2.length c1_2) := (blk_cell BK163.out 2).trans rfl
            have hfz57_0 := blk_frozen BK163.out 0
            have hfz57_1 := blk_frozen BK163.out 1
            have hfz57_2 := blk_frozen BK163.out 2
            have hnb58 := NB162_164.out
            have hnc58 := NB164_162.out
            have hcz59_0 : w26.cell? ⟨gb162, 0, none⟩ = some (.int .i64 a0_0) := (blk_cell BK162.out 0).trans rfl
            have hcz59_1 : w26.cell? ⟨gb162, 1, none⟩ = some (.slice A0_1 l0_1.length c0_1) := (blk_cell BK162.out 1).trans rfl
            have hcz59_2 : w26.cell? ⟨gb162, 2, none⟩ = some (.slice A0_2 l0_2.length c0_2) := (blk_cell BK162.out 2).trans rfl
            have hfz59_0 := blk_frozen BK162.out 0
            have hfz59_1 := blk_frozen BK162.out 1
            have hfz59_2 := blk_frozen BK162.out 2
            go_wp2_with (first | ((with_reducible refine gate_callee (f := 14) rfl ?_); refine goesL_ (some 30) rfl rfl Try.func14 (by kernel_rfl) rfl #[.agg #[.int .i64 a1_0, .slice A1_1 l1_1.length c1_1, .slice A1_2 l1_2.length c1_2], .agg #[.int .i64 a0_0, .slice A0_1 l0_1.length c0_1, .slice A0_2 l0_2.length c0_2]] rfl (by (try simp only [List.map_toArray, List.map_cons, List.map_nil]); first | done | rfl | (simp only [List.length_drop, List.length_take]; rfl)) ?_; (with_reducible refine (fact_Compare.calls k a1_0 _ _ l1_1 _ _ l1_2 a0_0 _ _ l0_1 _ _ l0_2 t169 _ ?side1 ?side2 ?side3 ?side4 ?side5 ?side6 ?side7 ?side8 A27.out).mono ?_); (case side1 => repeat (first | exact (Kd.C_below HR1_1.out HB.out) | (with_reducible refine Kd.C_alloc ?_ _) | (with_reducible refine Kd.C_drewN ?_ _) | (with_reducible refine Kd.C_drew ?_))); (case side2 => exact HC1_1.out); (case side3 => repeat (first | exact (Kd.C_below HR1_2.out HB.out) | (with_reducible refine Kd.C_alloc ?_ _) | (with_reducible refine Kd.C_drewN ?_ _) | (with_reducible refine Kd.C_drew ?_))); (case side4 => exact HC1_2.out); (case side5 => repeat (first | exact (Kd.C_below HR0_1.out HB.out) | (with_reducible refine Kd.C_alloc ?_ _) | (with_reducible refine Kd.C_drewN ?_ _) | (with_reducible refine Kd.C_drew ?_))); (case side6 => exact HC0_1.out); (case side7 => repeat (first | exact (Kd.C_below HR0_2.out HB.out) | (with_reducible refine Kd.C_alloc ?_ _) | (with_reducible refine Kd.C_drewN ?_ _) | (with_reducible refine Kd.C_drew ?_))); (case side8 => exact HC0_2.out); rintro e w60 ⟨rfl, hb⟩; refine ⟨_, rfl, ?_⟩; have n0_ := Aside0.mk (blk_below (bk_ BK162.out) hb); have n1_ := Aside0.mk (blk_below (bk_ BK163.out) hb); have n2_ := Aside0.mk (blk_below (bk_ BK164.out) hb); have n3_ := Aside0.mk (below_step (bw_ HB.out) hb); clear BK162 BK163 BK164 HB; have BK162 := n0_; have BK163 := n1_; have BK164 := n2_; have HB := n3_; clear n0_ n1_ n2_ n3_; (try clear hb); (try clear hb2); (try clear hk); (try clear hi)))
            go_meet
            case rel => exact ⟨_, (false), (by first | rfl | (simp; done) | (simp [*]; done)), H', ⟨by first | omega | exact Nat.le_refl _⟩, ⟨by (with_reducible repeat (first | refine blk_drewN ?_ _ | refine blk_drew ?_ | refine blk_alloc ?_ _)); exact BK162.out⟩, ⟨by (with_reducible repeat (first | refine blk_drewN ?_ _ | refine blk_drew ?_ | refine blk_alloc ?_ _)); exact BK163.out⟩, ⟨by (with_reducible repeat (first | refine blk_drewN ?_ _ | refine blk_drew ?_ | refine blk_alloc ?_ _)); exact BK164.out⟩, ⟨by repeat (first | (with_reducible first | exact HB.out | apply below_alloc | apply pw_below_drewN | apply below_drew1 | refine below_set ?_ GE162.out | refine below_set ?_ GE163.out | refine below_set ?_ GE164.out) | exact HB.out)⟩⟩
          ·rw [if_neg c47] at H
           have c47b0 : decide (t166 < 0) = false := decide_eq_false c47
           clear c47
           have H' := Aside0.mk H
           clear H
           have hnb61 := NB163_162.out
           have hnc61 := NB162_163.out
           have hnb62 := NB163_164.out
           have hnc62 := NB164_163.out
           have hcz63_0 : w26.cell? ⟨gb163, 0, none⟩ = some (.int .i64 a1_0) := (blk_cell BK163.out 0).trans rfl
           have hcz63_1 : w26.cell? ⟨gb163, 1, none⟩ = some (.slice A1_1 l1_1.length c1_1) := (blk_cell BK163.out 1).trans rfl
           have hcz63_2 : w26.cell? ⟨gb163, 2, none⟩ = some (.slice A1_2 l1_2.length c1_2) := (blk_cell BK163.out 2).trans rfl
           have hfz63_0 := blk_frozen BK163.out 0
           have hfz63_1 := blk_frozen BK163.out 1
           have hfz63_2 := blk_frozen BK163.out 2
           have hnb64 := NB162_164.out
           have hnc64 := NB164_162.out
           have hcz65_0 : w26.cell? ⟨gb162, 0, none⟩ = some (.int .i64 a0_0) := (blk_cell BK162.out 0).trans rfl
           have hcz65_1 : w26.cell? ⟨gb162, 1, none⟩ = some (.slice A0_1 l0_1.length c0_1) := (blk_cell BK162.out 1).trans rfl
           have hcz65_2 : w26.cell? ⟨gb162, 2, none⟩ = some (.slice A0_2 l0_2.length c0_2) := (blk_cell BK162.out 2).trans rfl
           have hfz65_0 := blk_frozen BK162.out 0
           have hfz65_1 := blk_frozen BK162.out 1
           have hfz65_2 := blk_frozen BK162.out 2
           go_wp2_with (first | ((with_reducible refine gate_callee (f := 14) rfl ?_); refine goesL_ (some 30) rfl rfl Try.func14 (by kernel_rfl) rfl #[.agg #[.int .i64 a1_0, .slice A1_1 l1_1.length c1_1, .slice A1_2 l1_2.length c1_2], .agg #[.int .i64 a0_0, .slice A0_1 l0_1.length c0_1, .slice A0_2 l0_2.length c0_2]] rfl (by (try simp only [List.map_toArray, List.map_cons, List.map_nil]); first | done | rfl | (simp only [List.length_drop, List.length_take]; rfl)) ?_; (with_reducible refine (fact_Compare.calls k a1_0 _ _ l1_1 _ _ l1_2 a0_0 _ _ l0_1 _ _ l0_2 t169 _ ?side1 ?side2 ?side3 ?side4 ?side5 ?side6 ?side7 ?side8 A27.out).mono ?_); (case side1 => repeat (first | exact (Kd.C_below HR1_1.out HB.out) | (with_reducible refine Kd.C_alloc ?_ _) | (with_reducible refine Kd.C_drewN ?_ _) | (with_reducible refine Kd.C_drew ?_))); (case side2 => exact HC1_1.out); (case side3 => repeat (first | exact (Kd.C_below HR1_2.out HB.out) | (with_reducible refine Kd.C_alloc ?_ _) | (with_reducible refine Kd.C_drewN ?_ _) | (with_reducible refine Kd.C_drew ?_))); (case side4 => exact HC1_2.out); (case side5 => repeat (first | exact (Kd.C_below HR0_1.out HB.out) | (with_reducible refine Kd.C_alloc ?_ _) | (with_reducible refine Kd.C_drewN ?_ _) | (with_reducible refine Kd.C_drew ?_))); (case side6 => exact HC0_1.out); (case side7 => repeat (first | exact (Kd.C_below HR0_2.out HB.out) | (with_reducible refine Kd.C_alloc ?_ _) | (with_reducible refine Kd.C_drewN ?_ _) | (with_reducible refine Kd.C_drew ?_))); (case side8 => exact HC0_2.out); rintro e w66 ⟨rfl, hb⟩; refine ⟨_, rfl, ?_⟩; have n0_ := Aside0.mk (blk_below (bk_ BK162.out) hb); have n1_ := Aside0.mk (blk_below (bk_ BK163.out) hb); have n2_ := Aside0.mk (blk_below (bk_ BK164.out) hb); have n3_ := Aside0.mk (below_step (bw_ HB.out) hb); clear BK162 BK163 BK164 HB; have BK162 := n0_; have BK163 := n1_; have BK164 := n2_; have HB := n3_; clear n0_ n1_ n2_ n3_; (try clear hb); (try clear hb2); (try clear hk); (try clear hi)))
           go_meet
           case rel => exact ⟨_, (false), (by first | rfl | (simp; done) | (simp [*]; done)), H', ⟨by first | omega | exact Nat.le_refl _⟩, ⟨by (with_reducible repeat (first | refine blk_drewN ?_ _ | refine blk_drew ?_ | refine blk_alloc ?_ _)); exact BK162.out⟩, ⟨by (with_reducible repeat (first | refine blk_drewN ?_ _ | refine blk_drew ?_ | refine blk_alloc ?_ _)); exact BK163.out⟩, ⟨by (with_reducible repeat (first | refine blk_drewN ?_ _ | refine blk_drew ?_ | refine blk_alloc ?_ _)); exact BK164.out⟩, ⟨by repeat (first | (with_reducible first | exact HB.out | apply below_alloc | apply pw_below_drewN | apply below_drew1 | refine below_set ?_ GE162.out | refine below_set ?_ GE163.out | refine below_set ?_ GE164.out) | exact HB.out)⟩⟩
        ·rw [if_neg c39] at H
         have c39b0 : decide (0 ≤ t167) = false := decide_eq_false c39
         clear c39
         by_cases c67 : t166 < 0
         ·rw [if_pos c67] at H
          have c67b0 : decide (t166 < 0) = true := decide_eq_true c67
          clear c67
          by_cases c68 : t167 < 0
          ·rw [if_pos c68] at H
           have c68b0 : decide (t167 < 0) = true := decide_eq_true c68
           clear c68
           have H' := Aside0.mk H
           clear H
           have hnb69 := NB163_162.out
           have hnc69 := NB162_163.out
           have hnb70 := NB163_164.out
           have hnc70 := NB164_163.out
           have hcz71_0 : w26.cell? ⟨gb163, 0, none⟩ = some (.int .i64 a1_0) := (blk_cell BK163.out 0).trans rfl
           have hcz71_1 : w26.cell? ⟨gb163, 1, none⟩ = some (.slice A1_1 l1_1.length c1_1) := (blk_cell BK163.out 1).trans rfl
           have hcz71_2 : w26.cell? ⟨gb163, 2, none⟩ = some (.slice A1_2 l1_2.length c1_2) := (blk_cell BK163.out 2).trans rfl
           have hfz71_0 := blk_frozen BK163.out 0
           have hfz71_1 := blk_frozen BK163.out 1
           have hfz71_2 := blk_frozen BK163.out 2
           have hnb72 := NB162_164.out
           have hnc72 := NB164_162.out
           have hcz73_0 : w26.cell? ⟨gb162, 0, none⟩ = some (.int .i64 a0_0) := (blk_cell BK162.out 0).trans rfl
           have hcz73_1 : w26.cell? ⟨gb162, 1, none⟩ = some (.slice A0_1 l0_1.length c0_1) := (blk_cell BK162.out 1).trans rfl
           have hcz73_2 : w26.cell? ⟨gb162, 2, none⟩ = some (.slice A0_2 l0_2.length c0_2) := (blk_cell BK162.out 2).trans rfl
           have hfz73_0 := blk_frozen BK162.out 0
           have hfz73_1 := blk_frozen BK162.out 1
           have hfz73_2 := blk_frozen BK162.out 2
           go_wp2_with (first | ((with_reducible refine gate_callee (f := 14) rfl ?_); refine goesL_ (some 30) rfl rfl Try.func14 (by kernel_rfl) rfl #[.agg #[.int .i64 a1_0, .slice A1_1 l1_1.length c1_1, .slice A1_2 l1_2.length c1_2], .agg #[.int .i64 a0_0, .slice A0_1 l0_1.length c0_1, .slice A0_2 l0_2.length c0_2]] rfl (by (try simp only [List.map_toArray, List.map_cons, List.map_nil]); first | done | rfl | (simp only [List.length_drop, List.length_take]; rfl)) ?_; (with_reducible refine (fact_Compare.calls k a1_0 _ _ l1_1 _ _ l1_2 a0_0 _ _ l0_1 _ _ l0_2 t169 _ ?side1 ?side2 ?side3 ?side4 ?side5 ?side6 ?side7 ?side8 A27.out).mono ?_); (case side1 => repeat (first | exact (Kd.C_below HR1_1.out HB.out) | (with_reducible refine Kd.C_alloc ?_ _) | (with_reducible refine Kd.C_drewN ?_ _) | (with_reducible refine Kd.C_drew ?_))); (case side2 => exact HC1_1.out); (case side3 => repeat (first | exact (Kd.C_below HR1_2.out HB.out) | (with_reducible refine Kd.C_alloc ?_ _) | (with_reducible refine Kd.C_drewN ?_ _) | (with_reducible refine Kd.C_drew ?_))); (case side4 => exact HC1_2.out); (case side5 => repeat (first | exact (Kd.C_below HR0_1.out HB.out) | (with_reducible refine Kd.C_alloc ?_ _) | (with_reducible refine Kd.C_drewN ?_ _) | (with_reducible refine Kd.C_drew ?_))); (case side6 => exact HC0_1.out); (case side7 => repeat (first | exact (Kd.C_below HR0_2.out HB.out) | (with_reducible refine Kd.C_alloc ?_ _) | (with_reducible refine Kd.C_drewN ?_ _) | (with_reducible refine Kd.C_drew ?_))); (case side8 => exact HC0_2.out); rintro e w74 ⟨rfl, hb⟩; refine ⟨_, rfl, ?_⟩; have n0_ := Aside0.mk (blk_below (bk_ BK162.out) hb); have n1_ := Aside0.mk (blk_below (bk_ BK163.out) hb); have n2_ := Aside0.mk (blk_below (bk_ BK164.out) hb); have n3_ := Aside0.mk (below_step (bw_ HB.out) hb); clear BK162 BK163 BK164 HB; have BK162 := n0_; have BK163 := n1_; have BK164 := n2_; have HB := n3_; clear n0_ n1_ n2_ n3_; (try clear hb); (try clear hb2); (try clear hk); (try clear hi)))
           go_meet
           case rel => exact ⟨_, (decide (t168 ≥ 0)), (by first | rfl | (simp; done) | (simp [*]; done)), H', ⟨by first | omega | exact Nat.le_refl _⟩, ⟨by (with_reducible repeat (first | refine blk_drewN ?_ _ | refine blk_drew ?_ | refine blk_alloc ?_ _)); exact BK162.out⟩, ⟨by (with_reducible repeat (first | refine blk_drewN ?_ _ | refine blk_drew ?_ | refine blk_alloc ?_ _)); exact BK163.out⟩, ⟨by (with_reducible repeat (first | refine blk_drewN ?_ _ | refine blk_drew ?_ | refine blk_alloc ?_ _)); exact BK164.out⟩, ⟨by repeat (first | (with_reducible first | exact HB.out | apply below_alloc | apply pw_below_drewN | apply below_drew1 | refine below_set ?_ GE162.out | refine below_set ?_ GE163.out | refine below_set ?_ GE164.out) | exact HB.out)⟩⟩
          ·rw [if_neg c68] at H
           have c68b0 : decide (t167 < 0) = false := decide_eq_false c68
           clear c68
           have H' := Aside0.mk H
           clear H
           have hnb75 := NB163_162.out
           have hnc75 := NB162_163.out
           have hnb76 := NB163_164.out
           have hnc76 := NB164_163.out
           have hcz77_0 : w26.cell? ⟨gb163, 0, none⟩ = some (.int .i64 a1_0) := (blk_cell BK163.out 0).trans rfl
           have hcz77_1 : w26.cell? ⟨gb163, 1, none⟩ = some (.slice A1_1 l1_1.length c1_1) := (blk_cell BK163.out 1).trans rfl
           have hcz77_2 : w26.cell? ⟨gb163, 2, none⟩ = some (.slice A1_2 l1_2.length c1_2) := (blk_cell BK163.out 2).trans rfl
           have hfz77_0 := blk_frozen BK163.out 0
           have hfz77_1 := blk_frozen BK163.out 1
           have hfz77_2 := blk_frozen BK163.out 2
           have hnb78 := NB162_164.out
           have hnc78 := NB164_162.out
           have hcz79_0 : w26.cell? ⟨gb162, 0, none⟩ = some (.int .i64 a0_0) := (blk_cell BK162.out 0).trans rfl
           have hcz79_1 : w26.cell? ⟨gb162, 1, none⟩ = some (.slice A0_1 l0_1.length c0_1) := (blk_cell BK162.out 1).trans rfl
           have hcz79_2 : w26.cell? ⟨gb162, 2, none⟩ = some (.slice A0_2 l0_2.length c0_2) := (blk_cell BK162.out 2).trans rfl
           have hfz79_0 := blk_frozen BK162.out 0
           have hfz79_1 := blk_frozen BK162.out 1
           have hfz79_2 := blk_frozen BK162.out 2
           go_wp2_with (first | ((with_reducible refine gate_callee (f := 14) rfl ?_); refine goesL_ (some 30) rfl rfl Try.func14 (by kernel_rfl) rfl #[.agg #[.int .i64 a1_0, .slice A1_1 l1_1.length c1_1, .slice A1_2 l1_2.length c1_2], .agg #[.int .i64 a0_0, .slice A0_1 l0_1.length c0_1, .slice A0_2 l0_2.length c0_2]] rfl (by (try simp only [List.map_toArray, List.map_cons, List.map_nil]); first | done | rfl | (simp only [List.length_drop, List.length_take]; rfl)) ?_; (with_reducible refine (fact_Compare.calls k a1_0 _ _ l1_1 _ _ l1_2 a0_0 _ _ l0_1 _ _ l0_2 t169 _ ?side1 ?side2 ?side3 ?side4 ?side5 ?side6 ?side7 ?side8 A27.out).mono ?_); (case side1 => repeat (first | exact (Kd.C_below HR1_1.out HB.out) | (with_reducible refine Kd.C_alloc ?_ _) | (with_reducible refine Kd.C_drewN ?_ _) | (with_reducible refine Kd.C_drew ?_))); (case side2 => exact HC1_1.out); (case side3 => repeat (first | exact (Kd.C_below HR1_2.out HB.out) | (with_reducible refine Kd.C_alloc ?_ _) | (with_reducible refine Kd.C_drewN ?_ _) | (with_reducible refine Kd.C_drew ?_))); (case side4 => exact HC1_2.out); (case side5 => repeat (first | exact (Kd.C_below HR0_1.out HB.out) | (with_reducible refine Kd.C_alloc ?_ _) | (with_reducible refine Kd.C_drewN ?_ _) | (with_reducible refine Kd.C_drew ?_))); (case side6 => exact HC0_1.out); (case side7 => repeat (first | exact (Kd.C_below HR0_2.out HB.out) | (with_reducible refine Kd.C_alloc ?_ _) | (with_reducible refine Kd.C_drewN ?_ _) | (with_reducible refine Kd.C_drew ?_))); (case side8 => exact HC0_2.out); rintro e w80 ⟨rfl, hb⟩; refine ⟨_, rfl, ?_⟩; have n0_ := Aside0.mk (blk_below (bk_ BK162.out) hb); have n1_ := Aside0.mk (blk_below (bk_ BK163.out) hb); have n2_ := Aside0.mk (blk_below (bk_ BK164.out) hb); have n3_ := Aside0.mk (below_step (bw_ HB.out) hb); clear BK162 BK163 BK164 HB; have BK162 := n0_; have BK163 := n1_; have BK164 := n2_; have HB := n3_; clear n0_ n1_ n2_ n3_; (try clear hb); (try clear hb2); (try clear hk); (try clear hi)))
           go_meet
           case rel => exact ⟨_, (false), (by first | rfl | (simp; done) | (simp [*]; done)), H', ⟨by first | omega | exact Nat.le_refl _⟩, ⟨by (with_reducible repeat (first | refine blk_drewN ?_ _ | refine blk_drew ?_ | refine blk_alloc ?_ _)); exact BK162.out⟩, ⟨by (with_reducible repeat (first | refine blk_drewN ?_ _ | refine blk_drew ?_ | refine blk_alloc ?_ _)); exact BK163.out⟩, ⟨by (with_reducible repeat (first | refine blk_drewN ?_ _ | refine blk_drew ?_ | refine blk_alloc ?_ _)); exact BK164.out⟩, ⟨by repeat (first | (with_reducible first | exact HB.out | apply below_alloc | apply pw_below_drewN | apply below_drew1 | refine below_set ?_ GE162.out | refine below_set ?_ GE163.out | refine below_set ?_ GE164.out) | exact HB.out)⟩⟩
         ·rw [if_neg c67] at H
          have c67b0 : decide (t166 < 0) = false := decide_eq_false c67
          clear c67
          have H' := Aside0.mk H
          clear H
          have hnb81 := NB163_162.out
          have hnc81 := NB162_163.out
          have hnb82 := NB163_164.out
          have hnc82 := NB164_163.out
          have hcz83_0 : w26.cell? ⟨gb163, 0, none⟩ = some (.int .i64 a1_0) := (blk_cell BK163.out 0).trans rfl
          have hcz83_1 : w26.cell? ⟨gb163, 1, none⟩ = some (.slice A1_1 l1_1.length c1_1) := (blk_cell BK163.out 1).trans rfl
          have hcz83_2 : w26.cell? ⟨gb163, 2, none⟩ = some (.slice A1_2 l1_2.length c1_2) := (blk_cell BK163.out 2).trans rfl
          have hfz83_0 := blk_frozen BK163.out 0
          have hfz83_1 := blk_frozen BK163.out 1
          have hfz83_2 := blk_frozen BK163.out 2
          have hnb84 := NB162_164.out
          have hnc84 := NB164_162.out
          have hcz85_0 : w26.cell? ⟨gb162, 0, none⟩ = some (.int .i64 a0_0) := (blk_cell BK162.out 0).trans rfl
          have hcz85_1 : w26.cell? ⟨gb162, 1, none⟩ = some (.slice A0_1 l0_1.length c0_1) := (blk_cell BK162.out 1).trans rfl
          have hcz85_2 : w26.cell? ⟨gb162, 2, none⟩ = some (.slice A0_2 l0_2.length c0_2) := (blk_cell BK162.out 2).trans rfl
          have hfz85_0 := blk_frozen BK162.out 0
          have hfz85_1 := blk_frozen BK162.out 1
          have hfz85_2 := blk_frozen BK162.out 2
          go_wp2_with (first | ((with_reducible refine gate_callee (f := 14) rfl ?_); refine goesL_ (some 30) rfl rfl Try.func14 (by kernel_rfl) rfl #[.agg #[.int .i64 a1_0, .slice A1_1 l1_1.length c1_1, .slice A1_2 l1_2.length c1_2], .agg #[.int .i64 a0_0, .slice A0_1 l0_1.length c0_1, .slice A0_2 l0_2.length c0_2]] rfl (by (try simp only [List.map_toArray, List.map_cons, List.map_nil]); first | done | rfl | (simp only [List.length_drop, List.length_take]; rfl)) ?_; (with_reducible refine (fact_Compare.calls k a1_0 _ _ l1_1 _ _ l1_2 a0_0 _ _ l0_1 _ _ l0_2 t169 _ ?side1 ?side2 ?side3 ?side4 ?side5 ?side6 ?side7 ?side8 A27.out).mono ?_); (case side1 => repeat (first | exact (Kd.C_below HR1_1.out HB.out) | (with_reducible refine Kd.C_alloc ?_ _) | (with_reducible refine Kd.C_drewN ?_ _) | (with_reducible refine Kd.C_drew ?_))); (case side2 => exact HC1_1.out); (case side3 => repeat (first | exact (Kd.C_below HR1_2.out HB.out) | (with_reducible refine Kd.C_alloc ?_ _) | (with_reducible refine Kd.C_drewN ?_ _) | (with_reducible refine Kd.C_drew ?_))); (case side4 => exact HC1_2.out); (case side5 => repeat (first | exact (Kd.C_below HR0_1.out HB.out) | (with_reducible refine Kd.C_alloc ?_ _) | (with_reducible refine Kd.C_drewN ?_ _) | (with_reducible refine Kd.C_drew ?_))); (case side6 => exact HC0_1.out); (case side7 => repeat (first | exact (Kd.C_below HR0_2.out HB.out) | (with_reducible refine Kd.C_alloc ?_ _) | (with_reducible refine Kd.C_drewN ?_ _) | (with_reducible refine Kd.C_drew ?_))); (case side8 => exact HC0_2.out); rintro e w86 ⟨rfl, hb⟩; refine ⟨_, rfl, ?_⟩; have n0_ := Aside0.mk (blk_below (bk_ BK162.out) hb); have n1_ := Aside0.mk (blk_below (bk_ BK163.out) hb); have n2_ := Aside0.mk (blk_below (bk_ BK164.out) hb); have n3_ := Aside0.mk (below_step (bw_ HB.out) hb); clear BK162 BK163 BK164 HB; have BK162 := n0_; have BK163 := n1_; have BK164 := n2_; have HB := n3_; clear n0_ n1_ n2_ n3_; (try clear hb); (try clear hb2); (try clear hk); (try clear hi)))
          go_meet
          case rel => exact ⟨_, (false), (by first | rfl | (simp; done) | (simp [*]; done)), H', ⟨by first | omega | exact Nat.le_refl _⟩, ⟨by (with_reducible repeat (first | refine blk_drewN ?_ _ | refine blk_drew ?_ | refine blk_alloc ?_ _)); exact BK162.out⟩, ⟨by (with_reducible repeat (first | refine blk_drewN ?_ _ | refine blk_drew ?_ | refine blk_alloc ?_ _)); exact BK163.out⟩, ⟨by (with_reducible repeat (first | refine blk_drewN ?_ _ | refine blk_drew ?_ | refine blk_alloc ?_ _)); exact BK164.out⟩, ⟨by repeat (first | (with_reducible first | exact HB.out | apply below_alloc | apply pw_below_drewN | apply below_drew1 | refine below_set ?_ GE162.out | refine below_set ?_ GE163.out | refine below_set ?_ GE164.out) | exact HB.out)⟩⟩
       ·rw [if_neg c38] at H
        have c38b0 : decide (0 ≤ t166) = false := decide_eq_false c38
        clear c38
        by_cases c87 : t166 < 0
        ·rw [if_pos c87] at H
         have c87b0 : decide (t166 < 0) = true := decide_eq_true c87
         clear c87
         by_cases c88 : t167 < 0
         ·rw [if_pos c88] at H
          have c88b0 : decide (t167 < 0) = true := decide_eq_true c88
          clear c88
          have H' := Aside0.mk H
          clear H
          have hnb89 := NB163_162.out
          have hnc89 := NB162_163.out
          have hnb90 := NB163_164.out
          have hnc90 := NB164_163.out
          have hcz91_0 : w26.cell? ⟨gb163, 0, none⟩ = some (.int .i64 a1_0) := (blk_cell BK163.out 0).trans rfl
          have hcz91_1 : w26.cell? ⟨gb163, 1, none⟩ = some (.slice A1_1 l1_1.length c1_1) := (blk_cell BK163.out 1).trans rfl
          have hcz91_2 : w26.cell? ⟨gb163, 2, none⟩ = some (.slice A1_2 l1_2.length c1_2) := (blk_cell BK163.out 2).trans rfl
          have hfz91_0 := blk_frozen BK163.out 0
          have hfz91_1 := blk_frozen BK163.out 1
          have hfz91_2 := blk_frozen BK163.out 2
          have hnb92 := NB162_164.out
          have hnc92 := NB164_162.out
          have hcz93_0 : w26.cell? ⟨gb162, 0, none⟩ = some (.int .i64 a0_0) := (blk_cell BK162.out 0).trans rfl
          have hcz93_1 : w26.cell? ⟨gb162, 1, none⟩ = some (.slice A0_1 l0_1.length c0_1) := (blk_cell BK162.out 1).trans rfl
          have hcz93_2 : w26.cell? ⟨gb162, 2, none⟩ = some (.slice A0_2 l0_2.length c0_2) := (blk_cell BK162.out 2).trans rfl
          have hfz93_0 := blk_frozen BK162.out 0
          have hfz93_1 := blk_frozen BK162.out 1
          have hfz93_2 := blk_frozen BK162.out 2
          go_wp2_with (first | ((with_reducible refine gate_callee (f := 14) rfl ?_); refine goesL_ (some 30) rfl rfl Try.func14 (by kernel_rfl) rfl #[.agg #[.int .i64 a1_0, .slice A1_1 l1_1.length c1_1, .slice A1_2 l1_2.length c1_2], .agg #[.int .i64 a0_0, .slice A0_1 l0_1.length c0_1, .slice A0_2 l0_2.length c0_2]] rfl (by (try simp only [List.map_toArray, List.map_cons, List.map_nil]); first | done | rfl | (simp only [List.length_drop, List.length_take]; rfl)) ?_; (with_reducible refine (fact_Compare.calls k a1_0 _ _ l1_1 _ _ l1_2 a0_0 _ _ l0_1 _ _ l0_2 t169 _ ?side1 ?side2 ?side3 ?side4 ?side5 ?side6 ?side7 ?side8 A27.out).mono ?_); (case side1 => repeat (first | exact (Kd.C_below HR1_1.out HB.out) | (with_reducible refine Kd.C_alloc ?_ _) | (with_reducible refine Kd.C_drewN ?_ _) | (with_reducible refine Kd.C_drew ?_))); (case side2 => exact HC1_1.out); (case side3 => repeat (first | exact (Kd.C_below HR1_2.out HB.out) | (with_reducible refine Kd.C_alloc ?_ _) | (with_reducible refine Kd.C_drewN ?_ _) | (with_reducible refine Kd.C_drew ?_))); (case side4 => exact HC1_2.out); (case side5 => repeat (first | exact (Kd.C_below HR0_1.out HB.out) | (with_reducible refine Kd.C_alloc ?_ _) | (with_reducible refine Kd.C_drewN ?_ _) | (with_reducible refine Kd.C_drew ?_))); (case side6 => exact HC0_1.out); (case side7 => repeat (first | exact (Kd.C_below HR0_2.out HB.out) | (with_reducible refine Kd.C_alloc ?_ _) | (with_reducible refine Kd.C_drewN ?_ _) | (with_reducible refine Kd.C_drew ?_))); (case side8 => exact HC0_2.out); rintro e w94 ⟨rfl, hb⟩; refine ⟨_, rfl, ?_⟩; have n0_ := Aside0.mk (blk_below (bk_ BK162.out) hb); have n1_ := Aside0.mk (blk_below (bk_ BK163.out) hb); have n2_ := Aside0.mk (blk_below (bk_ BK164.out) hb); have n3_ := Aside0.mk (below_step (bw_ HB.out) hb); clear BK162 BK163 BK164 HB; have BK162 := n0_; have BK163 := n1_; have BK164 := n2_; have HB := n3_; clear n0_ n1_ n2_ n3_; (try clear hb); (try clear hb2); (try clear hk); (try clear hi)))
          go_meet
          case rel => exact ⟨_, (decide (t168 ≥ 0)), (by first | rfl | (simp; done) | (simp [*]; done)), H', ⟨by first | omega | exact Nat.le_refl _⟩, ⟨by (with_reducible repeat (first | refine blk_drewN ?_ _ | refine blk_drew ?_ | refine blk_alloc ?_ _)); exact BK162.out⟩, ⟨by (with_reducible repeat (first | refine blk_drewN ?_ _ | refine blk_drew ?_ | refine blk_alloc ?_ _)); exact BK163.out⟩, ⟨by (with_reducible repeat (first | refine blk_drewN ?_ _ | refine blk_drew ?_ | refine blk_alloc ?_ _)); exact BK164.out⟩, ⟨by repeat (first | (with_reducible first | exact HB.out | apply below_alloc | apply pw_below_drewN | apply below_drew1 | refine below_set ?_ GE162.out | refine below_set ?_ GE163.out | refine below_set ?_ GE164.out) | exact HB.out)⟩⟩
         ·rw [if_neg c88] at H
          have c88b0 : decide (t167 < 0) = false := decide_eq_false c88
          clear c88
          have H' := Aside0.mk H
          clear H
          have hnb95 := NB163_162.out
          have hnc95 := NB162_163.out
          have hnb96 := NB163_164.out
          have hnc96 := NB164_163.out
          have hcz97_0 : w26.cell? ⟨gb163, 0, none⟩ = some (.int .i64 a1_0) := (blk_cell BK163.out 0).trans rfl
          have hcz97_1 : w26.cell? ⟨gb163, 1, none⟩ = some (.slice A1_1 l1_1.length c1_1) := (blk_cell BK163.out 1).trans rfl
          have hcz97_2 : w26.cell? ⟨gb163, 2, none⟩ = some (.slice A1_2 l1_2.length c1_2) := (blk_cell BK163.out 2).trans rfl
          have hfz97_0 := blk_frozen BK163.out 0
          have hfz97_1 := blk_frozen BK163.out 1
          have hfz97_2 := blk_frozen BK163.out 2
          have hnb98 := NB162_164.out
          have hnc98 := NB164_162.out
          have hcz99_0 : w26.cell? ⟨gb162, 0, none⟩ = some (.int .i64 a0_0) := (blk_cell BK162.out 0).trans rfl
          have hcz99_1 : w26.cell? ⟨gb162, 1, none⟩ = some (.slice A0_1 l0_1.length c0_1) := (blk_cell BK162.out 1).trans rfl
          have hcz99_2 : w26.cell? ⟨gb162, 2, none⟩ = some (.slice A0_2 l0_2.length c0_2) := (blk_cell BK162.out 2).trans rfl
          have hfz99_0 := blk_frozen BK162.out 0
          have hfz99_1 := blk_frozen BK162.out 1
          have hfz99_2 := blk_frozen BK162.out 2
          go_wp2_with (first | ((with_reducible refine gate_callee (f := 14) rfl ?_); refine goesL_ (some 30) rfl rfl Try.func14 (by kernel_rfl) rfl #[.agg #[.int .i64 a1_0, .slice A1_1 l1_1.length c1_1, .slice A1_2 l1_2.length c1_2], .agg #[.int .i64 a0_0, .slice A0_1 l0_1.length c0_1, .slice A0_2 l0_2.length c0_2]] rfl (by (try simp only [List.map_toArray, List.map_cons, List.map_nil]); first | done | rfl | (simp only [List.length_drop, List.length_take]; rfl)) ?_; (with_reducible refine (fact_Compare.calls k a1_0 _ _ l1_1 _ _ l1_2 a0_0 _ _ l0_1 _ _ l0_2 t169 _ ?side1 ?side2 ?side3 ?side4 ?side5 ?side6 ?side7 ?side8 A27.out).mono ?_); (case side1 => repeat (first | exact (Kd.C_below HR1_1.out HB.out) | (with_reducible refine Kd.C_alloc ?_ _) | (with_reducible refine Kd.C_drewN ?_ _) | (with_reducible refine Kd.C_drew ?_))); (case side2 => exact HC1_1.out); (case side3 => repeat (first | exact (Kd.C_below HR1_2.out HB.out) | (with_reducible refine Kd.C_alloc ?_ _) | (with_reducible refine Kd.C_drewN ?_ _) | (with_reducible refine Kd.C_drew ?_))); (case side4 => exact HC1_2.out); (case side5 => repeat (first | exact (Kd.C_below HR0_1.out HB.out) | (with_reducible refine Kd.C_alloc ?_ _) | (with_reducible refine Kd.C_drewN ?_ _) | (with_reducible refine Kd.C_drew ?_))); (case side6 => exact HC0_1.out); (case side7 => repeat (first | exact (Kd.C_below HR0_2.out HB.out) | (with_reducible refine Kd.C_alloc ?_ _) | (with_reducible refine Kd.C_drewN ?_ _) | (with_reducible refine Kd.C_drew ?_))); (case side8 => exact HC0_2.out); rintro e w100 ⟨rfl, hb⟩; refine ⟨_, rfl, ?_⟩; have n0_ := Aside0.mk (blk_below (bk_ BK162.out) hb); have n1_ := Aside0.mk (blk_below (bk_ BK163.out) hb); have n2_ := Aside0.mk (blk_below (bk_ BK164.out) hb); have n3_ := Aside0.mk (below_step (bw_ HB.out) hb); clear BK162 BK163 BK164 HB; have BK162 := n0_; have BK163 := n1_; have BK164 := n2_; have HB := n3_; clear n0_ n1_ n2_ n3_; (try clear hb); (try clear hb2); (try clear hk); (try clear hi)))
          go_meet
          case rel => exact ⟨_, (false), (by first | rfl | (simp; done) | (simp [*]; done)), H', ⟨by first | omega | exact Nat.le_refl _⟩, ⟨by (with_reducible repeat (first | refine blk_drewN ?_ _ | refine blk_drew ?_ | refine blk_alloc ?_ _)); exact BK162.out⟩, ⟨by (with_reducible repeat (first | refine blk_drewN ?_ _ | refine blk_drew ?_ | refine blk_alloc ?_ _)); exact BK163.out⟩, ⟨by (with_reducible repeat (first | refine blk_drewN ?_ _ | refine blk_drew ?_ | refine blk_alloc ?_ _)); exact BK164.out⟩, ⟨by repeat (first | (with_reducible first | exact HB.out | apply below_alloc | apply pw_below_drewN | apply below_drew1 | refine below_set ?_ GE162.out | refine below_set ?_ GE163.out | refine below_set ?_ GE164.out) | exact HB.out)⟩⟩
        ·rw [if_neg c87] at H
         have c87b0 : decide (t166 < 0) = false := decide_eq_false c87
         clear c87
         have H' := Aside0.mk H
         clear H
         have hnb101 := NB163_162.out
         have hnc101 := NB162_163.out
         have hnb102 := NB163_164.out
         have hnc102 := NB164_163.out
         have hcz103_0 : w26.cell? ⟨gb163, 0, none⟩ = some (.int .i64 a1_0) := (blk_cell BK163.out 0).trans rfl
         have hcz103_1 : w26.cell? ⟨gb163, 1, none⟩ = some (.slice A1_1 l1_1.length c1_1) := (blk_cell BK163.out 1).trans rfl
         have hcz103_2 : w26.cell? ⟨gb163, 2, none⟩ = some (.slice A1_2 l1_2.length c1_2) := (blk_cell BK163.out 2).trans rfl
         have hfz103_0 := blk_frozen BK163.out 0
         have hfz103_1 := blk_frozen BK163.out 1
         have hfz103_2 := blk_frozen BK163.out 2
         have hnb104 := NB162_164.out
         have hnc104 := NB164_162.out
         have hcz105_0 : w26.cell? ⟨gb162, 0, none⟩ = some (.int .i64 a0_0) := (blk_cell BK162.out 0).trans rfl
         have hcz105_1 : w26.cell? ⟨gb162, 1, none⟩ = some (.slice A0_1 l0_1.length c0_1) := (blk_cell BK162.out 1).trans rfl
         have hcz105_2 : w26.cell? ⟨gb162, 2, none⟩ = some (.slice A0_2 l0_2.length c0_2) := (blk_cell BK162.out 2).trans rfl
         have hfz105_0 := blk_frozen BK162.out 0
         have hfz105_1 := blk_frozen BK162.out 1
         have hfz105_2 := blk_frozen BK162.out 2
         go_wp2_with (first | ((with_reducible refine gate_callee (f := 14) rfl ?_); refine goesL_ (some 30) rfl rfl Try.func14 (by kernel_rfl) rfl #[.agg #[.int .i64 a1_0, .slice A1_1 l1_1.length c1_1, .slice A1_2 l1_2.length c1_2], .agg #[.int .i64 a0_0, .slice A0_1 l0_1.length c0_1, .slice A0_2 l0_2.length c0_2]] rfl (by (try simp only [List.map_toArray, List.map_cons, List.map_nil]); first | done | rfl | (simp only [List.length_drop, List.length_take]; rfl)) ?_; (with_reducible refine (fact_Compare.calls k a1_0 _ _ l1_1 _ _ l1_2 a0_0 _ _ l0_1 _ _ l0_2 t169 _ ?side1 ?side2 ?side3 ?side4 ?side5 ?side6 ?side7 ?side8 A27.out).mono ?_); (case side1 => repeat (first | exact (Kd.C_below HR1_1.out HB.out) | (with_reducible refine Kd.C_alloc ?_ _) | (with_reducible refine Kd.C_drewN ?_ _) | (with_reducible refine Kd.C_drew ?_))); (case side2 => exact HC1_1.out); (case side3 => repeat (first | exact (Kd.C_below HR1_2.out HB.out) | (with_reducible refine Kd.C_alloc ?_ _) | (with_reducible refine Kd.C_drewN ?_ _) | (with_reducible refine Kd.C_drew ?_))); (case side4 => exact HC1_2.out); (case side5 => repeat (first | exact (Kd.C_below HR0_1.out HB.out) | (with_reducible refine Kd.C_alloc ?_ _) | (with_reducible refine Kd.C_drewN ?_ _) | (with_reducible refine Kd.C_drew ?_))); (case side6 => exact HC0_1.out); (case side7 => repeat (first | exact (Kd.C_below HR0_2.out HB.out) | (with_reducible refine Kd.C_alloc ?_ _) | (with_reducible refine Kd.C_drewN ?_ _) | (with_reducible refine Kd.C_drew ?_))); (case side8 => exact HC0_2.out); rintro e w106 ⟨rfl, hb⟩; refine ⟨_, rfl, ?_⟩; have n0_ := Aside0.mk (blk_below (bk_ BK162.out) hb); have n1_ := Aside0.mk (blk_below (bk_ BK163.out) hb); have n2_ := Aside0.mk (blk_below (bk_ BK164.out) hb); have n3_ := Aside0.mk (below_step (bw_ HB.out) hb); clear BK162 BK163 BK164 HB; have BK162 := n0_; have BK163 := n1_; have BK164 := n2_; have HB := n3_; clear n0_ n1_ n2_ n3_; (try clear hb); (try clear hb2); (try clear hk); (try clear hi)))
         go_meet
         case rel => exact ⟨_, (false), (by first | rfl | (simp; done) | (simp [*]; done)), H', ⟨by first | omega | exact Nat.le_refl _⟩, ⟨by (with_reducible repeat (first | refine blk_drewN ?_ _ | refine blk_drew ?_ | refine blk_alloc ?_ _)); exact BK162.out⟩, ⟨by (with_reducible repeat (first | refine blk_drewN ?_ _ | refine blk_drew ?_ | refine blk_alloc ?_ _)); exact BK163.out⟩, ⟨by (with_reducible repeat (first | refine blk_drewN ?_ _ | refine blk_drew ?_ | refine blk_alloc ?_ _)); exact BK164.out⟩, ⟨by repeat (first | (with_reducible first | exact HB.out | apply below_alloc | apply pw_below_drewN | apply below_drew1 | refine below_set ?_ GE162.out | refine below_set ?_ GE163.out | refine below_set ?_ GE164.out) | exact HB.out)⟩⟩
     ·rw [if_neg c30] at H
      have c30b0 : decide (t167 ≤ 0) = false := decide_eq_false c30
      clear c30
      by_cases c107 : t166 ≥ 0
      ·rw [if_pos c107] at H
       have c107b0 : decide (0 ≤ t166) = true := decide_eq_true c107
       clear c107
       by_cases c108 : t167 ≥ 0
       ·rw [if_pos c108] at H
        have c108b0 : decide (0 ≤ t167) = true := decide_eq_true c108
        clear c108
        by_cases c109 : t168 < 0
        ·rw [if_pos c109] at H
         have c109b0 : decide (t168 < 0) = true := decide_eq_true c109
         clear c109
         have H' := Aside0.mk H
         clear H
         have hnb110 := NB163_162.out
         have hnc110 := NB162_163.out
         have hnb111 := NB163_164.out
         have hnc111 := NB164_163.out
         have hcz112_0 : w26.cell? ⟨gb163, 0, none⟩ = some (.int .i64 a1_0) := (blk_cell BK163.out 0).trans rfl
         have hcz112_1 : w26.cell? ⟨gb163, 1, none⟩ = some (.slice A1_1 l1_1.length c1_1) := (blk_cell BK163.out 1).trans rfl
         have hcz112_2 : w26.cell? ⟨gb163, 2, none⟩ = some (.slice A1_2 l1_2.length c1_2) := (blk_cell BK163.out 2).trans rfl
         have hfz112_0 := blk_frozen BK163.out 0
         have hfz112_1 := blk_frozen BK163.out 1
         have hfz112_2 := blk_frozen BK163.out 2
         have hnb113 := NB162_164.out
         have hnc113 := NB164_162.out
         have hcz114_0 : w26.cell? ⟨gb162, 0, none⟩ = some (.int .i64 a0_0) := (blk_cell BK162.out 0).trans rfl
         have hcz114_1 : w26.cell? ⟨gb162, 1, none⟩ = some (.slice A0_1 l0_1.length c0_1) := (blk_cell BK162.out 1).trans rfl
         have hcz114_2 : w26.cell? ⟨gb162, 2, none⟩ = some (.slice A0_2 l0_2.length c0_2) := (blk_cell BK162.out 2).trans rfl
         have hfz114_0 := blk_frozen BK162.out 0
         have hfz114_1 := blk_frozen BK162.out 1
         have hfz114_2 := blk_frozen BK162.out 2
         go_wp2_with (first | ((with_reducible refine gate_callee (f := 14) rfl ?_); refine goesL_ (some 30) rfl rfl Try.func14 (by kernel_rfl) rfl #[.agg #[.int .i64 a1_0, .slice A1_1 l1_1.length c1_1, .slice A1_2 l1_2.length c1_2], .agg #[.int .i64 a0_0, .slice A0_1 l0_1.length c0_1, .slice A0_2 l0_2.length c0_2]] rfl (by (try simp only [List.map_toArray, List.map_cons, List.map_nil]); first | done | rfl | (simp only [List.length_drop, List.length_take]; rfl)) ?_; (with_reducible refine (fact_Compare.calls k a1_0 _ _ l1_1 _ _ l1_2 a0_0 _ _ l0_1 _ _ l0_2 t169 _ ?side1 ?side2 ?side3 ?side4 ?side5 ?side6 ?side7 ?side8 A27.out).mono ?_); (case side1 => repeat (first | exact (Kd.C_below HR1_1.out HB.out) | (with_reducible refine Kd.C_alloc ?_ _) | (with_reducible refine Kd.C_drewN ?_ _) | (with_reducible refine Kd.C_drew ?_))); (case side2 => exact HC1_1.out); (case side3 => repeat (first | exact (Kd.C_below HR1_2.out HB.out) | (with_reducible refine Kd.C_alloc ?_ _) | (with_reducible refine Kd.C_drewN ?_ _) | (with_reducible refine Kd.C_drew ?_))); (case side4 => exact HC1_2.out); (case side5 => repeat (first | exact (Kd.C_below HR0_1.out HB.out) | (with_reducible refine Kd.C_alloc ?_ _) | (with_reducible refine Kd.C_drewN ?_ _) | (with_reducible refine Kd.C_drew ?_))); (case side6 => exact HC0_1.out); (case side7 => repeat (first | exact (Kd.C_below HR0_2.out HB.out) | (with_reducible refine Kd.C_alloc ?_ _) | (with_reducible refine Kd.C_drewN ?_ _) | (with_reducible refine Kd.C_drew ?_))); (case side8 => exact HC0_2.out); rintro e w115 ⟨rfl, hb⟩; refine ⟨_, rfl, ?_⟩; have n0_ := Aside0.mk (blk_below (bk_ BK162.out) hb); have n1_ := Aside0.mk (blk_below (bk_ BK163.out) hb); have n2_ := Aside0.mk (blk_below (bk_ BK164.out) hb); have n3_ := Aside0.mk (below_step (bw_ HB.out) hb); clear BK162 BK163 BK164 HB; have BK162 := n0_; have BK163 := n1_; have BK164 := n2_; have HB := n3_; clear n0_ n1_ n2_ n3_; (try clear hb); (try clear hb2); (try clear hk); (try clear hi)))
         go_meet
         case rel => exact ⟨_, (true), (by first | rfl | (simp; done) | (simp [*]; done)), H', ⟨by first | omega | exact Nat.le_refl _⟩, ⟨by (with_reducible repeat (first | refine blk_drewN ?_ _ | refine blk_drew ?_ | refine blk_alloc ?_ _)); exact BK162.out⟩, ⟨by (with_reducible repeat (first | refine blk_drewN ?_ _ | refine blk_drew ?_ | refine blk_alloc ?_ _)); exact BK163.out⟩, ⟨by (with_reducible repeat (first | refine blk_drewN ?_ _ | refine blk_drew ?_ | refine blk_alloc ?_ _)); exact BK164.out⟩, ⟨by repeat (first | (with_reducible first | exact HB.out | apply below_alloc | apply pw_below_drewN | apply below_drew1 | refine below_set ?_ GE162.out | refine below_set ?_ GE163.out | refine below_set ?_ GE164.out) | exact HB.out)⟩⟩
        ·rw [if_neg c109] at H
         have c109b0 : decide (t168 < 0) = false := decide_eq_false c109
         clear c109
         by_cases c116 : t166 < 0
         ·rw [if_pos c116] at H
          have c116b0 : decide (t166 < 0) = true := decide_eq_true c116
          clear c116
          by_cases c117 : t167 < 0
          ·rw [if_pos c117] at H
           have c117b0 : decide (t167 < 0) = true := decide_eq_true c117
           clear c117
           have H' := Aside0.mk H
           clear H
           have hnb118 := NB163_162.out
           have hnc118 := NB162_163.out
           have hnb119 := NB163_164.out
           have hnc119 := NB164_163.out
           have hcz120_0 : w26.cell? ⟨gb163, 0, none⟩ = some (.int .i64 a1_0) := (blk_cell BK163.out 0).trans rfl
           have hcz120_1 : w26.cell? ⟨gb163, 1, none⟩ = some (.slice A1_1 l1_1.length c1_1) := (blk_cell BK163.out 1).trans rfl
           have hcz120_2 : w26.cell? ⟨gb163, 2, none⟩ = some (.slice A1_2 l1_2.length c1_2) := (blk_cell BK163.out 2).trans rfl
           have hfz120_0 := blk_frozen BK163.out 0
           have hfz120_1 := blk_frozen BK163.out 1
           have hfz120_2 := blk_frozen BK163.out 2
           have hnb121 := NB162_164.out
           have hnc121 := NB164_162.out
           have hcz122_0 : w26.cell? ⟨gb162, 0, none⟩ = some (.int .i64 a0_0) := (blk_cell BK162.out 0).trans rfl
           have hcz122_1 : w26.cell? ⟨gb162, 1, none⟩ = some (.slice A0_1 l0_1.length c0_1) := (blk_cell BK162.out 1).trans rfl
           have hcz122_2 : w26.cell? ⟨gb162, 2, none⟩ = some (.slice A0_2 l0_2.length c0_2) := (blk_cell BK162.out 2).trans rfl
           have hfz122_0 := blk_frozen BK162.out 0
           have hfz122_1 := blk_frozen BK162.out 1
           have hfz122_2 := blk_frozen BK162.out 2
           go_wp2_with (first | ((with_reducible refine gate_callee (f := 14) rfl ?_); refine goesL_ (some 30) rfl rfl Try.func14 (by kernel_rfl) rfl #[.agg #[.int .i64 a1_0, .slice A1_1 l1_1.length c1_1, .slice A1_2 l1_2.length c1_2], .agg #[.int .i64 a0_0, .slice A0_1 l0_1.length c0_1, .slice A0_2 l0_2.length c0_2]] rfl (by (try simp only [List.map_toArray, List.map_cons, List.map_nil]); first | done | rfl | (simp only [List.length_drop, List.length_take]; rfl)) ?_; (with_reducible refine (fact_Compare.calls k a1_0 _ _ l1_1 _ _ l1_2 a0_0 _ _ l0_1 _ _ l0_2 t169 _ ?side1 ?side2 ?side3 ?side4 ?side5 ?side6 ?side7 ?side8 A27.out).mono ?_); (case side1 => repeat (first | exact (Kd.C_below HR1_1.out HB.out) | (with_reducible refine Kd.C_alloc ?_ _) | (with_reducible refine Kd.C_drewN ?_ _) | (with_reducible refine Kd.C_drew ?_))); (case side2 => exact HC1_1.out); (case side3 => repeat (first | exact (Kd.C_below HR1_2.out HB.out) | (with_reducible refine Kd.C_alloc ?_ _) | (with_reducible refine Kd.C_drewN ?_ _) | (with_reducible refine Kd.C_drew ?_))); (case side4 => exact HC1_2.out); (case side5 => repeat (first | exact (Kd.C_below HR0_1.out HB.out) | (with_reducible refine Kd.C_alloc ?_ _) | (with_reducible refine Kd.C_drewN ?_ _) | (with_reducible refine Kd.C_drew ?_))); (case side6 => exact HC0_1.out); (case side7 => repeat (first | exact (Kd.C_below HR0_2.out HB.out) | (with_reducible refine Kd.C_alloc ?_ _) | (with_reducible refine Kd.C_drewN ?_ _) | (with_reducible refine Kd.C_drew ?_))); (case side8 => exact HC0_2.out); rintro e w123 ⟨rfl, hb⟩; refine ⟨_, rfl, ?_⟩; have n0_ := Aside0.mk (blk_below (bk_ BK162.out) hb); have n1_ := Aside0.mk (blk_below (bk_ BK163.out) hb); have n2_ := Aside0.mk (blk_below (bk_ BK164.out) hb); have n3_ := Aside0.mk (below_step (bw_ HB.out) hb); clear BK162 BK163 BK164 HB; have BK162 := n0_; have BK163 := n1_; have BK164 := n2_; have HB := n3_; clear n0_ n1_ n2_ n3_; (try clear hb); (try clear hb2); (try clear hk); (try clear hi)))
           go_meet
           case rel => exact ⟨_, (decide (t168 ≥ 0)), (by first | rfl | (simp; done) | (simp [*]; done)), H', ⟨by first | omega | exact Nat.le_refl _⟩, ⟨by (with_reducible repeat (first | refine blk_drewN ?_ _ | refine blk_drew ?_ | refine blk_alloc ?_ _)); exact BK162.out⟩, ⟨by (with_reducible repeat (first | refine blk_drewN ?_ _ | refine blk_drew ?_ | refine blk_alloc ?_ _)); exact BK163.out⟩, ⟨by (with_reducible repeat (first | refine blk_drewN ?_ _ | refine blk_drew ?_ | refine blk_alloc ?_ _)); exact BK164.out⟩, ⟨by repeat (first | (with_reducible first | exact HB.out | apply below_alloc | apply pw_below_drewN | apply below_drew1 | refine below_set ?_ GE162.out | refine below_set ?_ GE163.out | refine below_set ?_ GE164.out) | exact HB.out)⟩⟩
          ·rw [if_neg c117] at H
           have c117b0 : decide (t167 < 0) = false := decide_eq_false c117
           clear c117
           have H' := Aside0.mk H
           clear H
           have hnb124 := NB163_162.out
           have hnc124 := NB162_163.out
           have hnb125 := NB163_164.out
           have hnc125 := NB164_163.out
           have hcz126_0 : w26.cell? ⟨gb163, 0, none⟩ = some (.int .i64 a1_0) := (blk_cell BK163.out 0).trans rfl
           have hcz126_1 : w26.cell? ⟨gb163, 1, none⟩ = some (.slice A1_1 l1_1.length c1_1) := (blk_cell BK163.out 1).trans rfl
           have hcz126_2 : w26.cell? ⟨gb163, 2, none⟩ = some (.slice A1_2 l1_2.length c1_2) := (blk_cell BK163.out 2).trans rfl
           have hfz126_0 := blk_frozen BK163.out 0
           have hfz126_1 := blk_frozen BK163.out 1
           have hfz126_2 := blk_frozen BK163.out 2
           have hnb127 := NB162_164.out
           have hnc127 := NB164_162.out
           have hcz128_0 : w26.cell? ⟨gb162, 0, none⟩ = some (.int .i64 a0_0) := (blk_cell BK162.out 0).trans rfl
           have hcz128_1 : w26.cell? ⟨gb162, 1, none⟩ = some (.slice A0_1 l0_1.length c0_1) := (blk_cell BK162.out 1).trans rfl
           have hcz128_2 : w26.cell? ⟨gb162, 2, none⟩ = some (.slice A0_2 l0_2.length c0_2) := (blk_cell BK162.out 2).trans rfl
           have hfz128_0 := blk_frozen BK162.out 0
           have hfz128_1 := blk_frozen BK162.out 1
           have hfz128_2 := blk_frozen BK162.out 2
           go_wp2_with (first | ((with_reducible refine gate_callee (f := 14) rfl ?_); refine goesL_ (some 30) rfl rfl Try.func14 (by kernel_rfl) rfl #[.agg #[.int .i64 a1_0, .slice A1_1 l1_1.length c1_1, .slice A1_2 l1_2.length c1_2], .agg #[.int .i64 a0_0, .slice A0_1 l0_1.length c0_1, .slice A0_2 l0_2.length c0_2]] rfl (by (try simp only [List.map_toArray, List.map_cons, List.map_nil]); first | done | rfl | (simp only [List.length_drop, List.length_take]; rfl)) ?_; (with_reducible refine (fact_Compare.calls k a1_0 _ _ l1_1 _ _ l1_2 a0_0 _ _ l0_1 _ _ l0_2 t169 _ ?side1 ?side2 ?side3 ?side4 ?side5 ?side6 ?side7 ?side8 A27.out).mono ?_); (case side1 => repeat (first | exact (Kd.C_below HR1_1.out HB.out) | (with_reducible refine Kd.C_alloc ?_ _) | (with_reducible refine Kd.C_drewN ?_ _) | (with_reducible refine Kd.C_drew ?_))); (case side2 => exact HC1_1.out); (case side3 => repeat (first | exact (Kd.C_below HR1_2.out HB.out) | (with_reducible refine Kd.C_alloc ?_ _) | (with_reducible refine Kd.C_drewN ?_ _) | (with_reducible refine Kd.C_drew ?_))); (case side4 => exact HC1_2.out); (case side5 => repeat (first | exact (Kd.C_below HR0_1.out HB.out) | (with_reducible refine Kd.C_alloc ?_ _) | (with_reducible refine Kd.C_drewN ?_ _) | (with_reducible refine Kd.C_drew ?_))); (case side6 => exact HC0_1.out); (case side7 => repeat (first | exact (Kd.C_below HR0_2.out HB.out) | (with_reducible refine Kd.C_alloc ?_ _) | (with_reducible refine Kd.C_drewN ?_ _) | (with_reducible refine Kd.C_drew ?_))); (case side8 => exact HC0_2.out); rintro e w129 ⟨rfl, hb⟩; refine ⟨_, rfl, ?_⟩; have n0_ := Aside0.mk (blk_below (bk_ BK162.out) hb); have n1_ := Aside0.mk (blk_below (bk_ BK163.out) hb); have n2_ := Aside0.mk (blk_below (bk_ BK164.out) hb); have n3_ := Aside0.mk (below_step (bw_ HB.out) hb); clear BK162 BK163 BK164 HB; have BK162 := n0_; have BK163 := n1_; have BK164 := n2_; have HB := n3_; clear n0_ n1_ n2_ n3_; (try clear hb); (try clear hb2); (try clear hk); (try clear hi)))
           go_meet
           case rel => exact ⟨_, (false), (by first | rfl | (simp; done) | (simp [*]; done)), H', ⟨by first | omega | exact Nat.le_refl _⟩, ⟨by (with_reducible repeat (first | refine blk_drewN ?_ _ | refine blk_drew ?_ | refine blk_alloc ?_ _)); exact BK162.out⟩, ⟨by (with_reducible repeat (first | refine blk_drewN ?_ _ | refine blk_drew ?_ | refine blk_alloc ?_ _)); exact BK163.out⟩, ⟨by (with_reducible repeat (first | refine blk_drewN ?_ _ | refine blk_drew ?_ | refine blk_alloc ?_ _)); exact BK164.out⟩, ⟨by repeat (first | (with_reducible first | exact HB.out | apply below_alloc | apply pw_below_drewN | apply below_drew1 | refine below_set ?_ GE162.out | refine below_set ?_ GE163.out | refine below_set ?_ GE164.out) | exact HB.out)⟩⟩
         ·rw [if_neg c116] at H
          have c116b0 : decide (t166 < 0) = false := decide_eq_false c116
          clear c116
          have H' := Aside0.mk H
          clear H
          have hnb130 := NB163_162.out
          have hnc130 := NB162_163.out
          have hnb131 := NB163_164.out
          have hnc131 := NB164_163.out
          have hcz132_0 : w26.cell? ⟨gb163, 0, none⟩ = some (.int .i64 a1_0) := (blk_cell BK163.out 0).trans rfl
          have hcz132_1 : w26.cell? ⟨gb163, 1, none⟩ = some (.slice A1_1 l1_1.length c1_1) := (blk_cell BK163.out 1).trans rfl
          have hcz132_2 : w26.cell? ⟨gb163, 2, none⟩ = some (.slice A1_2 l1_2.length c1_2) := (blk_cell BK163.out 2).trans rfl
          have hfz132_0 := blk_frozen BK163.out 0
          have hfz132_1 := blk_frozen BK163.out 1
          have hfz132_2 := blk_frozen BK163.out 2
          have hnb133 := NB162_164.out
          have hnc133 := NB164_162.out
          have hcz134_0 : w26.cell? ⟨gb162, 0, none⟩ = some (.int .i64 a0_0) := (blk_cell BK162.out 0).trans rfl
          have hcz134_1 : w26.cell? ⟨gb162, 1, none⟩ = some (.slice A0_1 l0_1.length c0_1) := (blk_cell BK162.out 1).trans rfl
          have hcz134_2 : w26.cell? ⟨gb162, 2, none⟩ = some (.slice A0_2 l0_2.length c0_2) := (blk_cell BK162.out 2).trans rfl
          have hfz134_0 := blk_frozen BK162.out 0
          have hfz134_1 := blk_frozen BK162.out 1
          have hfz134_2 := blk_frozen BK162.out 2
          go_wp2_with (first | ((with_reducible refine gate_callee (f := 14) rfl ?_); refine goesL_ (some 30) rfl rfl Try.func14 (by kernel_rfl) rfl #[.agg #[.int .i64 a1_0, .slice A1_1 l1_1.length c1_1, .slice A1_2 l1_2.length c1_2], .agg #[.int .i64 a0_0, .slice A0_1 l0_1.length c0_1, .slice A0_2 l0_2.length c0_2]] rfl (by (try simp only [List.map_toArray, List.map_cons, List.map_nil]); first | done | rfl | (simp only [List.length_drop, List.length_take]; rfl)) ?_; (with_reducible refine (fact_Compare.calls k a1_0 _ _ l1_1 _ _ l1_2 a0_0 _ _ l0_1 _ _ l0_2 t169 _ ?side1 ?side2 ?side3 ?side4 ?side5 ?side6 ?side7 ?side8 A27.out).mono ?_); (case side1 => repeat (first | exact (Kd.C_below HR1_1.out HB.out) | (with_reducible refine Kd.C_alloc ?_ _) | (with_reducible refine Kd.C_drewN ?_ _) | (with_reducible refine Kd.C_drew ?_))); (case side2 => exact HC1_1.out); (case side3 => repeat (first | exact (Kd.C_below HR1_2.out HB.out) | (with_reducible refine Kd.C_alloc ?_ _) | (with_reducible refine Kd.C_drewN ?_ _) | (with_reducible refine Kd.C_drew ?_))); (case side4 => exact HC1_2.out); (case side5 => repeat (first | exact (Kd.C_below HR0_1.out HB.out) | (with_reducible refine Kd.C_alloc ?_ _) | (with_reducible refine Kd.C_drewN ?_ _) | (with_reducible refine Kd.C_drew ?_))); (case side6 => exact HC0_1.out); (case side7 => repeat (first | exact (Kd.C_below HR0_2.out HB.out) | (with_reducible refine Kd.C_alloc ?_ _) | (with_reducible refine Kd.C_drewN ?_ _) | (with_reducible refine Kd.C_drew ?_))); (case side8 => exact HC0_2.out); rintro e w135 ⟨rfl, hb⟩; refine ⟨_, rfl, ?_⟩; have n0_ := Aside0.mk (blk_below (bk_ BK162.out) hb); have n1_ := Aside0.mk (blk_below (bk_ BK163.out) hb); have n2_ := Aside0.mk (blk_below (bk_ BK164.out) hb); have n3_ := Aside0.mk (below_step (bw_ HB.out) hb); clear BK162 BK163 BK164 HB; have BK162 := n0_; have BK163 := n1_; have BK164 := n2_; have HB := n3_; clear n0_ n1_ n2_ n3_; (try clear hb); (try clear hb2); (try clear hk); (try clear hi)))
          go_meet
          case rel => exact ⟨_, (false), (by first | rfl | (simp; done) | (simp [*]; done)), H', ⟨by first | omega | exact Nat.le_refl _⟩, ⟨by (with_reducible repeat (first | refine blk_drewN ?_ _ | refine blk_drew ?_ | refine blk_alloc ?_ _)); exact BK162.out⟩, ⟨by (with_reducible repeat (first | refine blk_drewN ?_ _ | refine blk_drew ?_ | refine blk_alloc ?_ _)); exact BK163.out⟩, ⟨by (with_reducible repeat (first | refine blk_drewN ?_ _ | refine blk_drew ?_ | refine blk_alloc ?_ _)); exact BK164.out⟩, ⟨by repeat (first | (with_reducible first | exact HB.out | apply below_alloc | apply pw_below_drewN | apply below_drew1 | refine below_set ?_ GE162.out | refine below_set ?_ GE163.out | refine below_set ?_ GE164.out) | exact HB.out)⟩⟩
       ·rw [if_neg c108] at H
        have c108b0 : decide (0 ≤ t167) = false := decide_eq_false c108
        clear c108
        by_cases c136 : t166 < 0
        ·rw [if_pos c136] at H
         have c136b0 : decide (t166 < 0) = true := decide_eq_true c136
         clear c136
         by_cases c137 : t167 < 0
         ·rw [if_pos c137] at H
          have c137b0 : decide (t167 < 0) = true := decide_eq_true c137
          clear c137
          have H' := Aside0.mk H
          clear H
          have hnb138 := NB163_162.out
          have hnc138 := NB162_163.out
          have hnb139 := NB163_164.out
          have hnc139 := NB164_163.out
          have hcz140_0 : w26.cell? ⟨gb163, 0, none⟩ = some (.int .i64 a1_0) := (blk_cell BK163.out 0).trans rfl
          have hcz140_1 : w26.cell? ⟨gb163, 1, none⟩ = some (.slice A1_1 l1_1.length c1_1) := (blk_cell BK163.out 1).trans rfl
          have hcz140_2 : w26.cell? ⟨gb163, 2, none⟩ = some (.slice A1_2 l1_2.length c1_2) := (blk_cell BK163.out 2).trans rfl
          have hfz140_0 := blk_frozen BK163.out 0
          have hfz140_1 := blk_frozen BK163.out 1
          have hfz140_2 := blk_frozen BK163.out 2
          have hnb141 := NB162_164.out
          have hnc141 := NB164_162.out
          have hcz142_0 : w26.cell? ⟨gb162, 0, none⟩ = some (.int .i64 a0_0) := (blk_cell BK162.out 0).trans rfl
          have hcz142_1 : w26.cell? ⟨gb162, 1, none⟩ = some (.slice A0_1 l0_1.length c0_1) := (blk_cell BK162.out 1).trans rfl
          have hcz142_2 : w26.cell? ⟨gb162, 2, none⟩ = some (.slice A0_2 l0_2.length c0_2) := (blk_cell BK162.out 2).trans rfl
          have hfz142_0 := blk_frozen BK162.out 0
          have hfz142_1 := blk_frozen BK162.out 1
          have hfz142_2 := blk_frozen BK162.out 2
          go_wp2_with (first | ((with_reducible refine gate_callee (f := 14) rfl ?_); refine goesL_ (some 30) rfl rfl Try.func14 (by kernel_rfl) rfl #[.agg #[.int .i64 a1_0, .slice A1_1 l1_1.length c1_1, .slice A1_2 l1_2.length c1_2], .agg #[.int .i64 a0_0, .slice A0_1 l0_1.length c0_1, .slice A0_2 l0_2.length c0_2]] rfl (by (try simp only [List.map_toArray, List.map_cons, List.map_nil]); first | done | rfl | (simp only [List.length_drop, List.length_take]; rfl)) ?_; (with_reducible refine (fact_Compare.calls k a1_0 _ _ l1_1 _ _ l1_2 a0_0 _ _ l0_1 _ _ l0_2 t169 _ ?side1 ?side2 ?side3 ?side4 ?side5 ?side6 ?side7 ?side8 A27.out).mono ?_); (case side1 => repeat (first | exact (Kd.C_below HR1_1.out HB.out) | (with_reducible refine Kd.C_alloc ?_ _) | (with_reducible refine Kd.C_drewN ?_ _) | (with_reducible refine Kd.C_drew ?_))); (case side2 => exact HC1_1.out); (case side3 => repeat (first | exact (Kd.C_below HR1_2.out HB.out) | (with_reducible refine Kd.C_alloc ?_ _) | (with_reducible refine Kd.C_drewN ?_ _) | (with_reducible refine Kd.C_drew ?_))); (case side4 => exact HC1_2.out); (case side5 => repeat (first | exact (Kd.C_below HR0_1.out HB.out) | (with_reducible refine Kd.C_alloc ?_ _) | (with_reducible refine Kd.C_drewN ?_ _) | (with_reducible refine Kd.C_drew ?_))); (case side6 => exact HC0_1.out); (case side7 => repeat (first | exact (Kd.C_below HR0_2.out HB.out) | (with_reducible refine Kd.C_alloc ?_ _) | (with_reducible refine Kd.C_drewN ?_ _) | (with_reducible refine Kd.C_drew ?_))); (case side8 => exact HC0_2.out); rintro e w143 ⟨rfl, hb⟩; refine ⟨_, rfl, ?_⟩; have n0_ := Aside0.mk (blk_below (bk_ BK162.out) hb); have n1_ := Aside0.mk (blk_below (bk_ BK163.out) hb); have n2_ := Aside0.mk (blk_below (bk_ BK164.out) hb); have n3_ := Aside0.mk (below_step (bw_ HB.out) hb); clear BK162 BK163 BK164 HB; have BK162 := n0_; have BK163 := n1_; have BK164 := n2_; have HB := n3_; clear n0_ n1_ n2_ n3_; (try clear hb); (try clear hb2); (try clear hk); (try clear hi)))
          go_meet
          case rel => exact ⟨_, (decide (t168 ≥ 0)), (by first | rfl | (simp; done) | (simp [*]; done)), H', ⟨by first | omega | exact Nat.le_refl _⟩, ⟨by (with_reducible repeat (first | refine blk_drewN ?_ _ | refine blk_drew ?_ | refine blk_alloc ?_ _)); exact BK162.out⟩, ⟨by (with_reducible repeat (first | refine blk_drewN ?_ _ | refine blk_drew ?_ | refine blk_alloc ?_ _)); exact BK163.out⟩, ⟨by (with_reducible repeat (first | refine blk_drewN ?_ _ | refine blk_drew ?_ | refine blk_alloc ?_ _)); exact BK164.out⟩, ⟨by repeat (first | (with_reducible first | exact HB.out | apply below_alloc | apply pw_below_drewN | apply below_drew1 | refine below_set ?_ GE162.out | refine below_set ?_ GE163.out | refine below_set ?_ GE164.out) | exact HB.out)⟩⟩
         ·rw [if_neg c137] at H
          have c137b0 : decide (t167 < 0) = false := decide_eq_false c137
          clear c137
          have H' := Aside0.mk H
          clear H
          have hnb144 := NB163_162.out
          have hnc144 := NB162_163.out
          have hnb145 := NB163_164.out
          have hnc145 := NB164_163.out
          have hcz146_0 : w26.cell? ⟨gb163, 0, none⟩ = some (.int .i64 a1_0) := (blk_cell BK163.out 0).trans rfl
          have hcz146_1 : w26.cell? ⟨gb163, 1, none⟩ = some (.slice A1_1 l1_1.length c1_1) := (blk_cell BK163.out 1).trans rfl
          have hcz146_2 : w26.cell? ⟨gb163, 2, none⟩ = some (.slice A1_2 l1_2.length c1_2) := (blk_cell BK163.out 2).trans rfl
          have hfz146_0 := blk_frozen BK163.out 0
          have hfz146_1 := blk_frozen BK163.out 1
          have hfz146_2 := blk_frozen BK163.out 2
          have hnb147 := NB162_164.out
          have hnc147 := NB164_162.out
          have hcz148_0 : w26.cell? ⟨gb162, 0, none⟩ = some (.int .i64 a0_0) := (blk_cell BK162.out 0).trans rfl
          have hcz148_1 : w26.cell? ⟨gb162, 1, none⟩ = some (.slice A0_1 l0_1.length c0_1) := (blk_cell BK162.out 1).trans rfl
          have hcz148_2 : w26.cell? ⟨gb162, 2, none⟩ = some (.slice A0_2 l0_2.length c0_2) := (blk_cell BK162.out 2).trans rfl
          have hfz148_0 := blk_frozen BK162.out 0
          have hfz148_1 := blk_frozen BK162.out 1
          have hfz148_2 := blk_frozen BK162.out 2
          go_wp2_with (first | ((with_reducible refine gate_callee (f := 14) rfl ?_); refine goesL_ (some 30) rfl rfl Try.func14 (by kernel_rfl) rfl #[.agg #[.int .i64 a1_0, .slice A1_1 l1_1.length c1_1, .slice A1_2 l1_2.length c1_2], .agg #[.int .i64 a0_0, .slice A0_1 l0_1.length c0_1, .slice A0_2 l0_2.length c0_2]] rfl (by (try simp only [List.map_toArray, List.map_cons, List.map_nil]); first | done | rfl | (simp only [List.length_drop, List.length_take]; rfl)) ?_; (with_reducible refine (fact_Compare.calls k a1_0 _ _ l1_1 _ _ l1_2 a0_0 _ _ l0_1 _ _ l0_2 t169 _ ?side1 ?side2 ?side3 ?side4 ?side5 ?side6 ?side7 ?side8 A27.out).mono ?_); (case side1 => repeat (first | exact (Kd.C_below HR1_1.out HB.out) | (with_reducible refine Kd.C_alloc ?_ _) | (with_reducible refine Kd.C_drewN ?_ _) | (with_reducible refine Kd.C_drew ?_))); (case side2 => exact HC1_1.out); (case side3 => repeat (first | exact (Kd.C_below HR1_2.out HB.out) | (with_reducible refine Kd.C_alloc ?_ _) | (with_reducible refine Kd.C_drewN ?_ _) | (with_reducible refine Kd.C_drew ?_))); (case side4 => exact HC1_2.out); (case side5 => repeat (first | exact (Kd.C_below HR0_1.out HB.out) | (with_reducible refine Kd.C_alloc ?_ _) | (with_reducible refine Kd.C_drewN ?_ _) | (with_reducible refine Kd.C_drew ?_))); (case side6 => exact HC0_1.out); (case side7 => repeat (first | exact (Kd.C_below HR0_2.out HB.out) | (with_reducible refine Kd.C_alloc ?_ _) | (with_reducible refine Kd.C_drewN ?_ _) | (with_reducible refine Kd.C_drew ?_))); (case side8 => exact HC0_2.out); rintro e w149 ⟨rfl, hb⟩; refine ⟨_, rfl, ?_⟩; have n0_ := Aside0.mk (blk_below (bk_ BK162.out) hb); have n1_ := Aside0.mk (blk_below (bk_ BK163.out) hb); have n2_ := Aside0.mk (blk_below (bk_ BK164.out) hb); have n3_ := Aside0.mk (below_step (bw_ HB.out) hb); clear BK162 BK163 BK164 HB; have BK162 := n0_; have BK163 := n1_; have BK164 := n2_; have HB := n3_; clear n0_ n1_ n2_ n3_; (try clear hb); (try clear hb2); (try clear hk); (try clear hi)))
          go_meet
          case rel => exact ⟨_, (false), (by first | rfl | (simp; done) | (simp [*]; done)), H', ⟨by first | omega | exact Nat.le_refl _⟩, ⟨by (with_reducible repeat (first | refine blk_drewN ?_ _ | refine blk_drew ?_ | refine blk_alloc ?_ _)); exact BK162.out⟩, ⟨by (with_reducible repeat (first | refine blk_drewN ?_ _ | refine blk_drew ?_ | refine blk_alloc ?_ _)); exact BK163.out⟩, ⟨by (with_reducible repeat (first | refine blk_drewN ?_ _ | refine blk_drew ?_ | refine blk_alloc ?_ _)); exact BK164.out⟩, ⟨by repeat (first | (with_reducible first | exact HB.out | apply below_alloc | apply pw_below_drewN | apply below_drew1 | refine below_set ?_ GE162.out | refine below_set ?_ GE163.out | refine below_set ?_ GE164.out) | exact HB.out)⟩⟩
        ·rw [if_neg c136] at H
         have c136b0 : decide (t166 < 0) = false := decide_eq_false c136
         clear c136
         have H' := Aside0.mk H
         clear H
         have hnb150 := NB163_162.out
         have hnc150 := NB162_163.out
         have hnb151 := NB163_164.out
         have hnc151 := NB164_163.out
         have hcz152_0 : w26.cell? ⟨gb163, 0, none⟩ = some (.int .i64 a1_0) := (blk_cell BK163.out 0).trans rfl
         have hcz152_1 : w26.cell? ⟨gb163, 1, none⟩ = some (.slice A1_1 l1_1.length c1_1) := (blk_cell BK163.out 1).trans rfl
         have hcz152_2 : w26.cell? ⟨gb163, 2, none⟩ = some (.slice A1_2 l1_2.length c1_2) := (blk_cell BK163.out 2).trans rfl
         have hfz152_0 := blk_frozen BK163.out 0
         have hfz152_1 := blk_frozen BK163.out 1
         have hfz152_2 := blk_frozen BK163.out 2
         have hnb153 := NB162_164.out
         have hnc153 := NB164_162.out
         have hcz154_0 : w26.cell? ⟨gb162, 0, none⟩ = some (.int .i64 a0_0) := (blk_cell BK162.out 0).trans rfl
         have hcz154_1 : w26.cell? ⟨gb162, 1, none⟩ = some (.slice A0_1 l0_1.length c0_1) := (blk_cell BK162.out 1).trans rfl
         have hcz154_2 : w26.cell? ⟨gb162, 2, none⟩ = some (.slice A0_2 l0_2.length c0_2) := (blk_cell BK162.out 2).trans rfl
         have hfz154_0 := blk_frozen BK162.out 0
         have hfz154_1 := blk_frozen BK162.out 1
         have hfz154_2 := blk_frozen BK162.out 2
         go_wp2_with (first | ((with_reducible refine gate_callee (f := 14) rfl ?_); refine goesL_ (some 30) rfl rfl Try.func14 (by kernel_rfl) rfl #[.agg #[.int .i64 a1_0, .slice A1_1 l1_1.length c1_1, .slice A1_2 l1_2.length c1_2], .agg #[.int .i64 a0_0, .slice A0_1 l0_1.length c0_1, .slice A0_2 l0_2.length c0_2]] rfl (by (try simp only [List.map_toArray, List.map_cons, List.map_nil]); first | done | rfl | (simp only [List.length_drop, List.length_take]; rfl)) ?_; (with_reducible refine (fact_Compare.calls k a1_0 _ _ l1_1 _ _ l1_2 a0_0 _ _ l0_1 _ _ l0_2 t169 _ ?side1 ?side2 ?side3 ?side4 ?side5 ?side6 ?side7 ?side8 A27.out).mono ?_); (case side1 => repeat (first | exact (Kd.C_below HR1_1.out HB.out) | (with_reducible refine Kd.C_alloc ?_ _) | (with_reducible refine Kd.C_drewN ?_ _) | (with_reducible refine Kd.C_drew ?_))); (case side2 => exact HC1_1.out); (case side3 => repeat (first | exact (Kd.C_below HR1_2.out HB.out) | (with_reducible refine Kd.C_alloc ?_ _) | (with_reducible refine Kd.C_drewN ?_ _) | (with_reducible refine Kd.C_drew ?_))); (case side4 => exact HC1_2.out); (case side5 => repeat (first | exact (Kd.C_below HR0_1.out HB.out) | (with_reducible refine Kd.C_alloc ?_ _) | (with_reducible refine Kd.C_drewN ?_ _) | (with_reducible refine Kd.C_drew ?_))); (case side6 => exact HC0_1.out); (case side7 => repeat (first | exact (Kd.C_below HR0_2.out HB.out) | (with_reducible refine Kd.C_alloc ?_ _) | (with_reducible refine Kd.C_drewN ?_ _) | (with_reducible refine Kd.C_drew ?_))); (case side8 => exact HC0_2.out); rintro e w155 ⟨rfl, hb⟩; refine ⟨_, rfl, ?_⟩; have n0_ := Aside0.mk (blk_below (bk_ BK162.out) hb); have n1_ := Aside0.mk (blk_below (bk_ BK163.out) hb); have n2_ := Aside0.mk (blk_below (bk_ BK164.out) hb); have n3_ := Aside0.mk (below_step (bw_ HB.out) hb); clear BK162 BK163 BK164 HB; have BK162 := n0_; have BK163 := n1_; have BK164 := n2_; have HB := n3_; clear n0_ n1_ n2_ n3_; (try clear hb); (try clear hb2); (try clear hk); (try clear hi)))
         go_meet
         case rel => exact ⟨_, (false), (by first | rfl | (simp; done) | (simp [*]; done)), H', ⟨by first | omega | exact Nat.le_refl _⟩, ⟨by (with_reducible repeat (first | refine blk_drewN ?_ _ | refine blk_drew ?_ | refine blk_alloc ?_ _)); exact BK162.out⟩, ⟨by (with_reducible repeat (first | refine blk_drewN ?_ _ | refine blk_drew ?_ | refine blk_alloc ?_ _)); exact BK163.out⟩, ⟨by (with_reducible repeat (first | refine blk_drewN ?_ _ | refine blk_drew ?_ | refine blk_alloc ?_ _)); exact BK164.out⟩, ⟨by repeat (first | (with_reducible first | exact HB.out | apply below_alloc | apply pw_below_drewN | apply below_drew1 | refine below_set ?_ GE162.out | refine below_set ?_ GE163.out | refine below_set ?_ GE164.out) | exact HB.out)⟩⟩
      ·rw [if_neg c107] at H
       have c107b0 : decide (0 ≤ t166) = false := decide_eq_false c107
       clear c107
       by_cases c156 : t166 < 0
       ·rw [if_pos c156] at H
        have c156b0 : decide (t166 < 0) = true := decide_eq_true c156
        clear c156
        by_cases c157 : t167 < 0
        ·rw [if_pos c157] at H
         have c157b0 : decide (t167 < 0) = true := decide_eq_true c157
         clear c157
         have H' := Aside0.mk H
         clear H
         have hnb158 := NB163_162.out
         have hnc158 := NB162_163.out
         have hnb159 := NB163_164.out
         have hnc159 := NB164_163.out
         have hcz160_0 : w26.cell? ⟨gb163, 0, none⟩ = some (.int .i64 a1_0) := (blk_cell BK163.out 0).trans rfl
         have hcz160_1 : w26.cell? ⟨gb163, 1, none⟩ = some (.slice A1_1 l1_1.length c1_1) := (blk_cell BK163.out 1).trans rfl
         have hcz160_2 : w26.cell? ⟨gb163, 2, none⟩ = some (.slice A1_2 l1_2.length c1_2) := (blk_cell BK163.out 2).trans rfl
         have hfz160_0 := blk_frozen BK163.out 0
         have hfz160_1 := blk_frozen BK163.out 1
         have hfz160_2 := blk_frozen BK163.out 2
         have hnb161 := NB162_164.out
         have hnc161 := NB164_162.out
         have hcz162_0 : w26.cell? ⟨gb162, 0, none⟩ = some (.int .i64 a0_0) := (blk_cell BK162.out 0).trans rfl
         have hcz162_1 : w26.cell? ⟨gb162, 1, none⟩ = some (.slice A0_1 l0_1.length c0_1) := (blk_cell BK162.out 1).trans rfl
         have hcz162_2 : w26.cell? ⟨gb162, 2, none⟩ = some (.slice A0_2 l0_2.length c0_2) := (blk_cell BK162.out 2).trans rfl
         have hfz162_0 := blk_frozen BK162.out 0
         have hfz162_1 := blk_frozen BK162.out 1
         have hfz162_2 := blk_frozen BK162.out 2
         go_wp2_with (first | ((with_reducible refine gate_callee (f := 14) rfl ?_); refine goesL_ (some 30) rfl rfl Try.func14 (by kernel_rfl) rfl #[.agg #[.int .i64 a1_0, .slice A1_1 l1_1.length c1_1, .slice A1_2 l1_2.length c1_2], .agg #[.int .i64 a0_0, .slice A0_1 l0_1.length c0_1, .slice A0_2 l0_2.length c0_2]] rfl (by (try simp only [List.map_toArray, List.map_cons, List.map_nil]); first | done | rfl | (simp only [List.length_drop, List.length_take]; rfl)) ?_; (with_reducible refine (fact_Compare.calls k a1_0 _ _ l1_1 _ _ l1_2 a0_0 _ _ l0_1 _ _ l0_2 t169 _ ?side1 ?side2 ?side3 ?side4 ?side5 ?side6 ?side7 ?side8 A27.out).mono ?_); (case side1 => repeat (first | exact (Kd.C_below HR1_1.out HB.out) | (with_reducible refine Kd.C_alloc ?_ _) | (with_reducible refine Kd.C_drewN ?_ _) | (with_reducible refine Kd.C_drew ?_))); (case side2 => exact HC1_1.out); (case side3 => repeat (first | exact (Kd.C_below HR1_2.out HB.out) | (with_reducible refine Kd.C_alloc ?_ _) | (with_reducible refine Kd.C_drewN ?_ _) | (with_reducible refine Kd.C_drew ?_))); (case side4 => exact HC1_2.out); (case side5 => repeat (first | exact (Kd.C_below HR0_1.out HB.out) | (with_reducible refine Kd.C_alloc ?_ _) | (with_reducible refine Kd.C_drewN ?_ _) | (with_reducible refine Kd.C_drew ?_))); (case side6 => exact HC0_1.out); (case side7 => repeat (first | exact (Kd.C_below HR0_2.out HB.out) | (with_reducible refine Kd.C_alloc ?_ _) | (with_reducible refine Kd.C_drewN ?_ _) | (with_reducible refine Kd.C_drew ?_))); (case side8 => exact HC0_2.out); rintro e w163 ⟨rfl, hb⟩; refine ⟨_, rfl, ?_⟩; have n0_ := Aside0.mk (blk_below (bk_ BK162.out) hb); have n1_ := Aside0.mk (blk_below (bk_ BK163.out) hb); have n2_ := Aside0.mk (blk_below (bk_ BK164.out) hb); have n3_ := Aside0.mk (below_step (bw_ HB.out) hb); clear BK162 BK163 BK164 HB; have BK162 := n0_; have BK163 := n1_; have BK164 := n2_; have HB := n3_; clear n0_ n1_ n2_ n3_; (try clear hb); (try clear hb2); (try clear hk); (try clear hi)))
         go_meet
         case rel => exact ⟨_, (decide (t168 ≥ 0)), (by first | rfl | (simp; done) | (simp [*]; done)), H', ⟨by first | omega | exact Nat.le_refl _⟩, ⟨by (with_reducible repeat (first | refine blk_drewN ?_ _ | refine blk_drew ?_ | refine blk_alloc ?_ _)); exact BK162.out⟩, ⟨by (with_reducible repeat (first | refine blk_drewN ?_ _ | refine blk_drew ?_ | refine blk_alloc ?_ _)); exact BK163.out⟩, ⟨by (with_reducible repeat (first | refine blk_drewN ?_ _ | refine blk_drew ?_ | refine blk_alloc ?_ _)); exact BK164.out⟩, ⟨by repeat (first | (with_reducible first | exact HB.out | apply below_alloc | apply pw_below_drewN | apply below_drew1 | refine below_set ?_ GE162.out | refine below_set ?_ GE163.out | refine below_set ?_ GE164.out) | exact HB.out)⟩⟩
        ·rw [if_neg c157] at H
         have c157b0 : decide (t167 < 0) = false := decide_eq_false c157
         clear c157
         have H' := Aside0.mk H
         clear H
         have hnb164 := NB163_162.out
         have hnc164 := NB162_163.out
         have hnb165 := NB163_164.out
         have hnc165 := NB164_163.out
         have hcz166_0 : w26.cell? ⟨gb163, 0, none⟩ = some (.int .i64 a1_0) := (blk_cell BK163.out 0).trans rfl
         have hcz166_1 : w26.cell? ⟨gb163, 1, none⟩ = some (.slice A1_1 l1_1.length c1_1) := (blk_cell BK163.out 1).trans rfl
         have hcz166_2 : w26.cell? ⟨gb163, 2, none⟩ = some (.slice A1_2 l1_2.length c1_2) := (blk_cell BK163.out 2).trans rfl
         have hfz166_0 := blk_frozen BK163.out 0
         have hfz166_1 := blk_frozen BK163.out 1
         have hfz166_2 := blk_frozen BK163.out 2
         have hnb167 := NB162_164.out
         have hnc167 := NB164_162.out
         have hcz168_0 : w26.cell? ⟨gb162, 0, none⟩ = some (.int .i64 a0_0) := (blk_cell BK162.out 0).trans rfl
         have hcz168_1 : w26.cell? ⟨gb162, 1, none⟩ = some (.slice A0_1 l0_1.length c0_1) := (blk_cell BK162.out 1).trans rfl
         have hcz168_2 : w26.cell? ⟨gb162, 2, none⟩ = some (.slice A0_2 l0_2.length c0_2) := (blk_cell BK162.out 2).trans rfl
         have hfz168_0 := blk_frozen BK162.out 0
         have hfz168_1 := blk_frozen BK162.out 1
         have hfz168_2 := blk_frozen BK162.out 2
         go_wp2_with (first | ((with_reducible refine gate_callee (f := 14) rfl ?_); refine goesL_ (some 30) rfl rfl Try.func14 (by kernel_rfl) rfl #[.agg #[.int .i64 a1_0, .slice A1_1 l1_1.length c1_1, .slice A1_2 l1_2.length c1_2], .agg #[.int .i64 a0_0, .slice A0_1 l0_1.length c0_1, .slice A0_2 l0_2.length c0_2]] rfl (by (try simp only [List.map_toArray, List.map_cons, List.map_nil]); first | done | rfl | (simp only [List.length_drop, List.length_take]; rfl)) ?_; (with_reducible refine (fact_Compare.calls k a1_0 _ _ l1_1 _ _ l1_2 a0_0 _ _ l0_1 _ _ l0_2 t169 _ ?side1 ?side2 ?side3 ?side4 ?side5 ?side6 ?side7 ?side8 A27.out).mono ?_); (case side1 => repeat (first | exact (Kd.C_below HR1_1.out HB.out) | (with_reducible refine Kd.C_alloc ?_ _) | (with_reducible refine Kd.C_drewN ?_ _) | (with_reducible refine Kd.C_drew ?_))); (case side2 => exact HC1_1.out); (case side3 => repeat (first | exact (Kd.C_below HR1_2.out HB.out) | (with_reducible refine Kd.C_alloc ?_ _) | (with_reducible refine Kd.C_drewN ?_ _) | (with_reducible refine Kd.C_drew ?_))); (case side4 => exact HC1_2.out); (case side5 => repeat (first | exact (Kd.C_below HR0_1.out HB.out) | (with_reducible refine Kd.C_alloc ?_ _) | (with_reducible refine Kd.C_drewN ?_ _) | (with_reducible refine Kd.C_drew ?_))); (case side6 => exact HC0_1.out); (case side7 => repeat (first | exact (Kd.C_below HR0_2.out HB.out) | (with_reducible refine Kd.C_alloc ?_ _) | (with_reducible refine Kd.C_drewN ?_ _) | (with_reducible refine Kd.C_drew ?_))); (case side8 => exact HC0_2.out); rintro e w169 ⟨rfl, hb⟩; refine ⟨_, rfl, ?_⟩; have n0_ := Aside0.mk (blk_below (bk_ BK162.out) hb); have n1_ := Aside0.mk (blk_below (bk_ BK163.out) hb); have n2_ := Aside0.mk (blk_below (bk_ BK164.out) hb); have n3_ := Aside0.mk (below_step (bw_ HB.out) hb); clear BK162 BK163 BK164 HB; have BK162 := n0_; have BK163 := n1_; have BK164 := n2_; have HB := n3_; clear n0_ n1_ n2_ n3_; (try clear hb); (try clear hb2); (try clear hk); (try clear hi)))
         go_meet
         case rel => exact ⟨_, (false), (by first | rfl | (simp; done) | (simp [*]; done)), H', ⟨by first | omega | exact Nat.le_refl _⟩, ⟨by (with_reducible repeat (first | refine blk_drewN ?_ _ | refine blk_drew ?_ | refine blk_alloc ?_ _)); exact BK162.out⟩, ⟨by (with_reducible repeat (first | refine blk_drewN ?_ _ | refine blk_drew ?_ | refine blk_alloc ?_ _)); exact BK163.out⟩, ⟨by (with_reducible repeat (first | refine blk_drewN ?_ _ | refine blk_drew ?_ | refine blk_alloc ?_ _)); exact BK164.out⟩, ⟨by repeat (first | (with_reducible first | exact HB.out | apply below_alloc | apply pw_below_drewN | apply below_drew1 | refine below_set ?_ GE162.out | refine below_set ?_ GE163.out | refine below_set ?_ GE164.out) | exact HB.out)⟩⟩
       ·rw [if_neg c156] at H
        have c156b0 : decide (t166 < 0) = false := decide_eq_false c156
        clear c156
        have H' := Aside0.mk H
        clear H
        have hnb170 := NB163_162.out
        have hnc170 := NB162_163.out
        have hnb171 := NB163_164.out
        have hnc171 := NB164_163.out
        have hcz172_0 : w26.cell? ⟨gb163, 0, none⟩ = some (.int .i64 a1_0) := (blk_cell BK163.out 0).trans rfl
        have hcz172_1 : w26.cell? ⟨gb163, 1, none⟩ = some (.slice A1_1 l1_1.length c1_1) := (blk_cell BK163.out 1).trans rfl
        have hcz172_2 : w26.cell? ⟨gb163, 2, none⟩ = some (.slice A1_2 l1_2.length c1_2) := (blk_cell BK163.out 2).trans rfl
        have hfz172_0 := blk_frozen BK163.out 0
        have hfz172_1 := blk_frozen BK163.out 1
        have hfz172_2 := blk_frozen BK163.out 2
        have hnb173 := NB162_164.out
        have hnc173 := NB164_162.out
        have hcz174_0 : w26.cell? ⟨gb162, 0, none⟩ = some (.int .i64 a0_0) := (blk_cell BK162.out 0).trans rfl
        have hcz174_1 : w26.cell? ⟨gb162, 1, none⟩ = some (.slice A0_1 l0_1.length c0_1) := (blk_cell BK162.out 1).trans rfl
        have hcz174_2 : w26.cell? ⟨gb162, 2, none⟩ = some (.slice A0_2 l0_2.length c0_2) := (blk_cell BK162.out 2).trans rfl
        have hfz174_0 := blk_frozen BK162.out 0
        have hfz174_1 := blk_frozen BK162.out 1
        have hfz174_2 := blk_frozen BK162.out 2
        go_wp2_with (first | ((with_reducible refine gate_callee (f := 14) rfl ?_); refine goesL_ (some 30) rfl rfl Try.func14 (by kernel_rfl) rfl #[.agg #[.int .i64 a1_0, .slice A1_1 l1_1.length c1_1, .slice A1_2 l1_2.length c1_2], .agg #[.int .i64 a0_0, .slice A0_1 l0_1.length c0_1, .slice A0_2 l0_2.length c0_2]] rfl (by (try simp only [List.map_toArray, List.map_cons, List.map_nil]); first | done | rfl | (simp only [List.length_drop, List.length_take]; rfl)) ?_; (with_reducible refine (fact_Compare.calls k a1_0 _ _ l1_1 _ _ l1_2 a0_0 _ _ l0_1 _ _ l0_2 t169 _ ?side1 ?side2 ?side3 ?side4 ?side5 ?side6 ?side7 ?side8 A27.out).mono ?_); (case side1 => repeat (first | exact (Kd.C_below HR1_1.out HB.out) | (with_reducible refine Kd.C_alloc ?_ _) | (with_reducible refine Kd.C_drewN ?_ _) | (with_reducible refine Kd.C_drew ?_))); (case side2 => exact HC1_1.out); (case side3 => repeat (first | exact (Kd.C_below HR1_2.out HB.out) | (with_reducible refine Kd.C_alloc ?_ _) | (with_reducible refine Kd.C_drewN ?_ _) | (with_reducible refine Kd.C_drew ?_))); (case side4 => exact HC1_2.out); (case side5 => repeat (first | exact (Kd.C_below HR0_1.out HB.out) | (with_reducible refine Kd.C_alloc ?_ _) | (with_reducible refine Kd.C_drewN ?_ _) | (with_reducible refine Kd.C_drew ?_))); (case side6 => exact HC0_1.out); (case side7 => repeat (first | exact (Kd.C_below HR0_2.out HB.out) | (with_reducible refine Kd.C_alloc ?_ _) | (with_reducible refine Kd.C_drewN ?_ _) | (with_reducible refine Kd.C_drew ?_))); (case side8 => exact HC0_2.out); rintro e w175 ⟨rfl, hb⟩; refine ⟨_, rfl, ?_⟩; have n0_ := Aside0.mk (blk_below (bk_ BK162.out) hb); have n1_ := Aside0.mk (blk_below (bk_ BK163.out) hb); have n2_ := Aside0.mk (blk_below (bk_ BK164.out) hb); have n3_ := Aside0.mk (below_step (bw_ HB.out) hb); clear BK162 BK163 BK164 HB; have BK162 := n0_; have BK163 := n1_; have BK164 := n2_; have HB := n3_; clear n0_ n1_ n2_ n3_; (try clear hb); (try clear hb2); (try clear hk); (try clear hi)))
        go_meet
        case rel => exact ⟨_, (false), (by first | rfl | (simp; done) | (simp [*]; done)), H', ⟨by first | omega | exact Nat.le_refl _⟩, ⟨by (with_reducible repeat (first | refine blk_drewN ?_ _ | refine blk_drew ?_ | refine blk_alloc ?_ _)); exact BK162.out⟩, ⟨by (with_reducible repeat (first | refine blk_drewN ?_ _ | refine blk_drew ?_ | refine blk_alloc ?_ _)); exact BK163.out⟩, ⟨by (with_reducible repeat (first | refine blk_drewN ?_ _ | refine blk_drew ?_ | refine blk_alloc ?_ _)); exact BK164.out⟩, ⟨by repeat (first | (with_reducible first | exact HB.out | apply below_alloc | apply pw_below_drewN | apply below_drew1 | refine below_set ?_ GE162.out | refine below_set ?_ GE163.out | refine below_set ?_ GE164.out) | exact HB.out)⟩⟩
    ·rw [if_neg c29] at H
     have c29b0 : decide (t166 ≤ 0) = false := decide_eq_false c29
     clear c29
     by_cases c176 : t166 ≥ 0
     ·rw [if_pos c176] at H
      have c176b0 : decide (0 ≤ t166) = true := decide_eq_true c176
      clear c176
      by_cases c177 : t167 ≥ 0
      ·rw [if_pos c177] at H
       have c177b0 : decide (0 ≤ t167) = true := decide_eq_true c177
       clear c177
       by_cases c178 : t168 < 0
       ·rw [if_pos c178] at H
        have c178b0 : decide (t168 < 0) = true := decide_eq_true c178
        clear c178
        have H' := Aside0.mk H
        clear H
        have hnb179 := NB163_162.out
        have hnc179 := NB162_163.out
        have hnb180 := NB163_164.out
        have hnc180 := NB164_163.out
        have hcz181_0 : w26.cell? ⟨gb163, 0, none⟩ = some (.int .i64 a1_0) := (blk_cell BK163.out 0).trans rfl
        have hcz181_1 : w26.cell? ⟨gb163, 1, none⟩ = some (.slice A1_1 l1_1.length c1_1) := (blk_cell BK163.out 1).trans rfl
        have hcz181_2 : w26.cell? ⟨gb163, 2, none⟩ = some (.slice A1_2 l1_2.length c1_2) := (blk_cell BK163.out 2).trans rfl
        have hfz181_0 := blk_frozen BK163.out 0
        have hfz181_1 := blk_frozen BK163.out 1
        have hfz181_2 := blk_frozen BK163.out 2
        have hnb182 := NB162_164.out
        have hnc182 := NB164_162.out
        have hcz183_0 : w26.cell? ⟨gb162, 0, none⟩ = some (.int .i64 a0_0) := (blk_cell BK162.out 0).trans rfl
        have hcz183_1 : w26.cell? ⟨gb162, 1, none⟩ = some (.slice A0_1 l0_1.length c0_1) := (blk_cell BK162.out 1).trans rfl
        have hcz183_2 : w26.cell? ⟨gb162, 2, none⟩ = some (.slice A0_2 l0_2.length c0_2) := (blk_cell BK162.out 2).trans rfl
        have hfz183_0 := blk_frozen BK162.out 0
        have hfz183_1 := blk_frozen BK162.out 1
        have hfz183_2 := blk_frozen BK162.out 2
        go_wp2_with (first | ((with_reducible refine gate_callee (f := 14) rfl ?_); refine goesL_ (some 30) rfl rfl Try.func14 (by kernel_rfl) rfl #[.agg #[.int .i64 a1_0, .slice A1_1 l1_1.length c1_1, .slice A1_2 l1_2.length c1_2], .agg #[.int .i64 a0_0, .slice A0_1 l0_1.length c0_1, .slice A0_2 l0_2.length c0_2]] rfl (by (try simp only [List.map_toArray, List.map_cons, List.map_nil]); first | done | rfl | (simp only [List.length_drop, List.length_take]; rfl)) ?_; (with_reducible refine (fact_Compare.calls k a1_0 _ _ l1_1 _ _ l1_2 a0_0 _ _ l0_1 _ _ l0_2 t169 _ ?side1 ?side2 ?side3 ?side4 ?side5 ?side6 ?side7 ?side8 A27.out).mono ?_); (case side1 => repeat (first | exact (Kd.C_below HR1_1.out HB.out) | (with_reducible refine Kd.C_alloc ?_ _) | (with_reducible refine Kd.C_drewN ?_ _) | (with_reducible refine Kd.C_drew ?_))); (case side2 => exact HC1_1.out); (case side3 => repeat (first | exact (Kd.C_below HR1_2.out HB.out) | (with_reducible refine Kd.C_alloc ?_ _) | (with_reducible refine Kd.C_drewN ?_ _) | (with_reducible refine Kd.C_drew ?_))); (case side4 => exact HC1_2.out); (case side5 => repeat (first | exact (Kd.C_below HR0_1.out HB.out) | (with_reducible refine Kd.C_alloc ?_ _) | (with_reducible refine Kd.C_drewN ?_ _) | (with_reducible refine Kd.C_drew ?_))); (case side6 => exact HC0_1.out); (case side7 => repeat (first | exact (Kd.C_below HR0_2.out HB.out) | (with_reducible refine Kd.C_alloc ?_ _) | (with_reducible refine Kd.C_drewN ?_ _) | (with_reducible refine Kd.C_drew ?_))); (case side8 => exact HC0_2.out); rintro e w184 ⟨rfl, hb⟩; refine ⟨_, rfl, ?_⟩; have n0_ := Aside0.mk (blk_below (bk_ BK162.out) hb); have n1_ := Aside0.mk (blk_below (bk_ BK163.out) hb); have n2_ := Aside0.mk (blk_below (bk_ BK164.out) hb); have n3_ := Aside0.mk (below_step (bw_ HB.out) hb); clear BK162 BK163 BK164 HB; have BK162 := n0_; have BK163 := n1_; have BK164 := n2_; have HB := n3_; clear n0_ n1_ n2_ n3_; (try clear hb); (try clear hb2); (try clear hk); (try clear hi)))
        go_meet
        case rel => exact ⟨_, (true), (by first | rfl | (simp; done) | (simp [*]; done)), H', ⟨by first | omega | exact Nat.le_refl _⟩, ⟨by (with_reducible repeat (first | refine blk_drewN ?_ _ | refine blk_drew ?_ | refine blk_alloc ?_ _)); exact BK162.out⟩, ⟨by (with_reducible repeat (first | refine blk_drewN ?_ _ | refine blk_drew ?_ | refine blk_alloc ?_ _)); exact BK163.out⟩, ⟨by (with_reducible repeat (first | refine blk_drewN ?_ _ | refine blk_drew ?_ | refine blk_alloc ?_ _)); exact BK164.out⟩, ⟨by repeat (first | (with_reducible first | exact HB.out | apply below_alloc | apply pw_below_drewN | apply below_drew1 | refine below_set ?_ GE162.out | refine below_set ?_ GE163.out | refine below_set ?_ GE164.out) | exact HB.out)⟩⟩
       ·rw [if_neg c178] at H
        have c178b0 : decide (t168 < 0) = false := decide_eq_false c178
        clear c178
        by_cases c185 : t166 < 0
        ·rw [if_pos c185] at H
         have c185b0 : decide (t166 < 0) = true := decide_eq_true c185
         clear c185
         by_cases c186 : t167 < 0
         ·rw [if_pos c186] at H
          have c186b0 : decide (t167 < 0) = true := decide_eq_true c186
          clear c186
          have H' := Aside0.mk H
          clear H
          have hnb187 := NB163_162.out
          have hnc187 := NB162_163.out
          have hnb188 := NB163_164.out
          have hnc188 := NB164_163.out
          have hcz189_0 : w26.cell? ⟨gb163, 0, none⟩ = some (.int .i64 a1_0) := (blk_cell BK163.out 0).trans rfl
          have hcz189_1 : w26.cell? ⟨gb163, 1, none⟩ = some (.slice A1_1 l1_1.length c1_1) := (blk_cell BK163.out 1).trans rfl
          have hcz189_2 : w26.cell? ⟨gb163, 2, none⟩ = some (.slice A1_2 l1_2.length c1_2) := (blk_cell BK163.out 2).trans rfl
          have hfz189_0 := blk_frozen BK163.out 0
          have hfz189_1 := blk_frozen BK163.out 1
          have hfz189_2 := blk_frozen BK163.out 2
          have hnb190 := NB162_164.out
          have hnc190 := NB164_162.out
          have hcz191_0 : w26.cell? ⟨gb162, 0, none⟩ = some (.int .i64 a0_0) := (blk_cell BK162.out 0).trans rfl
          have hcz191_1 : w26.cell? ⟨gb162, 1, none⟩ = some (.slice A0_1 l0_1.length c0_1) := (blk_cell BK162.out 1).trans rfl
          have hcz191_2 : w26.cell? ⟨gb162, 2, none⟩ = some (.slice A0_2 l0_2.length c0_2) := (blk_cell BK162.out 2).trans rfl
          have hfz191_0 := blk_frozen BK162.out 0
          have hfz191_1 := blk_frozen BK162.out 1
          have hfz191_2 := blk_frozen BK162.out 2
          go_wp2_with (first | ((with_reducible refine gate_callee (f := 14) rfl ?_); refine goesL_ (some 30) rfl rfl Try.func14 (by kernel_rfl) rfl #[.agg #[.int .i64 a1_0, .slice A1_1 l1_1.length c1_1, .slice A1_2 l1_2.length c1_2], .agg #[.int .i64 a0_0, .slice A0_1 l0_1.length c0_1, .slice A0_2 l0_2.length c0_2]] rfl (by (try simp only [List.map_toArray, List.map_cons, List.map_nil]); first | done | rfl | (simp only [List.length_drop, List.length_take]; rfl)) ?_; (with_reducible refine (fact_Compare.calls k a1_0 _ _ l1_1 _ _ l1_2 a0_0 _ _ l0_1 _ _ l0_2 t169 _ ?side1 ?side2 ?side3 ?side4 ?side5 ?side6 ?side7 ?side8 A27.out).mono ?_); (case side1 => repeat (first | exact (Kd.C_below HR1_1.out HB.out) | (with_reducible refine Kd.C_alloc ?_ _) | (with_reducible refine Kd.C_drewN ?_ _) | (with_reducible refine Kd.C_drew ?_))); (case side2 => exact HC1_1.out); (case side3 => repeat (first | exact (Kd.C_below HR1_2.out HB.out) | (with_reducible refine Kd.C_alloc ?_ _) | (with_reducible refine Kd.C_drewN ?_ _) | (with_reducible refine Kd.C_drew ?_))); (case side4 => exact HC1_2.out); (case side5 => repeat (first | exact (Kd.C_below HR0_1.out HB.out) | (with_reducible refine Kd.C_alloc ?_ _) | (with_reducible refine Kd.C_drewN ?_ _) | (with_reducible refine Kd.C_drew ?_))); (case side6 => exact HC0_1.out); (case side7 => repeat (first | exact (Kd.C_below HR0_2.out HB.out) | (with_reducible refine Kd.C_alloc ?_ _) | (with_reducible refine Kd.C_drewN ?_ _) | (with_reducible refine Kd.C_drew ?_))); (case side8 => exact HC0_2.out); rintro e w192 ⟨rfl, hb⟩; refine ⟨_, rfl, ?_⟩; have n0_ := Aside0.mk (blk_below (bk_ BK162.out) hb); have n1_ := Aside0.mk (blk_below (bk_ BK163.out) hb); have n2_ := Aside0.mk (blk_below (bk_ BK164.out) hb); have n3_ := Aside0.mk (below_step (bw_ HB.out) hb); clear BK162 BK163 BK164 HB; have BK162 := n0_; have BK163 := n1_; have BK164 := n2_; have HB := n3_; clear n0_ n1_ n2_ n3_; (try clear hb); (try clear hb2); (try clear hk); (try clear hi)))
          go_meet
          case rel => exact ⟨_, (decide (t168 ≥ 0)), (by first | rfl | (simp; done) | (simp [*]; done)), H', ⟨by first | omega | exact Nat.le_refl _⟩, ⟨by (with_reducible repeat (first | refine blk_drewN ?_ _ | refine blk_drew ?_ | refine blk_alloc ?_ _)); exact BK162.out⟩, ⟨by (with_reducible repeat (first | refine blk_drewN ?_ _ | refine blk_drew ?_ | refine blk_alloc ?_ _)); exact BK163.out⟩, ⟨by (with_reducible repeat (first | refine blk_drewN ?_ _ | refine blk_drew ?_ | refine blk_alloc ?_ _)); exact BK164.out⟩, ⟨by repeat (first | (with_reducible first | exact HB.out | apply below_alloc | apply pw_below_drewN | apply below_drew1 | refine below_set ?_ GE162.out | refine below_set ?_ GE163.out | refine below_set ?_ GE164.out) | exact HB.out)⟩⟩
         ·rw [if_neg c186] at H
          have c186b0 : decide (t167 < 0) = false := decide_eq_false c186
          clear c186
          have H' := Aside0.mk H
          clear H
          have hnb193 := NB163_162.out
          have hnc193 := NB162_163.out
          have hnb194 := NB163_164.out
          have hnc194 := NB164_163.out
          have hcz195_0 : w26.cell? ⟨gb163, 0, none⟩ = some (.int .i64 a1_0) := (blk_cell BK163.out 0).trans rfl
          have hcz195_1 : w26.cell? ⟨gb163, 1, none⟩ = some (.slice A1_1 l1_1.length c1_1) := (blk_cell BK163.out 1).trans rfl
          have hcz195_2 : w26.cell? ⟨gb163, 2, none⟩ = some (.slice A1_2 l1_2.length c1_2) := (blk_cell BK163.out 2).trans rfl
          have hfz195_0 := blk_frozen BK163.out 0
          have hfz195_1 := blk_frozen BK163.out 1
          have hfz195_2 := blk_frozen BK163.out 2
          have hnb196 := NB162_164.out
          have hnc196 := NB164_162.out
          have hcz197_0 : w26.cell? ⟨gb162, 0, none⟩ = some (.int .i64 a0_0) := (blk_cell BK162.out 0).trans rfl
          have hcz197_1 : w26.cell? ⟨gb162, 1, none⟩ = some (.slice A0_1 l0_1.length c0_1) := (blk_cell BK162.out 1).trans rfl
          have hcz197_2 : w26.cell? ⟨gb162, 2, none⟩ = some (.slice A0_2 l0_2.length c0_2) := (blk_cell BK162.out 2).trans rfl
          have hfz197_0 := blk_frozen BK162.out 0
          have hfz197_1 := blk_frozen BK162.out 1
          have hfz197_2 := blk_frozen BK162.out 2
          go_wp2_with (first | ((with_reducible refine gate_callee (f := 14) rfl ?_); refine goesL_ (some 30) rfl rfl Try.func14 (by kernel_rfl) rfl #[.agg #[.int .i64 a1_0, .slice A1_1 l1_1.length c1_1, .slice A1_2 l1_2.length c1_2], .agg #[.int .i64 a0_0, .slice A0_1 l0_1.length c0_1, .slice A0_2 l0_2.length c0_2]] rfl (by (try simp only [List.map_toArray, List.map_cons, List.map_nil]); first | done | rfl | (simp only [List.length_drop, List.length_take]; rfl)) ?_; (with_reducible refine (fact_Compare.calls k a1_0 _ _ l1_1 _ _ l1_2 a0_0 _ _ l0_1 _ _ l0_2 t169 _ ?side1 ?side2 ?side3 ?side4 ?side5 ?side6 ?side7 ?side8 A27.out).mono ?_); (case side1 => repeat (first | exact (Kd.C_below HR1_1.out HB.out) | (with_reducible refine Kd.C_alloc ?_ _) | (with_reducible refine Kd.C_drewN ?_ _) | (with_reducible refine Kd.C_drew ?_))); (case side2 => exact HC1_1.out); (case side3 => repeat (first | exact (Kd.C_below HR1_2.out HB.out) | (with_reducible refine Kd.C_alloc ?_ _) | (with_reducible refine Kd.C_drewN ?_ _) | (with_reducible refine Kd.C_drew ?_))); (case side4 => exact HC1_2.out); (case side5 => repeat (first | exact (Kd.C_below HR0_1.out HB.out) | (with_reducible refine Kd.C_alloc ?_ _) | (with_reducible refine Kd.C_drewN ?_ _) | (with_reducible refine Kd.C_drew ?_))); (case side6 => exact HC0_1.out); (case side7 => repeat (first | exact (Kd.C_below HR0_2.out HB.out) | (with_reducible refine Kd.C_alloc ?_ _) | (with_reducible refine Kd.C_drewN ?_ _) | (with_reducible refine Kd.C_drew ?_))); (case side8 => exact HC0_2.out); rintro e w198 ⟨rfl, hb⟩; refine ⟨_, rfl, ?_⟩; have n0_ := Aside0.mk (blk_below (bk_ BK162.out) hb); have n1_ := Aside0.mk (blk_below (bk_ BK163.out) hb); have n2_ := Aside0.mk (blk_below (bk_ BK164.out) hb); have n3_ := Aside0.mk (below_step (bw_ HB.out) hb); clear BK162 BK163 BK164 HB; have BK162 := n0_; have BK163 := n1_; have BK164 := n2_; have HB := n3_; clear n0_ n1_ n2_ n3_; (try clear hb); (try clear hb2); (try clear hk); (try clear hi)))
          go_meet
          case rel => exact ⟨_, (false), (by first | rfl | (simp; done) | (simp [*]; done)), H', ⟨by first | omega | exact Nat.le_refl _⟩, ⟨by (with_reducible repeat (first | refine blk_drewN ?_ _ | refine blk_drew ?_ | refine blk_alloc ?_ _)); exact BK162.out⟩, ⟨by (with_reducible repeat (first | refine blk_drewN ?_ _ | refine blk_drew ?_ | refine blk_alloc ?_ _)); exact BK163.out⟩, ⟨by (with_reducible repeat (first | refine blk_drewN ?_ _ | refine blk_drew ?_ | refine blk_alloc ?_ _)); exact BK164.out⟩, ⟨by repeat (first | (with_reducible first | exact HB.out | apply below_alloc | apply pw_below_drewN | apply below_drew1 | refine below_set ?_ GE162.out | refine below_set ?_ GE163.out | refine below_set ?_ GE164.out) | exact HB.out)⟩⟩
        ·rw [if_neg c185] at H
         have c185b0 : decide (t166 < 0) = false := decide_eq_false c185
         clear c185
         have H' := Aside0.mk H
         clear H
         have hnb199 := NB163_162.out
         have hnc199 := NB162_163.out
         have hnb200 := NB163_164.out
         have hnc200 := NB164_163.out
         have hcz201_0 : w26.cell? ⟨gb163, 0, none⟩ = some (.int .i64 a1_0) := (blk_cell BK163.out 0).trans rfl
         have hcz201_1 : w26.cell? ⟨gb163, 1, none⟩ = some (.slice A1_1 l1_1.length c1_1) := (blk_cell BK163.out 1).trans rfl
         have hcz201_2 : w26.cell? ⟨gb163, 2, none⟩ = some (.slice A1_2 l1_2.length c1_2) := (blk_cell BK163.out 2).trans rfl
         have hfz201_0 := blk_frozen BK163.out 0
         have hfz201_1 := blk_frozen BK163.out 1
         have hfz201_2 := blk_frozen BK163.out 2
         have hnb202 := NB162_164.out
         have hnc202 := NB164_162.out
         have hcz203_0 : w26.cell? ⟨gb162, 0, none⟩ = some (.int .i64 a0_0) := (blk_cell BK162.out 0).trans rfl
         have hcz203_1 : w26.cell? ⟨gb162, 1, none⟩ = some (.slice A0_1 l0_1.length c0_1) := (blk_cell BK162.out 1).trans rfl
         have hcz203_2 : w26.cell? ⟨gb162, 2, none⟩ = some (.slice A0_2 l0_2.length c0_2) := (blk_cell BK162.out 2).trans rfl
         have hfz203_0 := blk_frozen BK162.out 0
         have hfz203_1 := blk_frozen BK162.out 1
         have hfz203_2 := blk_frozen BK162.out 2
         go_wp2_with (first | ((with_reducible refine gate_callee (f := 14) rfl ?_); refine goesL_ (some 30) rfl rfl Try.func14 (by kernel_rfl) rfl #[.agg #[.int .i64 a1_0, .slice A1_1 l1_1.length c1_1, .slice A1_2 l1_2.length c1_2], .agg #[.int .i64 a0_0, .slice A0_1 l0_1.length c0_1, .slice A0_2 l0_2.length c0_2]] rfl (by (try simp only [List.map_toArray, List.map_cons, List.map_nil]); first | done | rfl | (simp only [List.length_drop, List.length_take]; rfl)) ?_; (with_reducible refine (fact_Compare.calls k a1_0 _ _ l1_1 _ _ l1_2 a0_0 _ _ l0_1 _ _ l0_2 t169 _ ?side1 ?side2 ?side3 ?side4 ?side5 ?side6 ?side7 ?side8 A27.out).mono ?_); (case side1 => repeat (first | exact (Kd.C_below HR1_1.out HB.out) | (with_reducible refine Kd.C_alloc ?_ _) | (with_reducible refine Kd.C_drewN ?_ _) | (with_reducible refine Kd.C_drew ?_))); (case side2 => exact HC1_1.out); (case side3 => repeat (first | exact (Kd.C_below HR1_2.out HB.out) | (with_reducible refine Kd.C_alloc ?_ _) | (with_reducible refine Kd.C_drewN ?_ _) | (with_reducible refine Kd.C_drew ?_))); (case side4 => exact HC1_2.out); (case side5 => repeat (first | exact (Kd.C_below HR0_1.out HB.out) | (with_reducible refine Kd.C_alloc ?_ _) | (with_reducible refine Kd.C_drewN ?_ _) | (with_reducible refine Kd.C_drew ?_))); (case side6 => exact HC0_1.out); (case side7 => repeat (first | exact (Kd.C_below HR0_2.out HB.out) | (with_reducible refine Kd.C_alloc ?_ _) | (with_reducible refine Kd.C_drewN ?_ _) | (with_reducible refine Kd.C_drew ?_))); (case side8 => exact HC0_2.out); rintro e w204 ⟨rfl, hb⟩; refine ⟨_, rfl, ?_⟩; have n0_ := Aside0.mk (blk_below (bk_ BK162.out) hb); have n1_ := Aside0.mk (blk_below (bk_ BK163.out) hb); have n2_ := Aside0.mk (blk_below (bk_ BK164.out) hb); have n3_ := Aside0.mk (below_step (bw_ HB.out) hb); clear BK162 BK163 BK164 HB; have BK162 := n0_; have BK163 := n1_; have BK164 := n2_; have HB := n3_; clear n0_ n1_ n2_ n3_; (try clear hb); (try clear hb2); (try clear hk); (try clear hi)))
         go_meet
         case rel => exact ⟨_, (false), (by first | rfl | (simp; done) | (simp [*]; done)), H', ⟨by first | omega | exact Nat.le_refl _⟩, ⟨by (with_reducible repeat (first | refine blk_drewN ?_ _ | refine blk_drew ?_ | refine blk_alloc ?_ _)); exact BK162.out⟩, ⟨by (with_reducible repeat (first | refine blk_drewN ?_ _ | refine blk_drew ?_ | refine blk_alloc ?_ _)); exact BK163.out⟩, ⟨by (with_reducible repeat (first | refine blk_drewN ?_ _ | refine blk_drew ?_ | refine blk_alloc ?_ _)); exact BK164.out⟩, ⟨by repeat (first | (with_reducible first | exact HB.out | apply below_alloc | apply pw_below_drewN | apply below_drew1 | refine below_set ?_ GE162.out | refine below_set ?_ GE163.out | refine below_set ?_ GE164.out) | exact HB.out)⟩⟩
      ·rw [if_neg c177] at H
       have c177b0 : decide (0 ≤ t167) = false := decide_eq_false c177
       clear c177
       by_cases c205 : t166 < 0
       ·rw [if_pos c205] at H
        have c205b0 : decide (t166 < 0) = true := decide_eq_true c205
        clear c205
        by_cases c206 : t167 < 0
        ·rw [if_pos c206] at H
         have c206b0 : decide (t167 < 0) = true := decide_eq_true c206
         clear c206
         have H' := Aside0.mk H
         clear H
         have hnb207 := NB163_162.out
         have hnc207 := NB162_163.out
         have hnb208 := NB163_164.out
         have hnc208 := NB164_163.out
         have hcz209_0 : w26.cell? ⟨gb163, 0, none⟩ = some (.int .i64 a1_0) := (blk_cell BK163.out 0).trans rfl
         have hcz209_1 : w26.cell? ⟨gb163, 1, none⟩ = some (.slice A1_1 l1_1.length c1_1) := (blk_cell BK163.out 1).trans rfl
         have hcz209_2 : w26.cell? ⟨gb163, 2, none⟩ = some (.slice A1_2 l1_2.length c1_2) := (blk_cell BK163.out 2).trans rfl
         have hfz209_0 := blk_frozen BK163.out 0
         have hfz209_1 := blk_frozen BK163.out 1
         have hfz209_2 := blk_frozen BK163.out 2
         have hnb210 := NB162_164.out
         have hnc210 := NB164_162.out
         have hcz211_0 : w26.cell? ⟨gb162, 0, none⟩ = some (.int .i64 a0_0) := (blk_cell BK162.out 0).trans rfl
         have hcz211_1 : w26.cell? ⟨gb162, 1, none⟩ = some (.slice A0_1 l0_1.length c0_1) := (blk_cell BK162.out 1).trans rfl
         have hcz211_2 : w26.cell? ⟨gb162, 2, none⟩ = some (.slice A0_2 l0_2.length c0_2) := (blk_cell BK162.out 2).trans rfl
         have hfz211_0 := blk_frozen BK162.out 0
         have hfz211_1 := blk_frozen BK162.out 1
         have hfz211_2 := blk_frozen BK162.out 2
         go_wp2_with (first | ((with_reducible refine gate_callee (f := 14) rfl ?_); refine goesL_ (some 30) rfl rfl Try.func14 (by kernel_rfl) rfl #[.agg #[.int .i64 a1_0, .slice A1_1 l1_1.length c1_1, .slice A1_2 l1_2.length c1_2], .agg #[.int .i64 a0_0, .slice A0_1 l0_1.length c0_1, .slice A0_2 l0_2.length c0_2]] rfl (by (try simp only [List.map_toArray, List.map_cons, List.map_nil]); first | done | rfl | (simp only [List.length_drop, List.length_take]; rfl)) ?_; (with_reducible refine (fact_Compare.calls k a1_0 _ _ l1_1 _ _ l1_2 a0_0 _ _ l0_1 _ _ l0_2 t169 _ ?side1 ?side2 ?side3 ?side4 ?side5 ?side6 ?side7 ?side8 A27.out).mono ?_); (case side1 => repeat (first | exact (Kd.C_below HR1_1.out HB.out) | (with_reducible refine Kd.C_alloc ?_ _) | (with_reducible refine Kd.C_drewN ?_ _) | (with_reducible refine Kd.C_drew ?_))); (case side2 => exact HC1_1.out); (case side3 => repeat (first | exact (Kd.C_below HR1_2.out HB.out) | (with_reducible refine Kd.C_alloc ?_ _) | (with_reducible refine Kd.C_drewN ?_ _) | (with_reducible refine Kd.C_drew ?_))); (case side4 => exact HC1_2.out); (case side5 => repeat (first | exact (Kd.C_below HR0_1.out HB.out) | (with_reducible refine Kd.C_alloc ?_ _) | (with_reducible refine Kd.C_drewN ?_ _) | (with_reducible refine Kd.C_drew ?_))); (case side6 => exact HC0_1.out); (case side7 => repeat (first | exact (Kd.C_below HR0_2.out HB.out) | (with_reducible refine Kd.C_alloc ?_ _) | (with_reducible refine Kd.C_drewN ?_ _) | (with_reducible refine Kd.C_drew ?_))); (case side8 => exact HC0_2.out); rintro e w212 ⟨rfl, hb⟩; refine ⟨_, rfl, ?_⟩; have n0_ := Aside0.mk (blk_below (bk_ BK162.out) hb); have n1_ := Aside0.mk (blk_below (bk_ BK163.out) hb); have n2_ := Aside0.mk (blk_below (bk_ BK164.out) hb); have n3_ := Aside0.mk (below_step (bw_ HB.out) hb); clear BK162 BK163 BK164 HB; have BK162 := n0_; have BK163 := n1_; have BK164 := n2_; have HB := n3_; clear n0_ n1_ n2_ n3_; (try clear hb); (try clear hb2); (try clear hk); (try clear hi)))
         go_meet
         case rel => exact ⟨_, (decide (t168 ≥ 0)), (by first | rfl | (simp; done) | (simp [*]; done)), H', ⟨by first | omega | exact Nat.le_refl _⟩, ⟨by (with_reducible repeat (first | refine blk_drewN ?_ _ | refine blk_drew ?_ | refine blk_alloc ?_ _)); exact BK162.out⟩, ⟨by (with_reducible repeat (first | refine blk_drewN ?_ _ | refine blk_drew ?_ | refine blk_alloc ?_ _)); exact BK163.out⟩, ⟨by (with_reducible repeat (first | refine blk_drewN ?_ _ | refine blk_drew ?_ | refine blk_alloc ?_ _)); exact BK164.out⟩, ⟨by repeat (first | (with_reducible first | exact HB.out | apply below_alloc | apply pw_below_drewN | apply below_drew1 | refine below_set ?_ GE162.out | refine below_set ?_ GE163.out | refine below_set ?_ GE164.out) | exact HB.out)⟩⟩
        ·rw [if_neg c206] at H
         have c206b0 : decide (t167 < 0) = false := decide_eq_false c206
         clear c206
         have H' := Aside0.mk H
         clear H
         have hnb213 := NB163_162.out
         have hnc213 := NB162_163.out
         have hnb214 := NB163_164.out
         have hnc214 := NB164_163.out
         have hcz215_0 : w26.cell? ⟨gb163, 0, none⟩ = some (.int .i64 a1_0) := (blk_cell BK163.out 0).trans rfl
         have hcz215_1 : w26.cell? ⟨gb163, 1, none⟩ = some (.slice A1_1 l1_1.length c1_1) := (blk_cell BK163.out 1).trans rfl
         have hcz215_2 : w26.cell? ⟨gb163, 2, none⟩ = some (.slice A1_2 l1_2.length c1_2) := (blk_cell BK163.out 2).trans rfl
         have hfz215_0 := blk_frozen BK163.out 0
         have hfz215_1 := blk_frozen BK163.out 1
         have hfz215_2 := blk_frozen BK163.out 2
         have hnb216 := NB162_164.out
         have hnc216 := NB164_162.out
         have hcz217_0 : w26.cell? ⟨gb162, 0, none⟩ = some (.int .i64 a0_0) := (blk_cell BK162.out 0).trans rfl
         have hcz217_1 : w26.cell? ⟨gb162, 1, none⟩ = some (.slice A0_1 l0_1.length c0_1) := (blk_cell BK162.out 1).trans rfl
         have hcz217_2 : w26.cell? ⟨gb162, 2, none⟩ = some (.slice A0_2 l0_2.length c0_2) := (blk_cell BK162.out 2).trans rfl
         have hfz217_0 := blk_frozen BK162.out 0
         have hfz217_1 := blk_frozen BK162.out 1
         have hfz217_2 := blk_frozen BK162.out 2
         go_wp2_with (first | ((with_reducible refine gate_callee (f := 14) rfl ?_); refine goesL_ (some 30) rfl rfl Try.func14 (by kernel_rfl) rfl #[.agg #[.int .i64 a1_0, .slice A1_1 l1_1.length c1_1, .slice A1_2 l1_2.length c1_2], .agg #[.int .i64 a0_0, .slice A0_1 l0_1.length c0_1, .slice A0_2 l0_2.length c0_2]] rfl (by (try simp only [List.map_toArray, List.map_cons, List.map_nil]); first | done | rfl | (simp only [List.length_drop, List.length_take]; rfl)) ?_; (with_reducible refine (fact_Compare.calls k a1_0 _ _ l1_1 _ _ l1_2 a0_0 _ _ l0_1 _ _ l0_2 t169 _ ?side1 ?side2 ?side3 ?side4 ?side5 ?side6 ?side7 ?side8 A27.out).mono ?_); (case side1 => repeat (first | exact (Kd.C_below HR1_1.out HB.out) | (with_reducible refine Kd.C_alloc ?_ _) | (with_reducible refine Kd.C_drewN ?_ _) | (with_reducible refine Kd.C_drew ?_))); (case side2 => exact HC1_1.out); (case side3 => repeat (first | exact (Kd.C_below HR1_2.out HB.out) | (with_reducible refine Kd.C_alloc ?_ _) | (with_reducible refine Kd.C_drewN ?_ _) | (with_reducible refine Kd.C_drew ?_))); (case side4 => exact HC1_2.out); (case side5 => repeat (first | exact (Kd.C_below HR0_1.out HB.out) | (with_reducible refine Kd.C_alloc ?_ _) | (with_reducible refine Kd.C_drewN ?_ _) | (with_reducible refine Kd.C_drew ?_))); (case side6 => exact HC0_1.out); (case side7 => repeat (first | exact (Kd.C_below HR0_2.out HB.out) | (with_reducible refine Kd.C_alloc ?_ _) | (with_reducible refine Kd.C_drewN ?_ _) | (with_reducible refine Kd.C_drew ?_))); (case side8 => exact HC0_2.out); rintro e w218 ⟨rfl, hb⟩; refine ⟨_, rfl, ?_⟩; have n0_ := Aside0.mk (blk_below (bk_ BK162.out) hb); have n1_ := Aside0.mk (blk_below (bk_ BK163.out) hb); have n2_ := Aside0.mk (blk_below (bk_ BK164.out) hb); have n3_ := Aside0.mk (below_step (bw_ HB.out) hb); clear BK162 BK163 BK164 HB; have BK162 := n0_; have BK163 := n1_; have BK164 := n2_; have HB := n3_; clear n0_ n1_ n2_ n3_; (try clear hb); (try clear hb2); (try clear hk); (try clear hi)))
         go_meet
         case rel => exact ⟨_, (false), (by first | rfl | (simp; done) | (simp [*]; done)), H', ⟨by first | omega | exact Nat.le_refl _⟩, ⟨by (with_reducible repeat (first | refine blk_drewN ?_ _ | refine blk_drew ?_ | refine blk_alloc ?_ _)); exact BK162.out⟩, ⟨by (with_reducible repeat (first | refine blk_drewN ?_ _ | refine blk_drew ?_ | refine blk_alloc ?_ _)); exact BK163.out⟩, ⟨by (with_reducible repeat (first | refine blk_drewN ?_ _ | refine blk_drew ?_ | refine blk_alloc ?_ _)); exact BK164.out⟩, ⟨by repeat (first | (with_reducible first | exact HB.out | apply below_alloc | apply pw_below_drewN | apply below_drew1 | refine below_set ?_ GE162.out | refine below_set ?_ GE163.out | refine below_set ?_ GE164.out) | exact HB.out)⟩⟩
       ·rw [if_neg c205] at H
        have c205b0 : decide (t166 < 0) = false := decide_eq_false c205
        clear c205
        have H' := Aside0.mk H
        clear H
        have hnb219 := NB163_162.out
        have hnc219 := NB162_163.out
        have hnb220 := NB163_164.out
        have hnc220 := NB164_163.out
        have hcz221_0 : w26.cell? ⟨gb163, 0, none⟩ = some (.int .i64 a1_0) := (blk_cell BK163.out 0).trans rfl
        have hcz221_1 : w26.cell? ⟨gb163, 1, none⟩ = some (.slice A1_1 l1_1.length c1_1) := (blk_cell BK163.out 1).trans rfl
        have hcz221_2 : w26.cell? ⟨gb163, 2, none⟩ = some (.slice A1_2 l1_2.length c1_2) := (blk_cell BK163.out 2).trans rfl
        have hfz221_0 := blk_frozen BK163.out 0
        have hfz221_1 := blk_frozen BK163.out 1
        have hfz221_2 := blk_frozen BK163.out 2
        have hnb222 := NB162_164.out
        have hnc222 := NB164_162.out
        have hcz223_0 : w26.cell? ⟨gb162, 0, none⟩ = some (.int .i64 a0_0) := (blk_cell BK162.out 0).trans rfl
        have hcz223_1 : w26.cell? ⟨gb162, 1, none⟩ = some (.slice A0_1 l0_1.length c0_1) := (blk_cell BK162.out 1).trans rfl
        have hcz223_2 : w26.cell? ⟨gb162, 2, none⟩ = some (.slice A0_2 l0_2.length c0_2) := (blk_cell BK162.out 2).trans rfl
        have hfz223_0 := blk_frozen BK162.out 0
        have hfz223_1 := blk_frozen BK162.out 1
        have hfz223_2 := blk_frozen BK162.out 2
        go_wp2_with (first | ((with_reducible refine gate_callee (f := 14) rfl ?_); refine goesL_ (some 30) rfl rfl Try.func14 (by kernel_rfl) rfl #[.agg #[.int .i64 a1_0, .slice A1_1 l1_1.length c1_1, .slice A1_2 l1_2.length c1_2], .agg #[.int .i64 a0_0, .slice A0_1 l0_1.length c0_1, .slice A0_2 l0_2.length c0_2]] rfl (by (try simp only [List.map_toArray, List.map_cons, List.map_nil]); first | done | rfl | (simp only [List.length_drop, List.length_take]; rfl)) ?_; (with_reducible refine (fact_Compare.calls k a1_0 _ _ l1_1 _ _ l1_2 a0_0 _ _ l0_1 _ _ l0_2 t169 _ ?side1 ?side2 ?side3 ?side4 ?side5 ?side6 ?side7 ?side8 A27.out).mono ?_); (case side1 => repeat (first | exact (Kd.C_below HR1_1.out HB.out) | (with_reducible refine Kd.C_alloc ?_ _) | (with_reducible refine Kd.C_drewN ?_ _) | (with_reducible refine Kd.C_drew ?_))); (case side2 => exact HC1_1.out); (case side3 => repeat (first | exact (Kd.C_below HR1_2.out HB.out) | (with_reducible refine Kd.C_alloc ?_ _) | (with_reducible refine Kd.C_drewN ?_ _) | (with_reducible refine Kd.C_drew ?_))); (case side4 => exact HC1_2.out); (case side5 => repeat (first | exact (Kd.C_below HR0_1.out HB.out) | (with_reducible refine Kd.C_alloc ?_ _) | (with_reducible refine Kd.C_drewN ?_ _) | (with_reducible refine Kd.C_drew ?_))); (case side6 => exact HC0_1.out); (case side7 => repeat (first | exact (Kd.C_below HR0_2.out HB.out) | (with_reducible refine Kd.C_alloc ?_ _) | (with_reducible refine Kd.C_drewN ?_ _) | (with_reducible refine Kd.C_drew ?_))); (case side8 => exact HC0_2.out); rintro e w224 ⟨rfl, hb⟩; refine ⟨_, rfl, ?_⟩; have n0_ := Aside0.mk (blk_below (bk_ BK162.out) hb); have n1_ := Aside0.mk (blk_below (bk_ BK163.out) hb); have n2_ := Aside0.mk (blk_below (bk_ BK164.out) hb); have n3_ := Aside0.mk (below_step (bw_ HB.out) hb); clear BK162 BK163 BK164 HB; have BK162 := n0_; have BK163 := n1_; have BK164 := n2_; have HB := n3_; clear n0_ n1_ n2_ n3_; (try clear hb); (try clear hb2); (try clear hk); (try clear hi)))
        go_meet
        case rel => exact ⟨_, (false), (by first | rfl | (simp; done) | (simp [*]; done)), H', ⟨by first | omega | exact Nat.le_refl _⟩, ⟨by (with_reducible repeat (first | refine blk_drewN ?_ _ | refine blk_drew ?_ | refine blk_alloc ?_ _)); exact BK162.out⟩, ⟨by (with_reducible repeat (first | refine blk_drewN ?_ _ | refine blk_drew ?_ | refine blk_alloc ?_ _)); exact BK163.out⟩, ⟨by (with_reducible repeat (first | refine blk_drewN ?_ _ | refine blk_drew ?_ | refine blk_alloc ?_ _)); exact BK164.out⟩, ⟨by repeat (first | (with_reducible first | exact HB.out | apply below_alloc | apply pw_below_drewN | apply below_drew1 | refine below_set ?_ GE162.out | refine below_set ?_ GE163.out | refine below_set ?_ GE164.out) | exact HB.out)⟩⟩
     ·rw [if_neg c176] at H
      have c176b0 : decide (0 ≤ t166) = false := decide_eq_false c176
      clear c176
      by_cases c225 : t166 < 0
      ·rw [if_pos c225] at H
       have c225b0 : decide (t166 < 0) = true := decide_eq_true c225
       clear c225
       by_cases c226 : t167 < 0
       ·rw [if_pos c226] at H
        have c226b0 : decide (t167 < 0) = true := decide_eq_true c226
        clear c226
        have H' := Aside0.mk H
        clear H
        have hnb227 := NB163_162.out
        have hnc227 := NB162_163.out
        have hnb228 := NB163_164.out
        have hnc228 := NB164_163.out
        have hcz229_0 : w26.cell? ⟨gb163, 0, none⟩ = some (.int .i64 a1_0) := (blk_cell BK163.out 0).trans rfl
        have hcz229_1 : w26.cell? ⟨gb163, 1, none⟩ = some (.slice A1_1 l1_1.length c1_1) := (blk_cell BK163.out 1).trans rfl
        have hcz229_2 : w26.cell? ⟨gb163, 2, none⟩ = some (.slice A1_2 l1_2.length c1_2) := (blk_cell BK163.out 2).trans rfl
        have hfz229_0 := blk_frozen BK163.out 0
        have hfz229_1 := blk_frozen BK163.out 1
        have hfz229_2 := blk_frozen BK163.out 2
        have hnb230 := NB162_164.out
        have hnc230 := NB164_162.out
        have hcz231_0 : w26.cell? ⟨gb162, 0, none⟩ = some (.int .i64 a0_0) := (blk_cell BK162.out 0).trans rfl
        have hcz231_1 : w26.cell? ⟨gb162, 1, none⟩ = some (.slice A0_1 l0_1.length c0_1) := (blk_cell BK162.out 1).trans rfl
        have hcz231_2 : w26.cell? ⟨gb162, 2, none⟩ = some (.slice A0_2 l0_2.length c0_2) := (blk_cell BK162.out 2).trans rfl
        have hfz231_0 := blk_frozen BK162.out 0
        have hfz231_1 := blk_frozen BK162.out 1
        have hfz231_2 := blk_frozen BK162.out 2
        go_wp2_with (first | ((with_reducible refine gate_callee (f := 14) rfl ?_); refine goesL_ (some 30) rfl rfl Try.func14 (by kernel_rfl) rfl #[.agg #[.int .i64 a1_0, .slice A1_1 l1_1.length c1_1, .slice A1_2 l1_2.length c1_2], .agg #[.int .i64 a0_0, .slice A0_1 l0_1.length c0_1, .slice A0_2 l0_2.length c0_2]] rfl (by (try simp only [List.map_toArray, List.map_cons, List.map_nil]); first | done | rfl | (simp only [List.length_drop, List.length_take]; rfl)) ?_; (with_reducible refine (fact_Compare.calls k a1_0 _ _ l1_1 _ _ l1_2 a0_0 _ _ l0_1 _ _ l0_2 t169 _ ?side1 ?side2 ?side3 ?side4 ?side5 ?side6 ?side7 ?side8 A27.out).mono ?_); (case side1 => repeat (first | exact (Kd.C_below HR1_1.out HB.out) | (with_reducible refine Kd.C_alloc ?_ _) | (with_reducible refine Kd.C_drewN ?_ _) | (with_reducible refine Kd.C_drew ?_))); (case side2 => exact HC1_1.out); (case side3 => repeat (first | exact (Kd.C_below HR1_2.out HB.out) | (with_reducible refine Kd.C_alloc ?_ _) | (with_reducible refine Kd.C_drewN ?_ _) | (with_reducible refine Kd.C_drew ?_))); (case side4 => exact HC1_2.out); (case side5 => repeat (first | exact (Kd.C_below HR0_1.out HB.out) | (with_reducible refine Kd.C_alloc ?_ _) | (with_reducible refine Kd.C_drewN ?_ _) | (with_reducible refine Kd.C_drew ?_))); (case side6 => exact HC0_1.out); (case side7 => repeat (first | exact (Kd.C_below HR0_2.out HB.out) | (with_reducible refine Kd.C_alloc ?_ _) | (with_reducible refine Kd.C_drewN ?_ _) | (with_reducible refine Kd.C_drew ?_))); (case side8 => exact HC0_2.out); rintro e w232 ⟨rfl, hb⟩; refine ⟨_, rfl, ?_⟩; have n0_ := Aside0.mk (blk_below (bk_ BK162.out) hb); have n1_ := Aside0.mk (blk_below (bk_ BK163.out) hb); have n2_ := Aside0.mk (blk_below (bk_ BK164.out) hb); have n3_ := Aside0.mk (below_step (bw_ HB.out) hb); clear BK162 BK163 BK164 HB; have BK162 := n0_; have BK163 := n1_; have BK164 := n2_; have HB := n3_; clear n0_ n1_ n2_ n3_; (try clear hb); (try clear hb2); (try clear hk); (try clear hi)))
        go_meet
        case rel => exact ⟨_, (decide (t168 ≥ 0)), (by first | rfl | (simp; done) | (simp [*]; done)), H', ⟨by first | omega | exact Nat.le_refl _⟩, ⟨by (with_reducible repeat (first | refine blk_drewN ?_ _ | refine blk_drew ?_ | refine blk_alloc ?_ _)); exact BK162.out⟩, ⟨by (with_reducible repeat (first | refine blk_drewN ?_ _ | refine blk_drew ?_ | refine blk_alloc ?_ _)); exact BK163.out⟩, ⟨by (with_reducible repeat (first | refine blk_drewN ?_ _ | refine blk_drew ?_ | refine blk_alloc ?_ _)); exact BK164.out⟩, ⟨by repeat (first | (with_reducible first | exact HB.out | apply below_alloc | apply pw_below_drewN | apply below_drew1 | refine below_set ?_ GE162.out | refine below_set ?_ GE163.out | refine below_set ?_ GE164.out) | exact HB.out)⟩⟩
       ·rw [if_neg c226] at H
        have c226b0 : decide (t167 < 0) = false := decide_eq_false c226
        clear c226
        have H' := Aside0.mk H
        clear H
        have hnb233 := NB163_162.out
        have hnc233 := NB162_163.out
        have hnb234 := NB163_164.out
        have hnc234 := NB164_163.out
        have hcz235_0 : w26.cell? ⟨gb163, 0, none⟩ = some (.int .i64 a1_0) := (blk_cell BK163.out 0).trans rfl
        have hcz235_1 : w26.cell? ⟨gb163, 1, none⟩ = some (.slice A1_1 l1_1.length c1_1) := (blk_cell BK163.out 1).trans rfl
        have hcz235_2 : w26.cell? ⟨gb163, 2, none⟩ = some (.slice A1_2 l1_2.length c1_2) := (blk_cell BK163.out 2).trans rfl
        have hfz235_0 := blk_frozen BK163.out 0
        have hfz235_1 := blk_frozen BK163.out 1
        have hfz235_2 := blk_frozen BK163.out 2
        have hnb236 := NB162_164.out
        have hnc236 := NB164_162.out
        have hcz237_0 : w26.cell? ⟨gb162, 0, none⟩ = some (.int .i64 a0_0) := (blk_cell BK162.out 0).trans rfl
        have hcz237_1 : w26.cell? ⟨gb162, 1, none⟩ = some (.slice A0_1 l0_1.length c0_1) := (blk_cell BK162.out 1).trans rfl
        have hcz237_2 : w26.cell? ⟨gb162, 2, none⟩ = some (.slice A0_2 l0_2.length c0_2) := (blk_cell BK162.out 2).trans rfl
        have hfz237_0 := blk_frozen BK162.out 0
        have hfz237_1 := blk_frozen BK162.out 1
        have hfz237_2 := blk_frozen BK162.out 2
        go_wp2_with (first | ((with_reducible refine gate_callee (f := 14) rfl ?_); refine goesL_ (some 30) rfl rfl Try.func14 (by kernel_rfl) rfl #[.agg #[.int .i64 a1_0, .slice A1_1 l1_1.length c1_1, .slice A1_2 l1_2.length c1_2], .agg #[.int .i64 a0_0, .slice A0_1 l0_1.length c0_1, .slice A0_2 l0_2.length c0_2]] rfl (by (try simp only [List.map_toArray, List.map_cons, List.map_nil]); first | done | rfl | (simp only [List.length_drop, List.length_take]; rfl)) ?_; (with_reducible refine (fact_Compare.calls k a1_0 _ _ l1_1 _ _ l1_2 a0_0 _ _ l0_1 _ _ l0_2 t169 _ ?side1 ?side2 ?side3 ?side4 ?side5 ?side6 ?side7 ?side8 A27.out).mono ?_); (case side1 => repeat (first | exact (Kd.C_below HR1_1.out HB.out) | (with_reducible refine Kd.C_alloc ?_ _) | (with_reducible refine Kd.C_drewN ?_ _) | (with_reducible refine Kd.C_drew ?_))); (case side2 => exact HC1_1.out); (case side3 => repeat (first | exact (Kd.C_below HR1_2.out HB.out) | (with_reducible refine Kd.C_alloc ?_ _) | (with_reducible refine Kd.C_drewN ?_ _) | (with_reducible refine Kd.C_drew ?_))); (case side4 => exact HC1_2.out); (case side5 => repeat (first | exact (Kd.C_below HR0_1.out HB.out) | (with_reducible refine Kd.C_alloc ?_ _) | (with_reducible refine Kd.C_drewN ?_ _) | (with_reducible refine Kd.C_drew ?_))); (case side6 => exact HC0_1.out); (case side7 => repeat (first | exact (Kd.C_below HR0_2.out HB.out) | (with_reducible refine Kd.C_alloc ?_ _) | (with_reducible refine Kd.C_drewN ?_ _) | (with_reducible refine Kd.C_drew ?_))); (case side8 => exact HC0_2.out); rintro e w238 ⟨rfl, hb⟩; refine ⟨_, rfl, ?_⟩; have n0_ := Aside0.mk (blk_below (bk_ BK162.out) hb); have n1_ := Aside0.mk (blk_below (bk_ BK163.out) hb); have n2_ := Aside0.mk (blk_below (bk_ BK164.out) hb); have n3_ := Aside0.mk (below_step (bw_ HB.out) hb); clear BK162 BK163 BK164 HB; have BK162 := n0_; have BK163 := n1_; have BK164 := n2_; have HB := n3_; clear n0_ n1_ n2_ n3_; (try clear hb); (try clear hb2); (try clear hk); (try clear hi)))
        go_meet
        case rel => exact ⟨_, (false), (by first | rfl | (simp; done) | (simp [*]; done)), H', ⟨by first | omega | exact Nat.le_refl _⟩, ⟨by (with_reducible repeat (first | refine blk_drewN ?_ _ | refine blk_drew ?_ | refine blk_alloc ?_ _)); exact BK162.out⟩, ⟨by (with_reducible repeat (first | refine blk_drewN ?_ _ | refine blk_drew ?_ | refine blk_alloc ?_ _)); exact BK163.out⟩, ⟨by (with_reducible repeat (first | refine blk_drewN ?_ _ | refine blk_drew ?_ | refine blk_alloc ?_ _)); exact BK164.out⟩, ⟨by repeat (first | (with_reducible first | exact HB.out | apply below_alloc | apply pw_below_drewN | apply below_drew1 | refine below_set ?_ GE162.out | refine below_set ?_ GE163.out | refine below_set ?_ GE164.out) | exact HB.out)⟩⟩
      ·rw [if_neg c225] at H
       have c225b0 : decide (t166 < 0) = false := decide_eq_false c225
       clear c225
       have H' := Aside0.mk H
       clear H
       have hnb239 := NB163_162.out
       have hnc239 := NB162_163.out
       have hnb240 := NB163_164.out
       have hnc240 := NB164_163.out
       have hcz241_0 : w26.cell? ⟨gb163, 0, none⟩ = some (.int .i64 a1_0) := (blk_cell BK163.out 0).trans rfl
       have hcz241_1 : w26.cell? ⟨gb163, 1, none⟩ = some (.slice A1_1 l1_1.length c1_1) := (blk_cell BK163.out 1).trans rfl
       have hcz241_2 : w26.cell? ⟨gb163, 2, none⟩ = some (.slice A1_2 l1_2.length c1_2) := (blk_cell BK163.out 2).trans rfl
       have hfz241_0 := blk_frozen BK163.out 0
       have hfz241_1 := blk_frozen BK163.out 1
       have hfz241_2 := blk_frozen BK163.out 2
       have hnb242 := NB162_164.out
       have hnc242 := NB164_162.out
       have hcz243_0 : w26.cell? ⟨gb162, 0, none⟩ = some (.int .i64 a0_0) := (blk_cell BK162.out 0).trans rfl
       have hcz243_1 : w26.cell? ⟨gb162, 1, none⟩ = some (.slice A0_1 l0_1.length c0_1) := (blk_cell BK162.out 1).trans rfl
       have hcz243_2 : w26.cell? ⟨gb162, 2, none⟩ = some (.slice A0_2 l0_2.length c0_2) := (blk_cell BK162.out 2).trans rfl
       have hfz243_0 := blk_frozen BK162.out 0
       have hfz243_1 := blk_frozen BK162.out 1
       have hfz243_2 := blk_frozen BK162.out 2
       go_wp2_with (first | ((with_reducible refine gate_callee (f := 14) rfl ?_); refine goesL_ (some 30) rfl rfl Try.func14 (by kernel_rfl) rfl #[.agg #[.int .i64 a1_0, .slice A1_1 l1_1.length c1_1, .slice A1_2 l1_2.length c1_2], .agg #[.int .i64 a0_0, .slice A0_1 l0_1.length c0_1, .slice A0_2 l0_2.length c0_2]] rfl (by (try simp only [List.map_toArray, List.map_cons, List.map_nil]); first | done | rfl | (simp only [List.length_drop, List.length_take]; rfl)) ?_; (with_reducible refine (fact_Compare.calls k a1_0 _ _ l1_1 _ _ l1_2 a0_0 _ _ l0_1 _ _ l0_2 t169 _ ?side1 ?side2 ?side3 ?side4 ?side5 ?side6 ?side7 ?side8 A27.out).mono ?_); (case side1 => repeat (first | exact (Kd.C_below HR1_1.out HB.out) | (with_reducible refine Kd.C_alloc ?_ _) | (with_reducible refine Kd.C_drewN ?_ _) | (with_reducible refine Kd.C_drew ?_))); (case side2 => exact HC1_1.out); (case side3 => repeat (first | exact (Kd.C_below HR1_2.out HB.out) | (with_reducible refine Kd.C_alloc ?_ _) | (with_reducible refine Kd.C_drewN ?_ _) | (with_reducible refine Kd.C_drew ?_))); (case side4 => exact HC1_2.out); (case side5 => repeat (first | exact (Kd.C_below HR0_1.out HB.out) | (with_reducible refine Kd.C_alloc ?_ _) | (with_reducible refine Kd.C_drewN ?_ _) | (with_reducible refine Kd.C_drew ?_))); (case side6 => exact HC0_1.out); (case side7 => repeat (first | exact (Kd.C_below HR0_2.out HB.out) | (with_reducible refine Kd.C_alloc ?_ _) | (with_reducible refine Kd.C_drewN ?_ _) | (with_reducible refine Kd.C_drew ?_))); (case side8 => exact HC0_2.out); rintro e w244 ⟨rfl, hb⟩; refine ⟨_, rfl, ?_⟩; have n0_ := Aside0.mk (blk_below (bk_ BK162.out) hb); have n1_ := Aside0.mk (blk_below (bk_ BK163.out) hb); have n2_ := Aside0.mk (blk_below (bk_ BK164.out) hb); have n3_ := Aside0.mk (below_step (bw_ HB.out) hb); clear BK162 BK163 BK164 HB; have BK162 := n0_; have BK163 := n1_; have BK164 := n2_; have HB := n3_; clear n0_ n1_ n2_ n3_; (try clear hb); (try clear hb2); (try clear hk); (try clear hi)))
       go_meet
       case rel => exact ⟨_, (false), (by first | rfl | (simp; done) | (simp [*]; done)), H', ⟨by first | omega | exact Nat.le_refl _⟩, ⟨by (with_reducible repeat (first | refine blk_drewN ?_ _ | refine blk_drew ?_ | refine blk_alloc ?_ _)); exact BK162.out⟩, ⟨by (with_reducible repeat (first | refine blk_drewN ?_ _ | refine blk_drew ?_ | refine blk_alloc ?_ _)); exact BK163.out⟩, ⟨by (with_reducible repeat (first | refine blk_drewN ?_ _ | refine blk_drew ?_ | refine blk_alloc ?_ _)); exact BK164.out⟩, ⟨by repeat (first | (with_reducible first | exact HB.out | apply below_alloc | apply pw_below_drewN | apply below_drew1 | refine below_set ?_ GE162.out | refine below_set ?_ GE163.out | refine below_set ?_ GE164.out) | exact HB.out)⟩⟩
   ·rw [if_neg c28] at H
    have c28b0 : (t166 == (wrap64 (-t169))) = false := beq_eq_false_iff_ne.mpr c28
    have c28b1 : (t166 != (wrap64 (-t169))) = true := bne_iff_ne.mpr c28
    (first | rw [c28b0] | (simp only [i64_w, i32_w]; rw [c28b0]) | skip)
    have H' := Aside0.mk H
    clear H
    have hnb245 := NB163_162.out
    have hnc245 := NB162_163.out
    have hnb246 := NB163_164.out
    have hnc246 := NB164_163.out
    have hcz247_0 : w26.cell? ⟨gb163, 0, none⟩ = some (.int .i64 a1_0) := (blk_cell BK163.out 0).trans rfl
    have hcz247_1 : w26.cell? ⟨gb163, 1, none⟩ = some (.slice A1_1 l1_1.length c1_1) := (blk_cell BK163.out 1).trans rfl
    have hcz247_2 : w26.cell? ⟨gb163, 2, none⟩ = some (.slice A1_2 l1_2.length c1_2) := (blk_cell BK163.out 2).trans rfl
    have hfz247_0 := blk_frozen BK163.out 0
    have hfz247_1 := blk_frozen BK163.out 1
    have hfz247_2 := blk_frozen BK163.out 2
    have hnb248 := NB162_164.out
    have hnc248 := NB164_162.out
    have hcz249_0 : w26.cell? ⟨gb162, 0, none⟩ = some (.int .i64 a0_0) := (blk_cell BK162.out 0).trans rfl
    have hcz249_1 : w26.cell? ⟨gb162, 1, none⟩ = some (.slice A0_1 l0_1.length c0_1) := (blk_cell BK162.out 1).trans rfl
    have hcz249_2 : w26.cell? ⟨gb162, 2, none⟩ = some (.slice A0_2 l0_2.length c0_2) := (blk_cell BK162.out 2).trans rfl
    have hfz249_0 := blk_frozen BK162.out 0
    have hfz249_1 := blk_frozen BK162.out 1
    have hfz249_2 := blk_frozen BK162.out 2
    go_wp2_with (first | ((with_reducible refine gate_callee (f := 14) rfl ?_); refine goesL_ (some 30) rfl rfl Try.func14 (by kernel_rfl) rfl #[.agg #[.int .i64 a1_0, .slice A1_1 l1_1.length c1_1, .slice A1_2 l1_2.length c1_2], .agg #[.int .i64 a0_0, .slice A0_1 l0_1.length c0_1, .slice A0_2 l0_2.length c0_2]] rfl (by (try simp only [List.map_toArray, List.map_cons, List.map_nil]); first | done | rfl | (simp only [List.length_drop, List.length_take]; rfl)) ?_; (with_reducible refine (fact_Compare.calls k a1_0 _ _ l1_1 _ _ l1_2 a0_0 _ _ l0_1 _ _ l0_2 t169 _ ?side1 ?side2 ?side3 ?side4 ?side5 ?side6 ?side7 ?side8 A27.out).mono ?_); (case side1 => repeat (first | exact (Kd.C_below HR1_1.out HB.out) | (with_reducible refine Kd.C_alloc ?_ _) | (with_reducible refine Kd.C_drewN ?_ _) | (with_reducible refine Kd.C_drew ?_))); (case side2 => exact HC1_1.out); (case side3 => repeat (first | exact (Kd.C_below HR1_2.out HB.out) | (with_reducible refine Kd.C_alloc ?_ _) | (with_reducible refine Kd.C_drewN ?_ _) | (with_reducible refine Kd.C_drew ?_))); (case side4 => exact HC1_2.out); (case side5 => repeat (first | exact (Kd.C_below HR0_1.out HB.out) | (with_reducible refine Kd.C_alloc ?_ _) | (with_reducible refine Kd.C_drewN ?_ _) | (with_reducible refine Kd.C_drew ?_))); (case side6 => exact HC0_1.out); (case side7 => repeat (first | exact (Kd.C_below HR0_2.out HB.out) | (with_reducible refine Kd.C_alloc ?_ _) | (with_reducible refine Kd.C_drewN ?_ _) | (with_reducible refine Kd.C_drew ?_))); (case side8 => exact HC0_2.out); rintro e w250 ⟨rfl, hb⟩; refine ⟨_, rfl, ?_⟩; have n0_ := Aside0.mk (blk_below (bk_ BK162.out) hb); have n1_ := Aside0.mk (blk_below (bk_ BK163.out) hb); have n2_ := Aside0.mk (blk_below (bk_ BK164.out) hb); have n3_ := Aside0.mk (below_step (bw_ HB.out) hb); clear BK162 BK163 BK164 HB; have BK162 := n0_; have BK163 := n1_; have BK164 := n2_; have HB := n3_; clear n0_ n1_ n2_ n3_; (try clear hb); (try clear hb2); (try clear hk); (try clear hi)))
    go_meet
    case rel => exact ⟨_, (true), (by first | rfl | (simp; done) | (simp [*]; done)), H', ⟨by first | omega | exact Nat.le_refl _⟩, ⟨by (with_reducible repeat (first | refine blk_drewN ?_ _ | refine blk_drew ?_ | refine blk_alloc ?_ _)); exact BK162.out⟩, ⟨by (with_reducible repeat (first | refine blk_drewN ?_ _ | refine blk_drew ?_ | refine blk_alloc ?_ _)); exact BK163.out⟩, ⟨by (with_reducible repeat (first | refine blk_drewN ?_ _ | refine blk_drew ?_ | refine blk_alloc ?_ _)); exact BK164.out⟩, ⟨by repeat (first | (with_reducible first | exact HB.out | apply below_alloc | apply pw_below_drewN | apply below_drew1 | refine below_set ?_ GE162.out | refine below_set ?_ GE163.out | refine below_set ?_ GE164.out) | exact HB.out)⟩⟩
  case rest =>
   clear HC10
   try clear c1
   try clear c2
   try clear p2
   try clear p6
   try clear c10
   try clear c11
   try clear c12
   try clear c13
   try clear c14
   try clear c15
   try clear c16
   try clear c17
   try clear c18
   try clear c19
   try clear c20
   try clear c21
   try clear c22
   try clear c23
   try clear c24
   try clear c28
   try clear c28b0
   try clear c28b1
   try clear c29
   try clear c29b0
   try clear p64
   try clear c107
   try clear c107b0
   try clear c108
   try clear c108b0
   try clear c109
   try clear c109b0
   try clear c113
   try clear c116
   try clear c116b0
   try clear c117
   try clear c117b0
   try clear c118
   try clear c119
   try clear c121
   try clear c124
   try clear c125
   try clear c127
   try clear c130
   try clear c131
   try clear c133
   try clear c136
   try clear c136b0
   try clear c137
   try clear c137b0
   try clear c138
   try clear c139
   try clear c141
   try clear c144
   try clear c145
   try clear c147
   try clear c150
   try clear c151
   try clear c153
   try clear c156
   try clear c156b0
   try clear c157
   try clear c157b0
   try clear c158
   try clear c159
   try clear c161
   try clear c164
   try clear c165
   try clear c167
   try clear c170
   try clear c171
   try clear c173
   try clear c176
   try clear c176b0
   try clear c177
   try clear c177b0
   try clear c178
   try clear c178b0
   try clear c179
   try clear c180
   try clear c182
   try clear c185
   try clear c185b0
   try clear c186
   try clear c186b0
   try clear c187
   try clear c188
   try clear c190
   try clear c193
   try clear c194
   try clear c196
   try clear c199
   try clear c200
   try clear c202
   try clear c205
   try clear c205b0
   try clear c206
   try clear c206b0
   try clear c207
   try clear c208
   try clear c210
   try clear c213
   try clear c214
   try clear c216
   try clear c219
   try clear c220
   try clear c222
   try clear c225
   try clear c225b0
   try clear c226
   try clear c226b0
   try clear c227
   try clear c228
   try clear c230
   try clear c233
   try clear c234
   try clear c236
   try clear c239
   try clear c240
   try clear c242
   try clear c245
   try clear c246
   try clear c248
   try clear hcz112_0
   try clear hcz112_1
   try clear hcz112_2
   try clear hcz114_0
   try clear hcz114_1
   try clear hcz114_2
   try clear hcz120_0
   try clear hcz120_1
   try clear hcz120_2
   try clear hcz122_0
   try clear hcz122_1
   try clear hcz122_2
   try clear hcz126_0
   try clear hcz126_1
   try clear hcz126_2
   try clear hcz128_0
   try clear hcz128_1
   try clear hcz128_2
   try clear hcz132_0
   try clear hcz132_1
   try clear hcz132_2
   try clear hcz134_0
   try clear hcz134_1
   try clear hcz134_2
   try clear hcz140_0
   try clear hcz140_1
   try clear hcz140_2
   try clear hcz142_0
   try clear hcz142_1
   try clear hcz142_2
   try clear hcz146_0
   try clear hcz146_1
   try clear hcz146_2
   try clear hcz148_0
   try clear hcz148_1
   try clear hcz148_2
   try clear hcz152_0
   try clear hcz152_1
   try clear hcz152_2
   try clear hcz154_0
   try clear hcz154_1
   try clear hcz154_2
   try clear hcz160_0
   try clear hcz160_1
   try clear hcz160_2
   try clear hcz162_0
   try clear hcz162_1
   try clear hcz162_2
   try clear hcz166_0
   try clear hcz166_1
   try clear hcz166_2
   try clear hcz168_0
   try clear hcz168_1
   try clear hcz168_2
   try clear hcz172_0
   try clear hcz172_1
   try clear hcz172_2
   try clear hcz174_0
   try clear hcz174_1
   try clear hcz174_2
   try clear hcz181_0
   try clear hcz181_1
   try clear hcz181_2
   try clear hcz183_0
   try clear hcz183_1
   try clear hcz183_2
   try clear hcz189_0
   try clear hcz189_1
   try clear hcz189_2
   try clear hcz191_0
   try clear hcz191_1
   try clear hcz191_2
   try clear hcz195_0
   try clear hcz195_1
   try clear hcz195_2
   try clear hcz197_0
   try clear hcz197_1
   try clear hcz197_2
   try clear hcz201_0
   try clear hcz201_1
   try clear hcz201_2
   try clear hcz203_0
   try clear hcz203_1
   try clear hcz203_2
   try clear hcz209_0
   try clear hcz209_1
   try clear hcz209_2
   try clear hcz211_0
   try clear hcz211_1
   try clear hcz211_2
   try clear hcz215_0
   try clear hcz215_1
   try clear hcz215_2
   try clear hcz217_0
   try clear hcz217_1
   try clear hcz217_2
   try clear hcz221_0
   try clear hcz221_1
   try clear hcz221_2
   try clear hcz223_0
   try clear hcz223_1
   try clear hcz223_2
   try clear hcz229_0
   try clear hcz229_1
   try clear hcz229_2
   try clear hcz231_0
   try clear hcz231_1
   try clear hcz231_2
   try clear hcz235_0
   try clear hcz235_1
   try clear hcz235_2
   try clear hcz237_0
   try clear hcz237_1
   try clear hcz237_2
   try clear hcz241_0
   try clear hcz241_1
   try clear hcz241_2
   try clear hcz243_0
   try clear hcz243_1
   try clear hcz243_2
   try clear hcz247_0
   try clear hcz247_1
   try clear hcz247_2
   try clear hcz249_0
   try clear hcz249_1
   try clear hcz249_2
   try clear hfz112_0
   try clear hfz112_1
   try clear hfz112_2
   try clear hfz114_0
   try clear hfz114_1
   try clear hfz114_2
   try clear hfz120_0
   try clear hfz120_1
   try clear hfz120_2
   try clear hfz122_0
   try clear hfz122_1
   try clear hfz122_2
   try clear hfz126_0
   try clear hfz126_1
   try clear hfz126_2
   try clear hfz128_0
   try clear hfz128_1
   try clear hfz128_2
   try clear hfz132_0
   try clear hfz132_1
   try clear hfz132_2
   try clear hfz134_0
   try clear hfz134_1
   try clear hfz134_2
   try clear hfz140_0
   try clear hfz140_1
   try clear hfz140_2
   try clear hfz142_0
   try clear hfz142_1
   try clear hfz142_2
   try clear hfz146_0
   try clear hfz146_1
   try clear hfz146_2
   try clear hfz148_0
   try clear hfz148_1
   try clear hfz148_2
   try clear hfz152_0
   try clear hfz152_1
   try clear hfz152_2
   try clear hfz154_0
   try clear hfz154_1
   try clear hfz154_2
   try clear hfz160_0
   try clear hfz160_1
   try clear hfz160_2
   try clear hfz162_0
   try clear hfz162_1
   try clear hfz162_2
   try clear hfz166_0
   try clear hfz166_1
   try clear hfz166_2
   try clear hfz168_0
   try clear hfz168_1
   try clear hfz168_2
   try clear hfz172_0
   try clear hfz172_1
   try clear hfz172_2
   try clear hfz174_0
   try clear hfz174_1
   try clear hfz174_2
   try clear hfz181_0
   try clear hfz181_1
   try clear hfz181_2
   try clear hfz183_0
   try clear hfz183_1
   try clear hfz183_2
   try clear hfz189_0
   try clear hfz189_1
   try clear hfz189_2
   try clear hfz191_0
   try clear hfz191_1
   try clear hfz191_2
   try clear hfz195_0
   try clear hfz195_1
   try clear hfz195_2
   try clear hfz197_0
   try clear hfz197_1
   try clear hfz197_2
   try clear hfz201_0
   try clear hfz201_1
   try clear hfz201_2
   try clear hfz203_0
   try clear hfz203_1
   try clear hfz203_2
   try clear hfz209_0
   try clear hfz209_1
   try clear hfz209_2
   try clear hfz211_0
   try clear hfz211_1
   try clear hfz211_2
   try clear hfz215_0
   try clear hfz215_1
   try clear hfz215_2
   try clear hfz217_0
   try clear hfz217_1
   try clear hfz217_2
   try clear hfz221_0
   try clear hfz221_1
   try clear hfz221_2
   try clear hfz223_0
   try clear hfz223_1
   try clear hfz223_2
   try clear hfz229_0
   try clear hfz229_1
   try clear hfz229_2
   try clear hfz231_0
   try clear hfz231_1
   try clear hfz231_2
   try clear hfz235_0
   try clear hfz235_1
   try clear hfz235_2
   try clear hfz237_0
   try clear hfz237_1
   try clear hfz237_2
   try clear hfz241_0
   try clear hfz241_1
   try clear hfz241_2
   try clear hfz243_0
   try clear hfz243_1
   try clear hfz243_2
   try clear hfz247_0
   try clear hfz247_1
   try clear hfz247_2
   try clear hfz249_0
   try clear hfz249_1
   try clear hfz249_2
   obtain ⟨kq, x68_9, rfl, HA, HJ9, BK162, BK163, BK164, HB⟩ := hcut
   cases kq with
   | zero => exact absurd HA.out (by simp [gristmilllaw04_FactOrders.j0])
   | succ kj9 =>
    have H := HA.out
    clear HA
    simp only [gristmilllaw04_FactOrders.j0] at H
    by_cases c251 : x68_9 = true
    ·subst c251
     have H1 : (some false) = some r := by rw [if_pos rfl] at H; exact H
     clear H
     have H := H1
     clear H1
     obtain rfl := Option.some.inj H
     go_wp2
     go_ret
     exact ⟨by first | rfl | (simp [errW_none, errW_some] <;> rfl) | (simp [*, errW_none, errW_some] <;> rfl), by repeat (first | (with_reducible first | exact HB.out | apply below_alloc | apply pw_below_drewN | apply below_drew1 | refine below_set ?_ GE162.out | refine below_set ?_ GE163.out | refine below_set ?_ GE164.out) | exact HB.out)⟩
    ·replace c251 := Bool.eq_false_iff.mpr c251
     subst c251
     have H1 : ((fact_Bag.f l3).bind fun t170 => (gristmilllaw04_FactOrders.l0 kj9 l3 t170 1)) = some r := by rw [if_neg (show ¬ (false = true) by decide)] at H; exact H
     clear H
     have H := H1
     clear H1
     replace H := Option.bind_eq_some_iff.mp H
     obtain ⟨t170, A2520, H⟩ := H
     replace H : (gristmilllaw04_FactOrders.l0 kj9 l3 t170 1) = some r := H
     have A252 := Aside0.mk A2520
     clear A2520
     have H' := Aside0.mk H
     clear H
     go_wp2_with (first | ((with_reducible refine gate_callee (f := 16) rfl ?_); refine goesL_ (some 70) rfl rfl Try.func16 (by kernel_rfl) rfl #[.slice A3 l3.length c3] rfl (by (try simp only [List.map_toArray, List.map_cons, List.map_nil]); first | done | rfl | (simp only [List.length_drop, List.length_take]; rfl)) ?_; (with_reducible refine (fact_Bag.calls _ _ l3 t170 _ ?side1 ?side2 A252.out).mono ?_); (case side1 => repeat (first | exact (Kd.C_below HR3.out HB.out) | (with_reducible refine Kd.C_alloc ?_ _) | (with_reducible refine Kd.C_drewN ?_ _) | (with_reducible refine Kd.C_drew ?_))); (case side2 => exact HC3.out); rintro e w253 ⟨v171, rfl, ho0, hb⟩; refine ⟨_, rfl, ?_⟩; have n0_ := Aside0.mk (Kd.R_lower ho0 (below_size (bw_ HB.out))); have n1_ := Aside0.mk (blk_below (bk_ BK162.out) hb); have n2_ := Aside0.mk (blk_below (bk_ BK163.out) hb); have n3_ := Aside0.mk (blk_below (bk_ BK164.out) hb); have n4_ := Aside0.mk (below_step (bw_ HB.out) hb); clear BK162 BK163 BK164 HB; have HO172 := n0_; have BK162 := n1_; have BK163 := n2_; have BK164 := n3_; have HB := n4_; clear n0_ n1_ n2_ n3_ n4_; (try clear hb); (try clear hb2); (try clear hk); (try clear hi); (try clear ho0)))
     go_loopg [14] kj9 (fun kq v14 w' => ∃ (x14_2 : Int), v14 = .int .i64 x14_2 ∧ Aside0 (gristmilllaw04_FactOrders.l0 kq l3 t170 x14_2 = some r) ∧ Aside0 (kq ≤ kj9) ∧ Aside0 (Kd.R k40 40 w' w.heap.size (fun _ => True) v171 t170) ∧ Aside0 (w'.heap[gb162]? = some (.cells #[.int .i64 a0_0, (.slice A0_1 l0_1.length c0_1), (.slice A0_2 l0_2.length c0_2)] 27 (0, 0))) ∧ Aside0 (w'.heap[gb163]? = some (.cells #[.int .i64 a1_0, (.slice A1_1 l1_1.length c1_1), (.slice A1_2 l1_2.length c1_2)] 27 (0, 0))) ∧ Aside0 (w'.heap[gb164]? = some (.cells #[.int .i64 a2_0, (.slice A2_1 l2_1.length c2_1), (.slice A2_2 l2_2.length c2_2)] 27 (0, 0))) ∧ Aside0 (Below w.heap.size w w'))
     case atStart => exact ⟨(1), (by first | rfl | (simp; done) | (simp [*]; done)), H', ⟨Nat.le_refl _⟩, ⟨by (with_reducible repeat (first | apply Kd.R_alloc | apply Kd.R_drewN | apply Kd.R_drew)); exact HO172.out⟩, ⟨by (with_reducible repeat (first | refine blk_drewN ?_ _ | refine blk_drew ?_ | refine blk_alloc ?_ _)); exact BK162.out⟩, ⟨by (with_reducible repeat (first | refine blk_drewN ?_ _ | refine blk_drew ?_ | refine blk_alloc ?_ _)); exact BK163.out⟩, ⟨by (with_reducible repeat (first | refine blk_drewN ?_ _ | refine blk_drew ?_ | refine blk_alloc ?_ _)); exact BK164.out⟩, ⟨by repeat (first | (with_reducible first | exact HB.out | apply below_alloc | apply pw_below_drewN | apply below_drew1 | refine below_set ?_ GE162.out | refine below_set ?_ GE163.out | refine below_set ?_ GE164.out) | exact HB.out)⟩⟩
     case round =>
      clear H'
      try clear c1
      try clear c2
      try clear p2
      try clear c3
      try clear p6
      try clear c10
      try clear c11
      try clear c12
      try clear c13
      try clear c14
      try clear c15
      try clear c16
      try clear c17
      try clear c18
      try clear c19
      try clear c20
      try clear c21
      try clear c22
      try clear c23
      try clear c24
      try clear c25
      try clear c28
      try clear c28b0
      try clear c28b1
      try clear c29
      try clear c29b0
      try clear p64
      try clear c107
      try clear c107b0
      try clear c108
      try clear c108b0
      try clear c109
      try clear c109b0
      try clear c113
      try clear c116
      try clear c116b0
      try clear c117
      try clear c117b0
      try clear c118
      try clear c119
      try clear c121
      try clear c124
      try clear c125
      try clear c127
      try clear c130
      try clear c131
      try clear c133
      try clear c136
      try clear c136b0
      try clear c137
      try clear c137b0
      try clear c138
      try clear c139
      try clear c141
      try clear c144
      try clear c145
      try clear c147
      try clear c150
      try clear c151
      try clear c153
      try clear c156
      try clear c156b0
      try clear c157
      try clear c157b0
      try clear c158
      try clear c159
      try clear c161
      try clear c164
      try clear c165
      try clear c167
      try clear c170
      try clear c171
      try clear c173
      try clear c176
      try clear c176b0
      try clear c177
      try clear c177b0
      try clear c178
      try clear c178b0
      try clear c179
      try clear c180
      try clear c182
      try clear c185
      try clear c185b0
      try clear c186
      try clear c186b0
      try clear c187
      try clear c188
      try clear c190
      try clear c193
      try clear c194
      try clear c196
      try clear c199
      try clear c200
      try clear c202
      try clear c205
      try clear c205b0
      try clear c206
      try clear c206b0
      try clear c207
      try clear c208
      try clear c210
      try clear c213
      try clear c214
      try clear c216
      try clear c219
      try clear c220
      try clear c222
      try clear c225
      try clear c225b0
      try clear c226
      try clear c226b0
      try clear c227
      try clear c228
      try clear c230
      try clear c233
      try clear c234
      try clear c236
      try clear c239
      try clear c240
      try clear c242
      try clear c245
      try clear c246
      try clear c248
      try clear c251
      try clear hcz112_0
      try clear hcz112_1
      try clear hcz112_2
      try clear hcz114_0
      try clear hcz114_1
      try clear hcz114_2
      try clear hcz120_0
      try clear hcz120_1
      try clear hcz120_2
      try clear hcz122_0
      try clear hcz122_1
      try clear hcz122_2
      try clear hcz126_0
      try clear hcz126_1
      try clear hcz126_2
      try clear hcz128_0
      try clear hcz128_1
      try clear hcz128_2
      try clear hcz132_0
      try clear hcz132_1
      try clear hcz132_2
      try clear hcz134_0
      try clear hcz134_1
      try clear hcz134_2
      try clear hcz140_0
      try clear hcz140_1
      try clear hcz140_2
      try clear hcz142_0
      try clear hcz142_1
      try clear hcz142_2
      try clear hcz146_0
      try clear hcz146_1
      try clear hcz146_2
      try clear hcz148_0
      try clear hcz148_1
      try clear hcz148_2
      try clear hcz152_0
      try clear hcz152_1
      try clear hcz152_2
      try clear hcz154_0
      try clear hcz154_1
      try clear hcz154_2
      try clear hcz160_0
      try clear hcz160_1
      try clear hcz160_2
      try clear hcz162_0
      try clear hcz162_1
      try clear hcz162_2
      try clear hcz166_0
      try clear hcz166_1
      try clear hcz166_2
      try clear hcz168_0
      try clear hcz168_1
      try clear hcz168_2
      try clear hcz172_0
      try clear hcz172_1
      try clear hcz172_2
      try clear hcz174_0
      try clear hcz174_1
      try clear hcz174_2
      try clear hcz181_0
      try clear hcz181_1
      try clear hcz181_2
      try clear hcz183_0
      try clear hcz183_1
      try clear hcz183_2
      try clear hcz189_0
      try clear hcz189_1
      try clear hcz189_2
      try clear hcz191_0
      try clear hcz191_1
      try clear hcz191_2
      try clear hcz195_0
      try clear hcz195_1
      try clear hcz195_2
      try clear hcz197_0
      try clear hcz197_1
      try clear hcz197_2
      try clear hcz201_0
      try clear hcz201_1
      try clear hcz201_2
      try clear hcz203_0
      try clear hcz203_1
      try clear hcz203_2
      try clear hcz209_0
      try clear hcz209_1
      try clear hcz209_2
      try clear hcz211_0
      try clear hcz211_1
      try clear hcz211_2
      try clear hcz215_0
      try clear hcz215_1
      try clear hcz215_2
      try clear hcz217_0
      try clear hcz217_1
      try clear hcz217_2
      try clear hcz221_0
      try clear hcz221_1
      try clear hcz221_2
      try clear hcz223_0
      try clear hcz223_1
      try clear hcz223_2
      try clear hcz229_0
      try clear hcz229_1
      try clear hcz229_2
      try clear hcz231_0
      try clear hcz231_1
      try clear hcz231_2
      try clear hcz235_0
      try clear hcz235_1
      try clear hcz235_2
      try clear hcz237_0
      try clear hcz237_1
      try clear hcz237_2
      try clear hcz241_0
      try clear hcz241_1
      try clear hcz241_2
      try clear hcz243_0
      try clear hcz243_1
      try clear hcz243_2
      try clear hcz247_0
      try clear hcz247_1
      try clear hcz247_2
      try clear hcz249_0
      try clear hcz249_1
      try clear hcz249_2
      try clear hfz112_0
      try clear hfz112_1
      try clear hfz112_2
      try clear hfz114_0
      try clear hfz114_1
      try clear hfz114_2
      try clear hfz120_0
      try clear hfz120_1
      try clear hfz120_2
      try clear hfz122_0
      try clear hfz122_1
      try clear hfz122_2
      try clear hfz126_0
      try clear hfz126_1
      try clear hfz126_2
      try clear hfz128_0
      try clear hfz128_1
      try clear hfz128_2
      try clear hfz132_0
      try clear hfz132_1
      try clear hfz132_2
      try clear hfz134_0
      try clear hfz134_1
      try clear hfz134_2
      try clear hfz140_0
      try clear hfz140_1
      try clear hfz140_2
      try clear hfz142_0
      try clear hfz142_1
      try clear hfz142_2
      try clear hfz146_0
      try clear hfz146_1
      try clear hfz146_2
      try clear hfz148_0
      try clear hfz148_1
      try clear hfz148_2
      try clear hfz152_0
      try clear hfz152_1
      try clear hfz152_2
      try clear hfz154_0
      try clear hfz154_1
      try clear hfz154_2
      try clear hfz160_0
      try clear hfz160_1
      try clear hfz160_2
      try clear hfz162_0
      try clear hfz162_1
      try clear hfz162_2
      try clear hfz166_0
      try clear hfz166_1
      try clear hfz166_2
      try clear hfz168_0
      try clear hfz168_1
      try clear hfz168_2
      try clear hfz172_0
      try clear hfz172_1
      try clear hfz172_2
      try clear hfz174_0
      try clear hfz174_1
      try clear hfz174_2
      try clear hfz181_0
      try clear hfz181_1
      try clear hfz181_2
      try clear hfz183_0
      try clear hfz183_1
      try clear hfz183_2
      try clear hfz189_0
      try clear hfz189_1
      try clear hfz189_2
      try clear hfz191_0
      try clear hfz191_1
      try clear hfz191_2
      try clear hfz195_0
      try clear hfz195_1
      try clear hfz195_2
      try clear hfz197_0
      try clear hfz197_1
      try clear hfz197_2
      try clear hfz201_0
      try clear hfz201_1
      try clear hfz201_2
      try clear hfz203_0
      try clear hfz203_1
      try clear hfz203_2
      try clear hfz209_0
      try clear hfz209_1
      try clear hfz209_2
      try clear hfz211_0
      try clear hfz211_1
      try clear hfz211_2
      try clear hfz215_0
      try clear hfz215_1
      try clear hfz215_2
      try clear hfz217_0
      try clear hfz217_1
      try clear hfz217_2
      try clear hfz221_0
      try clear hfz221_1
      try clear hfz221_2
      try clear hfz223_0
      try clear hfz223_1
      try clear hfz223_2
      try clear hfz229_0
      try clear hfz229_1
      try clear hfz229_2
      try clear hfz231_0
      try clear hfz231_1
      try clear hfz231_2
      try clear hfz235_0
      try clear hfz235_1
      try clear hfz235_2
      try clear hfz237_0
      try clear hfz237_1
      try clear hfz237_2
      try clear hfz241_0
      try clear hfz241_1
      try clear hfz241_2
      try clear hfz243_0
      try clear hfz243_1
      try clear hfz243_2
      try clear hfz247_0
      try clear hfz247_1
      try clear hfz247_2
      try clear hfz249_0
      try clear hfz249_1
      try clear hfz249_2
      try clear p2
      try clear p6
      try clear p64
      obtain ⟨x14_2, rfl, HA, HK2, HO_13, BK162, BK163, BK164, HB⟩ := hrel
      cases gk with
      | zero => exact absurd HA.out (by simp [gristmilllaw04_FactOrders.l0])
      | succ k2 =>
       have H := HA.out
       clear HA
       simp only [gristmilllaw04_FactOrders.l0] at H
       by_cases c254 : x14_2 < (t170.length : Int)
       ·rw [if_pos c254] at H
        have c254b0 : decide (x14_2 < (t170.length : Int)) = true := decide_eq_true c254
        clear c254
        obtain ⟨ji255, hji255⟩ : ∃ j_ : Int, (wrap64 (x14_2 - 1)) = j_ := ⟨_, rfl⟩
        replace H : (if 0 ≤ (ji255) then (if (ji255) < (t170.length : Int) then (if 0 ≤ x14_2 then ((fact_Compare.f k2 ((rd_T40 t170 (ji255)).f0.f0) ((rd_T40 t170 (ji255)).f0.f1) ((rd_T40 t170 (ji255)).f0.f2) ((rd_T40 t170 x14_2).f0.f0) ((rd_T40 t170 x14_2).f0.f1) ((rd_T40 t170 x14_2).f0.f2)).bind fun t175 => (if t175 ≥ 0 then (some false) else (gristmilllaw04_FactOrders.l0 k2 l3 t170 (wrap64 (x14_2 + 1))))) else (none)) else (none)) else (none)) = some r := by first | (rw [hji255] at H; exact H) | (simp only [hji255] at H ⊢; exact H)
        have hji255w : (IntKind.i64.wrap (x14_2 - 1)) = ji255 := (i64_w _).trans hji255
        by_cases c256 : 0 ≤ (ji255)
        ·rw [if_pos c256] at H
         have c256b0 : decide (0 ≤ (ji255)) = true := decide_eq_true c256
         clear c256
         by_cases c257 : (ji255) < (t170.length : Int)
         ·rw [if_pos c257] at H
          have c257b0 : decide ((ji255) < (t170.length : Int)) = true := decide_eq_true c257
          clear c257
          by_cases c258 : 0 ≤ x14_2
          ·rw [if_pos c258] at H
           have c258b0 : decide (0 ≤ x14_2) = true := decide_eq_true c258
           clear c258
           replace H := Option.bind_eq_some_iff.mp H
           obtain ⟨t175, A2590, H⟩ := H
           replace H : (if t175 ≥ 0 then (some false) else (gristmilllaw04_FactOrders.l0 k2 l3 t170 (wrap64 (x14_2 + 1)))) = some r := H
           have A259 := Aside0.mk A2590
           clear A2590
           by_cases c260 : t175 ≥ 0
           ·rw [if_pos c260] at H
            have c260b0 : decide (0 ≤ t175) = true := decide_eq_true c260
            clear c260
            obtain rfl := Option.some.inj H
            obtain ⟨Ao261, co261, eo261⟩ := Kd.R_slice HO_13.out
            subst eo261
            try go_wp2
            have n0_ := Aside0.mk (Kd.R_drew HO_13.out)
            have n1_ := Aside0.mk (blk_drew BK162.out)
            have n2_ := Aside0.mk (blk_drew BK163.out)
            have n3_ := Aside0.mk (blk_drew BK164.out)
            have n4_ := Aside0.mk (below_drew1 HB.out)
            clear HO_13
            clear BK162
            clear BK163
            clear BK164
            clear HB
            have HO_13 := n0_
            have BK162 := n1_
            have BK163 := n2_
            have BK164 := n3_
            have HB := n4_
            clear n0_ n1_ n2_ n3_ n4_
            have p173 : 0 ≤ ((ji255) : Int) := of_decide_eq_true (by assumption)
            have q173 : (ji255) < (t170.length : Int) := of_decide_eq_true (by assumption)
            obtain ⟨ad173, A173_1, c173_1, A173_2, c173_2, e173, hx173_0, hx173_1, hx173_2, hx173_3, hl173_1, hi173_1, hl173_2, hi173_2⟩ := at_T40 (Kd.R_reads' HO_13.out).2.2 (ji255) p173 q173
            cases e173
            obtain ⟨ce173, hce173, hMe173, hcc173⟩ := Kd.R_get HO_13.out z40 (ji255) p173 (by first | exact q173 | exact of_decide_eq_true (by assumption) | (have e_ := (Kd.R_reads' HO_13.out).1; omega))
            obtain ⟨ve173_1, ve173_2, rfl, ge173_1, ge173_2⟩ := k40_openM hMe173
            have hv173_1 := hcc173 1 _ rfl
            rw [add_field _ _ 1 (by omega)] at hv173_1
            replace hv173_1 := Option.some.inj (hv173_1.symm.trans hx173_1)
            rw [hv173_1] at ge173_1
            have HL173_1 := Aside0.mk (show Kd.R Kd.string 9 _ _ _ _ ((rd_T40 t170 (ji255)).f0.f1) from ge173_1)
            clear hv173_1 ge173_1
            have hv173_2 := hcc173 2 _ rfl
            rw [add_field _ _ 2 (by omega)] at hv173_2
            replace hv173_2 := Option.some.inj (hv173_2.symm.trans hx173_2)
            rw [hv173_2] at ge173_2
            have HL173_2 := Aside0.mk (show Kd.R (Kd.int .i64) 2 _ _ _ _ ((rd_T40 t170 (ji255)).f0.f2) from ge173_2)
            clear hv173_2 ge173_2
            clear hcc173 hce173
            have HR173_1 := Aside0.mk hi173_1
            have HC173_1 := Aside0.mk hl173_1
            clear hi173_1 hl173_1
            have HR173_2 := Aside0.mk hi173_2
            have HC173_2 := Aside0.mk hl173_2
            clear hi173_2 hl173_2
            replace p173 := eq_true p173
            replace q173 := eq_true q173
            have p174 : 0 ≤ (x14_2 : Int) := of_decide_eq_true (by assumption)
            have q174 : x14_2 < (t170.length : Int) := of_decide_eq_true (by assumption)
            obtain ⟨ad174, A174_1, c174_1, A174_2, c174_2, e174, hx174_0, hx174_1, hx174_2, hx174_3, hl174_1, hi174_1, hl174_2, hi174_2⟩ := at_T40 (Kd.R_reads' HO_13.out).2.2 x14_2 p174 q174
            obtain rfl : ad173 = ad174 := (by injection e174)
            obtain ⟨ce174, hce174, hMe174, hcc174⟩ := Kd.R_get HO_13.out z40 x14_2 p174 (by first | exact q174 | exact of_decide_eq_true (by assumption) | (have e_ := (Kd.R_reads' HO_13.out).1; omega))
            obtain ⟨ve174_1, ve174_2, rfl, ge174_1, ge174_2⟩ := k40_openM hMe174
            have hv174_1 := hcc174 1 _ rfl
            rw [add_field _ _ 1 (by omega)] at hv174_1
            replace hv174_1 := Option.some.inj (hv174_1.symm.trans hx174_1)
            rw [hv174_1] at ge174_1
            have HL174_1 := Aside0.mk (show Kd.R Kd.string 9 _ _ _ _ ((rd_T40 t170 x14_2).f0.f1) from ge174_1)
            clear hv174_1 ge174_1
            have hv174_2 := hcc174 2 _ rfl
            rw [add_field _ _ 2 (by omega)] at hv174_2
            replace hv174_2 := Option.some.inj (hv174_2.symm.trans hx174_2)
            rw [hv174_2] at ge174_2
            have HL174_2 := Aside0.mk (show Kd.R (Kd.int .i64) 2 _ _ _ _ ((rd_T40 t170 x14_2).f0.f2) from ge174_2)
            clear hv174_2 ge174_2
            clear hcc174 hce174
            have HR174_1 := Aside0.mk hi174_1
            have HC174_1 := Aside0.mk hl174_1
            clear hi174_1 hl174_1
            have HR174_2 := Aside0.mk hi174_2
            have HC174_2 := Aside0.mk hl174_2
            clear hi174_2 hl174_2
            replace p174 := eq_true p174
            replace q174 := eq_true q174
            refine start_ (n := 13) (S := fun w' => w'.cell? (ad173.add (((ji255)).toNat * 4)) = some (.int .i64 ((rd_T40 t170 (ji255)).f0.f0)) ∧ w'.cell? ⟨(ad173.add (((ji255)).toNat * 4)).block, (ad173.add (((ji255)).toNat * 4)).off + 1, none⟩ = some (.slice A173_1 ((rd_T40 t170 (ji255)).f0.f1).length c173_1) ∧ w'.cell? ⟨(ad173.add (((ji255)).toNat * 4)).block, (ad173.add (((ji255)).toNat * 4)).off + 2, none⟩ = some (.slice A173_2 ((rd_T40 t170 (ji255)).f0.f2).length c173_2) ∧ w'.cell? ⟨(ad173.add (((ji255)).toNat * 4)).block, (ad173.add (((ji255)).toNat * 4)).off + 3, none⟩ = some (.int .u64 ((rd_T40 t170 (ji255)).f1)) ∧ w'.cell? (ad173.add ((x14_2).toNat * 4)) = some (.int .i64 ((rd_T40 t170 x14_2).f0.f0)) ∧ w'.cell? ⟨(ad173.add ((x14_2).toNat * 4)).block, (ad173.add ((x14_2).toNat * 4)).off + 1, none⟩ = some (.slice A174_1 ((rd_T40 t170 x14_2).f0.f1).length c174_1) ∧ w'.cell? ⟨(ad173.add ((x14_2).toNat * 4)).block, (ad173.add ((x14_2).toNat * 4)).off + 2, none⟩ = some (.slice A174_2 ((rd_T40 t170 x14_2).f0.f2).length c174_2) ∧ w'.cell? ⟨(ad173.add ((x14_2).toNat * 4)).block, (ad173.add ((x14_2).toNat * 4)).off + 3, none⟩ = some (.int .u64 ((rd_T40 t170 x14_2).f1))) (ds := []) #[false, false, false, false, false, false, false, false, false, false, false, false, false] (by kernel_rfl) rfl rfl ⟨hx173_0, hx173_1, hx173_2, hx173_3, hx174_0, hx174_1, hx174_2, hx174_3⟩ (fun hHeld => ?_); refine with_tabW gristmilllaw04_FactOrders.tab13 gristmilllaw04_FactOrders.bits13 (fun HT_ HW_ => ?_)
            generalize wr.drew = w262 at HO_13 BK162 BK163 BK164 HB HL173_1 HL173_2 HL174_1 HL174_2 HR173_1 HR173_2 HR174_1 HR174_2 hx173_0 hx173_1 hx173_2 hx173_3 hx174_0 hx174_1 hx174_2 hx174_3 hHeld ⊢
            refine pure_ (i := 0) (N := some 77) (v := ?_) (a' := ?_) #[true, false, false, false, false, false, false, false, false, false, false, false, false] rfl rfl (any_of HT_.out (by kernel_rfl)) (fun _ _ _ h => h) (Or.inl ⟨by rfl, ?_⟩) ?_ ?_
            rotate_left
            ·intro w'
             go_simp
             with_reducible rfl
            rotate_left
            ·simp only [Act.put, q1_, q2_, q3_, i64_w, i32_w]
             rfl
            refine pure_ (i := 1) (N := some 78) (v := ?_) (a' := ?_) #[true, true, false, false, false, false, false, false, false, false, false, false, false] rfl rfl (any_of HT_.out (by kernel_rfl)) (fun _ _ _ h => h) (Or.inl ⟨by rfl, ?_⟩) ?_ ?_
            rotate_left
            ·intro w'
             go_simp
             with_reducible rfl
            rotate_left
            ·simp only [Act.put, q1_, q2_, q3_, i64_w, i32_w]
             rfl
            refine pure_ (i := 2) (N := some 79) (v := ?_) (a' := ?_) #[true, true, true, false, false, false, false, false, false, false, false, false, false] rfl rfl (any_of HT_.out (by kernel_rfl)) (fun _ _ _ h => h) (Or.inl ⟨by rfl, ?_⟩) ?_ ?_
            rotate_left
            ·intro w'
             go_simp
             with_reducible rfl
            rotate_left
            ·simp only [Act.put, q1_, q2_, q3_, i64_w, i32_w]
             rfl
            refine pure_ (i := 3) (N := some 80) (v := ?_) (a' := ?_) #[true, true, true, true, false, false, false, false, false, false, false, false, false] rfl rfl (any_of HT_.out (by kernel_rfl)) (fun _ _ _ h => h) (Or.inl ⟨by rfl, ?_⟩) ?_ ?_
            rotate_left
            ·intro w'
             go_simp
             with_reducible rfl
            rotate_left
            ·simp only [Act.put, q1_, q2_, q3_, i64_w, i32_w]
             rfl
            refine pure_ (i := 4) (N := some 81) (v := ?_) (a' := ?_) #[true, true, true, true, true, false, false, false, false, false, false, false, false] rfl rfl (any_of HT_.out (by kernel_rfl)) (fun _ _ _ h => h) (Or.inl ⟨by rfl, ?_⟩) ?_ ?_
            rotate_left
            ·intro w'
             go_simp
             with_reducible rfl
            rotate_left
            ·simp only [Act.put, q1_, q2_, q3_, i64_w, i32_w]
             rfl
            refine pure_ (i := 6) (N := some 83) (v := ?_) (a' := ?_) #[true, true, true, true, true, false, true, false, false, false, false, false, false] rfl rfl (any_of HT_.out (by kernel_rfl)) (fun _ _ _ h => h) (Or.inl ⟨by rfl, ?_⟩) ?_ ?_
            rotate_left
            ·intro w'
             go_simp
             with_reducible rfl
            rotate_left
            ·simp only [Act.put, q1_, q2_, q3_, i64_w, i32_w]
             rfl
            refine pure_ (i := 7) (N := some 84) (v := ?_) (a' := ?_) #[true, true, true, true, true, false, true, true, false, false, false, false, false] rfl rfl (any_of HT_.out (by kernel_rfl)) (fun _ _ _ h => h) (Or.inl ⟨by rfl, ?_⟩) ?_ ?_
            rotate_left
            ·intro w'
             go_simp
             with_reducible rfl
            rotate_left
            ·simp only [Act.put, q1_, q2_, q3_, i64_w, i32_w]
             rfl
            refine pure_ (i := 8) (N := some 85) (v := ?_) (a' := ?_) #[true, true, true, true, true, false, true, true, true, false, false, false, false] rfl rfl (any_of HT_.out (by kernel_rfl)) (fun _ _ _ h => h) (Or.inl ⟨by rfl, ?_⟩) ?_ ?_
            rotate_left
            ·intro w'
             go_simp
             with_reducible rfl
            rotate_left
            ·simp only [Act.put, q1_, q2_, q3_, i64_w, i32_w]
             rfl
            refine pure_ (i := 9) (N := some 86) (v := ?_) (a' := ?_) #[true, true, true, true, true, false, true, true, true, true, false, false, false] rfl rfl (any_of HT_.out (by kernel_rfl)) (fun _ _ _ h => h) (Or.inl ⟨by rfl, ?_⟩) ?_ ?_
            rotate_left
            ·intro w'
             go_simp
             with_reducible rfl
            rotate_left
            ·simp only [Act.put, q1_, q2_, q3_, i64_w, i32_w]
             rfl
            refine take_ (i := 5) (N := some 82) (v := ?_) (a' := ?_) #[true, true, true, true, true, true, true, true, true, true, false, false, false] rfl rfl (take_ofW HT_.out HW_.out (by kernel_rfl)) (fun _ _ _ h => h) (Or.inl ⟨by rfl, ?_⟩) hHeld ?_ ?_
            rotate_left
            ·rintro w' ⟨s0, s1, s2, s3, s4, s5, s6, s7⟩
             go_simp
             with_reducible rfl
            rotate_left
            ·simp only [Act.put, q1_, q2_, q3_, i64_w, i32_w]
             rfl
            refine take_ (i := 10) (N := some 87) (v := ?_) (a' := ?_) #[true, true, true, true, true, true, true, true, true, true, true, false, false] rfl rfl (take_ofW HT_.out HW_.out (by kernel_rfl)) (fun _ _ _ h => h) (Or.inl ⟨by rfl, ?_⟩) hHeld ?_ ?_
            rotate_left
            ·rintro w' ⟨s0, s1, s2, s3, s4, s5, s6, s7⟩
             go_simp
             with_reducible rfl
            rotate_left
            ·simp only [Act.put, q1_, q2_, q3_, i64_w, i32_w]
             rfl
            refine one_ (i := 11) (N := some 88) #[true, true, true, true, true, true, true, true, true, true, true, true, false] rfl rfl (one_of HT_.out (by kernel_rfl)) (by decide) (fun K hK => ?_)
            refine goes_ Try.func14 (by kernel_rfl) rfl #[.agg #[.int .i64 ((rd_T40 t170 (ji255)).f0.f0), .slice A173_1 ((rd_T40 t170 (ji255)).f0.f1).length c173_1, .slice A173_2 ((rd_T40 t170 (ji255)).f0.f2).length c173_2], .agg #[.int .i64 ((rd_T40 t170 x14_2).f0.f0), .slice A174_1 ((rd_T40 t170 x14_2).f0.f1).length c174_1, .slice A174_2 ((rd_T40 t170 x14_2).f0.f2).length c174_2]] (by rfl) rfl rfl (by (try simp only [List.map_toArray, List.map_cons, List.map_nil]); first | done | (simp only [hji255]; rfl) | rfl | (simp only [List.length_drop, List.length_take]; rfl)) ?_
            with_reducible refine (fact_Compare.calls k2 ((rd_T40 t170 (ji255)).f0.f0) _ _ ((rd_T40 t170 (ji255)).f0.f1) _ _ ((rd_T40 t170 (ji255)).f0.f2) ((rd_T40 t170 x14_2).f0.f0) _ _ ((rd_T40 t170 x14_2).f0.f1) _ _ ((rd_T40 t170 x14_2).f0.f2) t175 _ ?side1 ?side2 ?side3 ?side4 ?side5 ?side6 ?side7 ?side8 A259.out).mono ?_
            (case side1 => repeat (first | exact (by repeat (first | (with_reducible exact HR173_1.out) | (with_reducible refine Kd.C_alloc ?_ _) | (with_reducible refine Kd.C_drewN ?_ _) | (with_reducible refine Kd.C_drew ?_) | exact HR173_1.out)) | (with_reducible refine Kd.C_alloc ?_ _) | (with_reducible refine Kd.C_drewN ?_ _) | (with_reducible refine Kd.C_drew ?_)))
            (case side2 => exact HC173_1.out)
            (case side3 => repeat (first | exact (by repeat (first | (with_reducible exact HR173_2.out) | (with_reducible refine Kd.C_alloc ?_ _) | (with_reducible refine Kd.C_drewN ?_ _) | (with_reducible refine Kd.C_drew ?_) | exact HR173_2.out)) | (with_reducible refine Kd.C_alloc ?_ _) | (with_reducible refine Kd.C_drewN ?_ _) | (with_reducible refine Kd.C_drew ?_)))
            (case side4 => exact HC173_2.out)
            (case side5 => repeat (first | exact (by repeat (first | (with_reducible exact HR174_1.out) | (with_reducible refine Kd.C_alloc ?_ _) | (with_reducible refine Kd.C_drewN ?_ _) | (with_reducible refine Kd.C_drew ?_) | exact HR174_1.out)) | (with_reducible refine Kd.C_alloc ?_ _) | (with_reducible refine Kd.C_drewN ?_ _) | (with_reducible refine Kd.C_drew ?_)))
            (case side6 => exact HC174_1.out)
            (case side7 => repeat (first | exact (by repeat (first | (with_reducible exact HR174_2.out) | (with_reducible refine Kd.C_alloc ?_ _) | (with_reducible refine Kd.C_drewN ?_ _) | (with_reducible refine Kd.C_drew ?_) | exact HR174_2.out)) | (with_reducible refine Kd.C_alloc ?_ _) | (with_reducible refine Kd.C_drewN ?_ _) | (with_reducible refine Kd.C_drew ?_)))
            (case side8 => exact HC174_2.out)
            rintro e w263 ⟨rfl, hb⟩
            have HS0_ := (hb.cell (World.block_lt_of_cell? _ _ (hHeld.1))).trans (hHeld.1)
            have HS1_ := (hb.cell (World.block_lt_of_cell? _ _ (hHeld.2.1))).trans (hHeld.2.1)
            have HS2_ := (hb.cell (World.block_lt_of_cell? _ _ (hHeld.2.2.1))).trans (hHeld.2.2.1)
            have HS3_ := (hb.cell (World.block_lt_of_cell? _ _ (hHeld.2.2.2.1))).trans (hHeld.2.2.2.1)
            have HS4_ := (hb.cell (World.block_lt_of_cell? _ _ (hHeld.2.2.2.2.1))).trans (hHeld.2.2.2.2.1)
            have HS5_ := (hb.cell (World.block_lt_of_cell? _ _ (hHeld.2.2.2.2.2.1))).trans (hHeld.2.2.2.2.2.1)
            have HS6_ := (hb.cell (World.block_lt_of_cell? _ _ (hHeld.2.2.2.2.2.2.1))).trans (hHeld.2.2.2.2.2.2.1)
            have HS7_ := (hb.cell (World.block_lt_of_cell? _ _ (hHeld.2.2.2.2.2.2.2))).trans (hHeld.2.2.2.2.2.2.2)
            refine ⟨_, rfl, ?_⟩
            have n0_ := Aside0.mk (Kd.R_below (by (with_reducible repeat (first | apply Kd.R_alloc | apply Kd.R_drewN | apply Kd.R_drew)); exact HO_13.out) hb)
            have n1_ := Aside0.mk (Kd.R_below (by (with_reducible repeat (first | apply Kd.R_alloc | apply Kd.R_drewN | apply Kd.R_drew)); exact HL173_1.out) hb)
            have n2_ := Aside0.mk (Kd.R_below (by (with_reducible repeat (first | apply Kd.R_alloc | apply Kd.R_drewN | apply Kd.R_drew)); exact HL173_2.out) hb)
            have n3_ := Aside0.mk (Kd.R_below (by (with_reducible repeat (first | apply Kd.R_alloc | apply Kd.R_drewN | apply Kd.R_drew)); exact HL174_1.out) hb)
            have n4_ := Aside0.mk (Kd.R_below (by (with_reducible repeat (first | apply Kd.R_alloc | apply Kd.R_drewN | apply Kd.R_drew)); exact HL174_2.out) hb)
            have n5_ := Aside0.mk (blk_below (bk_ BK162.out) hb)
            have n6_ := Aside0.mk (blk_below (bk_ BK163.out) hb)
            have n7_ := Aside0.mk (blk_below (bk_ BK164.out) hb)
            have n8_ := Aside0.mk (Kd.C_below (by repeat (first | (with_reducible exact HR173_1.out) | (with_reducible refine Kd.C_alloc ?_ _) | (with_reducible refine Kd.C_drewN ?_ _) | (with_reducible refine Kd.C_drew ?_) | exact HR173_1.out)) hb)
            have n9_ := Aside0.mk (Kd.C_below (by repeat (first | (with_reducible exact HR173_2.out) | (with_reducible refine Kd.C_alloc ?_ _) | (with_reducible refine Kd.C_drewN ?_ _) | (with_reducible refine Kd.C_drew ?_) | exact HR173_2.out)) hb)
            have n10_ := Aside0.mk (Kd.C_below (by repeat (first | (with_reducible exact HR174_1.out) | (with_reducible refine Kd.C_alloc ?_ _) | (with_reducible refine Kd.C_drewN ?_ _) | (with_reducible refine Kd.C_drew ?_) | exact HR174_1.out)) hb)
            have n11_ := Aside0.mk (Kd.C_below (by repeat (first | (with_reducible exact HR174_2.out) | (with_reducible refine Kd.C_alloc ?_ _) | (with_reducible refine Kd.C_drewN ?_ _) | (with_reducible refine Kd.C_drew ?_) | exact HR174_2.out)) hb)
            have n12_ := Aside0.mk (below_step (bw_ HB.out) hb)
            clear HO_13
            clear HL173_1
            clear HL173_2
            clear HL174_1
            clear HL174_2
            clear BK162
            clear BK163
            clear BK164
            clear HR173_1
            clear HR173_2
            clear HR174_1
            clear HR174_2
            clear HB
            have HO_13 := n0_
            have HL173_1 := n1_
            have HL173_2 := n2_
            have HL174_1 := n3_
            have HL174_2 := n4_
            have BK162 := n5_
            have BK163 := n6_
            have BK164 := n7_
            have HR173_1 := n8_
            have HR173_2 := n9_
            have HR174_1 := n10_
            have HR174_2 := n11_
            have HB := n12_
            clear n0_ n1_ n2_ n3_ n4_ n5_ n6_ n7_ n8_ n9_ n10_ n11_ n12_
            (try clear hb)
            (try clear hb2)
            (try clear hk)
            (try clear hi)
            refine hK.out _ _ ⟨HS0_, HS1_, HS2_, HS3_, HS4_, HS5_, HS6_, HS7_⟩ (fun hHeld => ?_)
            clear hK K
            refine norm_ (a' := ?_) ?_ ?_
            rotate_left
            ·show Act.put _ (some 88) _ = _
             simp only [Act.put, q1_, q2_, q3_, i64_w, i32_w]
             rfl
            refine pure_ (i := 12) (N := some 89) (v := ?_) (a' := ?_) #[true, true, true, true, true, true, true, true, true, true, true, true, true] rfl rfl (any_of HT_.out (by kernel_rfl)) (fun _ _ _ h => h) (Or.inl ⟨by rfl, ?_⟩) ?_ ?_
            rotate_left
            ·intro w'
             go_simp
             with_reducible rfl
            rotate_left
            ·simp only [Act.put, q1_, q2_, q3_, i64_w, i32_w]
             rfl
            refine done_ (done_of HT_.out (by kernel_rfl)) ?_
            try go_wp2
            go_ret
            exact ⟨by first | rfl | (simp [errW_none, errW_some] <;> rfl) | (simp only [← hji255]; first | rfl | (simp [errW_none, errW_some] <;> rfl)) | (simp [*, errW_none, errW_some] <;> rfl), by repeat (first | (with_reducible first | exact HB.out | apply below_alloc | apply pw_below_drewN | apply below_drew1 | refine below_set ?_ GE162.out | refine below_set ?_ GE163.out | refine below_set ?_ GE164.out) | exact HB.out)⟩
           ·rw [if_neg c260] at H
            have c260b0 : decide (0 ≤ t175) = false := decide_eq_false c260
            clear c260
            have H' := Aside0.mk H
            clear H
            obtain ⟨Ao264, co264, eo264⟩ := Kd.R_slice HO_13.out
            subst eo264
            try go_wp2
            have n0_ := Aside0.mk (Kd.R_drew HO_13.out)
            have n1_ := Aside0.mk (blk_drew BK162.out)
            have n2_ := Aside0.mk (blk_drew BK163.out)
            have n3_ := Aside0.mk (blk_drew BK164.out)
            have n4_ := Aside0.mk (below_drew1 HB.out)
            clear HO_13
            clear BK162
            clear BK163
            clear BK164
            clear HB
            have HO_13 := n0_
            have BK162 := n1_
            have BK163 := n2_
            have BK164 := n3_
            have HB := n4_
            clear n0_ n1_ n2_ n3_ n4_
            have p173 : 0 ≤ ((ji255) : Int) := of_decide_eq_true (by assumption)
            have q173 : (ji255) < (t170.length : Int) := of_decide_eq_true (by assumption)
            obtain ⟨ad173, A173_1, c173_1, A173_2, c173_2, e173, hx173_0, hx173_1, hx173_2, hx173_3, hl173_1, hi173_1, hl173_2, hi173_2⟩ := at_T40 (Kd.R_reads' HO_13.out).2.2 (ji255) p173 q173
            cases e173
            obtain ⟨ce173, hce173, hMe173, hcc173⟩ := Kd.R_get HO_13.out z40 (ji255) p173 (by first | exact q173 | exact of_decide_eq_true (by assumption) | (have e_ := (Kd.R_reads' HO_13.out).1; omega))
            obtain ⟨ve173_1, ve173_2, rfl, ge173_1, ge173_2⟩ := k40_openM hMe173
            have hv173_1 := hcc173 1 _ rfl
            rw [add_field _ _ 1 (by omega)] at hv173_1
            replace hv173_1 := Option.some.inj (hv173_1.symm.trans hx173_1)
            rw [hv173_1] at ge173_1
            have HL173_1 := Aside0.mk (show Kd.R Kd.string 9 _ _ _ _ ((rd_T40 t170 (ji255)).f0.f1) from ge173_1)
            clear hv173_1 ge173_1
            have hv173_2 := hcc173 2 _ rfl
            rw [add_field _ _ 2 (by omega)] at hv173_2
            replace hv173_2 := Option.some.inj (hv173_2.symm.trans hx173_2)
            rw [hv173_2] at ge173_2
            have HL173_2 := Aside0.mk (show Kd.R (Kd.int .i64) 2 _ _ _ _ ((rd_T40 t170 (ji255)).f0.f2) from ge173_2)
            clear hv173_2 ge173_2
            clear hcc173 hce173
            have HR173_1 := Aside0.mk hi173_1
            have HC173_1 := Aside0.mk hl173_1
            clear hi173_1 hl173_1
            have HR173_2 := Aside0.mk hi173_2
            have HC173_2 := Aside0.mk hl173_2
            clear hi173_2 hl173_2
            replace p173 := eq_true p173
            replace q173 := eq_true q173
            have p174 : 0 ≤ (x14_2 : Int) := of_decide_eq_true (by assumption)
            have q174 : x14_2 < (t170.length : Int) := of_decide_eq_true (by assumption)
            obtain ⟨ad174, A174_1, c174_1, A174_2, c174_2, e174, hx174_0, hx174_1, hx174_2, hx174_3, hl174_1, hi174_1, hl174_2, hi174_2⟩ := at_T40 (Kd.R_reads' HO_13.out).2.2 x14_2 p174 q174
            obtain rfl : ad173 = ad174 := (by injection e174)
            obtain ⟨ce174, hce174, hMe174, hcc174⟩ := Kd.R_get HO_13.out z40 x14_2 p174 (by first | exact q174 | exact of_decide_eq_true (by assumption) | (have e_ := (Kd.R_reads' HO_13.out).1; omega))
            obtain ⟨ve174_1, ve174_2, rfl, ge174_1, ge174_2⟩ := k40_openM hMe174
            have hv174_1 := hcc174 1 _ rfl
            rw [add_field _ _ 1 (by omega)] at hv174_1
            replace hv174_1 := Option.some.inj (hv174_1.symm.trans hx174_1)
            rw [hv174_1] at ge174_1
            have HL174_1 := Aside0.mk (show Kd.R Kd.string 9 _ _ _ _ ((rd_T40 t170 x14_2).f0.f1) from ge174_1)
            clear hv174_1 ge174_1
            have hv174_2 := hcc174 2 _ rfl
            rw [add_field _ _ 2 (by omega)] at hv174_2
            replace hv174_2 := Option.some.inj (hv174_2.symm.trans hx174_2)
            rw [hv174_2] at ge174_2
            have HL174_2 := Aside0.mk (show Kd.R (Kd.int .i64) 2 _ _ _ _ ((rd_T40 t170 x14_2).f0.f2) from ge174_2)
            clear hv174_2 ge174_2
            clear hcc174 hce174
            have HR174_1 := Aside0.mk hi174_1
            have HC174_1 := Aside0.mk hl174_1
            clear hi174_1 hl174_1
            have HR174_2 := Aside0.mk hi174_2
            have HC174_2 := Aside0.mk hl174_2
            clear hi174_2 hl174_2
            replace p174 := eq_true p174
            replace q174 := eq_true q174
            refine start_ (n := 13) (S := fun w' => w'.cell? (ad173.add (((ji255)).toNat * 4)) = some (.int .i64 ((rd_T40 t170 (ji255)).f0.f0)) ∧ w'.cell? ⟨(ad173.add (((ji255)).toNat * 4)).block, (ad173.add (((ji255)).toNat * 4)).off + 1, none⟩ = some (.slice A173_1 ((rd_T40 t170 (ji255)).f0.f1).length c173_1) ∧ w'.cell? ⟨(ad173.add (((ji255)).toNat * 4)).block, (ad173.add (((ji255)).toNat * 4)).off + 2, none⟩ = some (.slice A173_2 ((rd_T40 t170 (ji255)).f0.f2).length c173_2) ∧ w'.cell? ⟨(ad173.add (((ji255)).toNat * 4)).block, (ad173.add (((ji255)).toNat * 4)).off + 3, none⟩ = some (.int .u64 ((rd_T40 t170 (ji255)).f1)) ∧ w'.cell? (ad173.add ((x14_2).toNat * 4)) = some (.int .i64 ((rd_T40 t170 x14_2).f0.f0)) ∧ w'.cell? ⟨(ad173.add ((x14_2).toNat * 4)).block, (ad173.add ((x14_2).toNat * 4)).off + 1, none⟩ = some (.slice A174_1 ((rd_T40 t170 x14_2).f0.f1).length c174_1) ∧ w'.cell? ⟨(ad173.add ((x14_2).toNat * 4)).block, (ad173.add ((x14_2).toNat * 4)).off + 2, none⟩ = some (.slice A174_2 ((rd_T40 t170 x14_2).f0.f2).length c174_2) ∧ w'.cell? ⟨(ad173.add ((x14_2).toNat * 4)).block, (ad173.add ((x14_2).toNat * 4)).off + 3, none⟩ = some (.int .u64 ((rd_T40 t170 x14_2).f1))) (ds := []) #[false, false, false, false, false, false, false, false, false, false, false, false, false] (by kernel_rfl) rfl rfl ⟨hx173_0, hx173_1, hx173_2, hx173_3, hx174_0, hx174_1, hx174_2, hx174_3⟩ (fun hHeld => ?_); refine with_tabW gristmilllaw04_FactOrders.tab13 gristmilllaw04_FactOrders.bits13 (fun HT_ HW_ => ?_)
            generalize wr.drew = w265 at HO_13 BK162 BK163 BK164 HB HL173_1 HL173_2 HL174_1 HL174_2 HR173_1 HR173_2 HR174_1 HR174_2 hx173_0 hx173_1 hx173_2 hx173_3 hx174_0 hx174_1 hx174_2 hx174_3 hHeld ⊢
            refine pure_ (i := 0) (N := some 77) (v := ?_) (a' := ?_) #[true, false, false, false, false, false, false, false, false, false, false, false, false] rfl rfl (any_of HT_.out (by kernel_rfl)) (fun _ _ _ h => h) (Or.inl ⟨by rfl, ?_⟩) ?_ ?_
            rotate_left
            ·intro w'
             go_simp
             with_reducible rfl
            rotate_left
            ·simp only [Act.put, q1_, q2_, q3_, i64_w, i32_w]
             rfl
            refine pure_ (i := 1) (N := some 78) (v := ?_) (a' := ?_) #[true, true, false, false, false, false, false, false, false, false, false, false, false] rfl rfl (any_of HT_.out (by kernel_rfl)) (fun _ _ _ h => h) (Or.inl ⟨by rfl, ?_⟩) ?_ ?_
            rotate_left
            ·intro w'
             go_simp
             with_reducible rfl
            rotate_left
            ·simp only [Act.put, q1_, q2_, q3_, i64_w, i32_w]
             rfl
            refine pure_ (i := 2) (N := some 79) (v := ?_) (a' := ?_) #[true, true, true, false, false, false, false, false, false, false, false, false, false] rfl rfl (any_of HT_.out (by kernel_rfl)) (fun _ _ _ h => h) (Or.inl ⟨by rfl, ?_⟩) ?_ ?_
            rotate_left
            ·intro w'
             go_simp
             with_reducible rfl
            rotate_left
            ·simp only [Act.put, q1_, q2_, q3_, i64_w, i32_w]
             rfl
            refine pure_ (i := 3) (N := some 80) (v := ?_) (a' := ?_) #[true, true, true, true, false, false, false, false, false, false, false, false, false] rfl rfl (any_of HT_.out (by kernel_rfl)) (fun _ _ _ h => h) (Or.inl ⟨by rfl, ?_⟩) ?_ ?_
            rotate_left
            ·intro w'
             go_simp
             with_reducible rfl
            rotate_left
            ·simp only [Act.put, q1_, q2_, q3_, i64_w, i32_w]
             rfl
            refine pure_ (i := 4) (N := some 81) (v := ?_) (a' := ?_) #[true, true, true, true, true, false, false, false, false, false, false, false, false] rfl rfl (any_of HT_.out (by kernel_rfl)) (fun _ _ _ h => h) (Or.inl ⟨by rfl, ?_⟩) ?_ ?_
            rotate_left
            ·intro w'
             go_simp
             with_reducible rfl
            rotate_left
            ·simp only [Act.put, q1_, q2_, q3_, i64_w, i32_w]
             rfl
            refine pure_ (i := 6) (N := some 83) (v := ?_) (a' := ?_) #[true, true, true, true, true, false, true, false, false, false, false, false, false] rfl rfl (any_of HT_.out (by kernel_rfl)) (fun _ _ _ h => h) (Or.inl ⟨by rfl, ?_⟩) ?_ ?_
            rotate_left
            ·intro w'
             go_simp
             with_reducible rfl
            rotate_left
            ·simp only [Act.put, q1_, q2_, q3_, i64_w, i32_w]
             rfl
            refine pure_ (i := 7) (N := some 84) (v := ?_) (a' := ?_) #[true, true, true, true, true, false, true, true, false, false, false, false, false] rfl rfl (any_of HT_.out (by kernel_rfl)) (fun _ _ _ h => h) (Or.inl ⟨by rfl, ?_⟩) ?_ ?_
            rotate_left
            ·intro w'
             go_simp
             with_reducible rfl
            rotate_left
            ·simp only [Act.put, q1_, q2_, q3_, i64_w, i32_w]
             rfl
            refine pure_ (i := 8) (N := some 85) (v := ?_) (a' := ?_) #[true, true, true, true, true, false, true, true, true, false, false, false, false] rfl rfl (any_of HT_.out (by kernel_rfl)) (fun _ _ _ h => h) (Or.inl ⟨by rfl, ?_⟩) ?_ ?_
            rotate_left
            ·intro w'
             go_simp
             with_reducible rfl
            rotate_left
            ·simp only [Act.put, q1_, q2_, q3_, i64_w, i32_w]
             rfl
            refine pure_ (i := 9) (N := some 86) (v := ?_) (a' := ?_) #[true, true, true, true, true, false, true, true, true, true, false, false, false] rfl rfl (any_of HT_.out (by kernel_rfl)) (fun _ _ _ h => h) (Or.inl ⟨by rfl, ?_⟩) ?_ ?_
            rotate_left
            ·intro w'
             go_simp
             with_reducible rfl
            rotate_left
            ·simp only [Act.put, q1_, q2_, q3_, i64_w, i32_w]
             rfl
            refine take_ (i := 5) (N := some 82) (v := ?_) (a' := ?_) #[true, true, true, true, true, true, true, true, true, true, false, false, false] rfl rfl (take_ofW HT_.out HW_.out (by kernel_rfl)) (fun _ _ _ h => h) (Or.inl ⟨by rfl, ?_⟩) hHeld ?_ ?_
            rotate_left
            ·rintro w' ⟨s0, s1, s2, s3, s4, s5, s6, s7⟩
             go_simp
             with_reducible rfl
            rotate_left
            ·simp only [Act.put, q1_, q2_, q3_, i64_w, i32_w]
             rfl
            refine take_ (i := 10) (N := some 87) (v := ?_) (a' := ?_) #[true, true, true, true, true, true, true, true, true, true, true, false, false] rfl rfl (take_ofW HT_.out HW_.out (by kernel_rfl)) (fun _ _ _ h => h) (Or.inl ⟨by rfl, ?_⟩) hHeld ?_ ?_
            rotate_left
            ·rintro w' ⟨s0, s1, s2, s3, s4, s5, s6, s7⟩
             go_simp
             with_reducible rfl
            rotate_left
            ·simp only [Act.put, q1_, q2_, q3_, i64_w, i32_w]
             rfl
            refine one_ (i := 11) (N := some 88) #[true, true, true, true, true, true, true, true, true, true, true, true, false] rfl rfl (one_of HT_.out (by kernel_rfl)) (by decide) (fun K hK => ?_)
            refine goes_ Try.func14 (by kernel_rfl) rfl #[.agg #[.int .i64 ((rd_T40 t170 (ji255)).f0.f0), .slice A173_1 ((rd_T40 t170 (ji255)).f0.f1).length c173_1, .slice A173_2 ((rd_T40 t170 (ji255)).f0.f2).length c173_2], .agg #[.int .i64 ((rd_T40 t170 x14_2).f0.f0), .slice A174_1 ((rd_T40 t170 x14_2).f0.f1).length c174_1, .slice A174_2 ((rd_T40 t170 x14_2).f0.f2).length c174_2]] (by rfl) rfl rfl (by (try simp only [List.map_toArray, List.map_cons, List.map_nil]); first | done | (simp only [hji255]; rfl) | rfl | (simp only [List.length_drop, List.length_take]; rfl)) ?_
            with_reducible refine (fact_Compare.calls k2 ((rd_T40 t170 (ji255)).f0.f0) _ _ ((rd_T40 t170 (ji255)).f0.f1) _ _ ((rd_T40 t170 (ji255)).f0.f2) ((rd_T40 t170 x14_2).f0.f0) _ _ ((rd_T40 t170 x14_2).f0.f1) _ _ ((rd_T40 t170 x14_2).f0.f2) t175 _ ?side1 ?side2 ?side3 ?side4 ?side5 ?side6 ?side7 ?side8 A259.out).mono ?_
            (case side1 => repeat (first | exact (by repeat (first | (with_reducible exact HR173_1.out) | (with_reducible refine Kd.C_alloc ?_ _) | (with_reducible refine Kd.C_drewN ?_ _) | (with_reducible refine Kd.C_drew ?_) | exact HR173_1.out)) | (with_reducible refine Kd.C_alloc ?_ _) | (with_reducible refine Kd.C_drewN ?_ _) | (with_reducible refine Kd.C_drew ?_)))
            (case side2 => exact HC173_1.out)
            (case side3 => repeat (first | exact (by repeat (first | (with_reducible exact HR173_2.out) | (with_reducible refine Kd.C_alloc ?_ _) | (with_reducible refine Kd.C_drewN ?_ _) | (with_reducible refine Kd.C_drew ?_) | exact HR173_2.out)) | (with_reducible refine Kd.C_alloc ?_ _) | (with_reducible refine Kd.C_drewN ?_ _) | (with_reducible refine Kd.C_drew ?_)))
            (case side4 => exact HC173_2.out)
            (case side5 => repeat (first | exact (by repeat (first | (with_reducible exact HR174_1.out) | (with_reducible refine Kd.C_alloc ?_ _) | (with_reducible refine Kd.C_drewN ?_ _) | (with_reducible refine Kd.C_drew ?_) | exact HR174_1.out)) | (with_reducible refine Kd.C_alloc ?_ _) | (with_reducible refine Kd.C_drewN ?_ _) | (with_reducible refine Kd.C_drew ?_)))
            (case side6 => exact HC174_1.out)
            (case side7 => repeat (first | exact (by repeat (first | (with_reducible exact HR174_2.out) | (with_reducible refine Kd.C_alloc ?_ _) | (with_reducible refine Kd.C_drewN ?_ _) | (with_reducible refine Kd.C_drew ?_) | exact HR174_2.out)) | (with_reducible refine Kd.C_alloc ?_ _) | (with_reducible refine Kd.C_drewN ?_ _) | (with_reducible refine Kd.C_drew ?_)))
            (case side8 => exact HC174_2.out)
            rintro e w266 ⟨rfl, hb⟩
            have HS0_ := (hb.cell (World.block_lt_of_cell? _ _ (hHeld.1))).trans (hHeld.1)
            have HS1_ := (hb.cell (World.block_lt_of_cell? _ _ (hHeld.2.1))).trans (hHeld.2.1)
            have HS2_ := (hb.cell (World.block_lt_of_cell? _ _ (hHeld.2.2.1))).trans (hHeld.2.2.1)
            have HS3_ := (hb.cell (World.block_lt_of_cell? _ _ (hHeld.2.2.2.1))).trans (hHeld.2.2.2.1)
            have HS4_ := (hb.cell (World.block_lt_of_cell? _ _ (hHeld.2.2.2.2.1))).trans (hHeld.2.2.2.2.1)
            have HS5_ := (hb.cell (World.block_lt_of_cell? _ _ (hHeld.2.2.2.2.2.1))).trans (hHeld.2.2.2.2.2.1)
            have HS6_ := (hb.cell (World.block_lt_of_cell? _ _ (hHeld.2.2.2.2.2.2.1))).trans (hHeld.2.2.2.2.2.2.1)
            have HS7_ := (hb.cell (World.block_lt_of_cell? _ _ (hHeld.2.2.2.2.2.2.2))).trans (hHeld.2.2.2.2.2.2.2)
            refine ⟨_, rfl, ?_⟩
            have n0_ := Aside0.mk (Kd.R_below (by (with_reducible repeat (first | apply Kd.R_alloc | apply Kd.R_drewN | apply Kd.R_drew)); exact HO_13.out) hb)
            have n1_ := Aside0.mk (Kd.R_below (by (with_reducible repeat (first | apply Kd.R_alloc | apply Kd.R_drewN | apply Kd.R_drew)); exact HL173_1.out) hb)
            have n2_ := Aside0.mk (Kd.R_below (by (with_reducible repeat (first | apply Kd.R_alloc | apply Kd.R_drewN | apply Kd.R_drew)); exact HL173_2.out) hb)
            have n3_ := Aside0.mk (Kd.R_below (by (with_reducible repeat (first | apply Kd.R_alloc | apply Kd.R_drewN | apply Kd.R_drew)); exact HL174_1.out) hb)
            have n4_ := Aside0.mk (Kd.R_below (by (with_reducible repeat (first | apply Kd.R_alloc | apply Kd.R_drewN | apply Kd.R_drew)); exact HL174_2.out) hb)
            have n5_ := Aside0.mk (blk_below (bk_ BK162.out) hb)
            have n6_ := Aside0.mk (blk_below (bk_ BK163.out) hb)
            have n7_ := Aside0.mk (blk_below (bk_ BK164.out) hb)
            have n8_ := Aside0.mk (Kd.C_below (by repeat (first | (with_reducible exact HR173_1.out) | (with_reducible refine Kd.C_alloc ?_ _) | (with_reducible refine Kd.C_drewN ?_ _) | (with_reducible refine Kd.C_drew ?_) | exact HR173_1.out)) hb)
            have n9_ := Aside0.mk (Kd.C_below (by repeat (first | (with_reducible exact HR173_2.out) | (with_reducible refine Kd.C_alloc ?_ _) | (with_reducible refine Kd.C_drewN ?_ _) | (with_reducible refine Kd.C_drew ?_) | exact HR173_2.out)) hb)
            have n10_ := Aside0.mk (Kd.C_below (by repeat (first | (with_reducible exact HR174_1.out) | (with_reducible refine Kd.C_alloc ?_ _) | (with_reducible refine Kd.C_drewN ?_ _) | (with_reducible refine Kd.C_drew ?_) | exact HR174_1.out)) hb)
            have n11_ := Aside0.mk (Kd.C_below (by repeat (first | (with_reducible exact HR174_2.out) | (with_reducible refine Kd.C_alloc ?_ _) | (with_reducible refine Kd.C_drewN ?_ _) | (with_reducible refine Kd.C_drew ?_) | exact HR174_2.out)) hb)
            have n12_ := Aside0.mk (below_step (bw_ HB.out) hb)
            clear HO_13
            clear HL173_1
            clear HL173_2
            clear HL174_1
            clear HL174_2
            clear BK162
            clear BK163
            clear BK164
            clear HR173_1
            clear HR173_2
            clear HR174_1
            clear HR174_2
            clear HB
            have HO_13 := n0_
            have HL173_1 := n1_
            have HL173_2 := n2_
            have HL174_1 := n3_
            have HL174_2 := n4_
            have BK162 := n5_
            have BK163 := n6_
            have BK164 := n7_
            have HR173_1 := n8_
            have HR173_2 := n9_
            have HR174_1 := n10_
            have HR174_2 := n11_
            have HB := n12_
            clear n0_ n1_ n2_ n3_ n4_ n5_ n6_ n7_ n8_ n9_ n10_ n11_ n12_
            (try clear hb)
            (try clear hb2)
            (try clear hk)
            (try clear hi)
            refine hK.out _ _ ⟨HS0_, HS1_, HS2_, HS3_, HS4_, HS5_, HS6_, HS7_⟩ (fun hHeld => ?_)
            clear hK K
            refine norm_ (a' := ?_) ?_ ?_
            rotate_left
            ·show Act.put _ (some 88) _ = _
             simp only [Act.put, q1_, q2_, q3_, i64_w, i32_w]
             rfl
            refine pure_ (i := 12) (N := some 89) (v := ?_) (a' := ?_) #[true, true, true, true, true, true, true, true, true, true, true, true, true] rfl rfl (any_of HT_.out (by kernel_rfl)) (fun _ _ _ h => h) (Or.inl ⟨by rfl, ?_⟩) ?_ ?_
            rotate_left
            ·intro w'
             go_simp
             with_reducible rfl
            rotate_left
            ·simp only [Act.put, q1_, q2_, q3_, i64_w, i32_w]
             rfl
            refine done_ (done_of HT_.out (by kernel_rfl)) ?_
            try go_wp2
            go_roundg k2
            case measure => have := HJ9.out; have := HK2.out; omega
            case rel => exact ⟨(wrap64 (x14_2 + 1)), (by first | rfl | (simp; done) | (simp [*]; done)), H', ⟨by have := HJ9.out; have := HK2.out; omega⟩, ⟨by (with_reducible repeat (first | apply Kd.R_alloc | apply Kd.R_drewN | apply Kd.R_drew)); exact HO_13.out⟩, ⟨by (with_reducible repeat (first | refine blk_drewN ?_ _ | refine blk_drew ?_ | refine blk_alloc ?_ _)); exact BK162.out⟩, ⟨by (with_reducible repeat (first | refine blk_drewN ?_ _ | refine blk_drew ?_ | refine blk_alloc ?_ _)); exact BK163.out⟩, ⟨by (with_reducible repeat (first | refine blk_drewN ?_ _ | refine blk_drew ?_ | refine blk_alloc ?_ _)); exact BK164.out⟩, ⟨by repeat (first | (with_reducible first | exact HB.out | apply below_alloc | apply pw_below_drewN | apply below_drew1 | refine below_set ?_ GE162.out | refine below_set ?_ GE163.out | refine below_set ?_ GE164.out) | exact HB.out)⟩⟩
          ·rw [if_neg c258] at H
           exact absurd H (by simp)
         ·rw [if_neg c257] at H
          exact absurd H (by simp)
        ·rw [if_neg c256] at H
         exact absurd H (by simp)
       ·rw [if_neg c254] at H
        have c254b0 : decide (x14_2 < (t170.length : Int)) = false := decide_eq_false c254
        clear c254
        replace H := Option.bind_eq_some_iff.mp H
        obtain ⟨t176, A2670, H⟩ := H
        replace H : (some (t176 == (IntKind.u64.wrap ((l3.length : Int))))) = some r := H
        have A267 := Aside0.mk A2670
        clear A2670
        obtain rfl := Option.some.inj H
        obtain ⟨Ao268, co268, eo268⟩ := Kd.R_slice HO_13.out
        subst eo268
        go_wp2_with (first | ((with_reducible refine gate_callee (f := 17) rfl ?_); refine goesL_ (some 91) rfl rfl Try.func17 (by kernel_rfl) rfl #[.slice Ao268 t170.length co268] rfl (by (try simp only [List.map_toArray, List.map_cons, List.map_nil]); first | done | rfl | (simp only [List.length_drop, List.length_take]; rfl)) ?_; (with_reducible refine (fact_Count.calls k2 _ _ t170 t176 _ ?side1 ?side2 A267.out).mono ?_); (case side1 => repeat (first | exact (Kd.R_reads' HO_13.out).2.2 | (with_reducible refine Kd.C_alloc ?_ _) | (with_reducible refine Kd.C_drewN ?_ _) | (with_reducible refine Kd.C_drew ?_))); (case side2 => exact (Kd.R_reads' HO_13.out).2.1); rintro e w269 ⟨rfl, hb⟩; refine ⟨_, rfl, ?_⟩; have n0_ := Aside0.mk (Kd.R_below (by (with_reducible repeat (first | apply Kd.R_alloc | apply Kd.R_drewN | apply Kd.R_drew)); exact HO_13.out) hb); have n1_ := Aside0.mk (blk_below (bk_ BK162.out) hb); have n2_ := Aside0.mk (blk_below (bk_ BK163.out) hb); have n3_ := Aside0.mk (blk_below (bk_ BK164.out) hb); have n4_ := Aside0.mk (below_step (bw_ HB.out) hb); clear HO_13 BK162 BK163 BK164 HB; have HO_13 := n0_; have BK162 := n1_; have BK163 := n2_; have BK164 := n3_; have HB := n4_; clear n0_ n1_ n2_ n3_ n4_; (try clear hb); (try clear hb2); (try clear hk); (try clear hi)))
        go_ret
        exact ⟨by first | rfl | (simp [errW_none, errW_some] <;> rfl) | (simp [*, errW_none, errW_some] <;> rfl), by repeat (first | (with_reducible first | exact HB.out | apply below_alloc | apply pw_below_drewN | apply below_drew1 | refine below_set ?_ GE162.out | refine below_set ?_ GE163.out | refine below_set ?_ GE164.out) | exact HB.out)⟩
 ·replace c6 := Bool.eq_false_iff.mpr c6
  subst c6
  have H1 : (some false) = some r := by rw [if_neg (show ¬ (false = true) by decide)] at H; exact H
  clear H
  have H := H1
  clear H1
  obtain rfl := Option.some.inj H
  go_enter Try.func4, Try.ntmps4
  go_wp2_with (first | ((with_reducible refine gate_dst (N := 4) rfl ?_); refine bx_ (N := 4) (cs := #[.int .i64 a0_0, .slice A0_1 l0_1.length c0_1, .slice A0_2 l0_2.length c0_2]) (t := 27) ?_; intro gb162 hg w270 hbox hb; have n0_ := Aside0.mk (below_step (bw_ HB.out) hb); have n1_ := Aside0.mk (hbox); have n2_ := Aside0.mk (sz_ hg (bw_ HB.out)); have n3_ := n2_; clear HB; have HB := n0_; have BK162 := n1_; have GW162 := n2_; have GE162 := n3_; clear n0_ n1_ n2_ n3_; clear hb hbox hg) | ((with_reducible refine gate_dst (N := 5) rfl ?_); refine bx_ (N := 5) (cs := #[.int .i64 a1_0, .slice A1_1 l1_1.length c1_1, .slice A1_2 l1_2.length c1_2]) (t := 27) ?_; intro gb163 hg w271 hbox hb; have n0_ := Aside0.mk (blk_below (bk_ BK162.out) hb); have n1_ := Aside0.mk (below_step (bw_ HB.out) hb); have n2_ := Aside0.mk (hbox); have n3_ := Aside0.mk (sz_ hg (bw_ HB.out)); have n4_ := n3_; have n5_ := Aside0.mk (ne_ hg (blk_lt (bk_ BK162.out))); have n6_ := Aside0.mk n5_.out.symm; clear BK162 HB; have BK162 := n0_; have HB := n1_; have BK163 := n2_; have GW163 := n3_; have GE163 := n4_; have NB162_163 := n5_; have NB163_162 := n6_; clear n0_ n1_ n2_ n3_ n4_ n5_ n6_; clear hb hbox hg) | ((with_reducible refine gate_dst (N := 6) rfl ?_); refine bx_ (N := 6) (cs := #[.int .i64 a2_0, .slice A2_1 l2_1.length c2_1, .slice A2_2 l2_2.length c2_2]) (t := 27) ?_; intro gb164 hg w272 hbox hb; have n0_ := Aside0.mk (blk_below (bk_ BK162.out) hb); have n1_ := Aside0.mk (blk_below (bk_ BK163.out) hb); have n2_ := Aside0.mk (below_step (bw_ HB.out) hb); have n3_ := Aside0.mk (hbox); have n4_ := Aside0.mk (sz_ hg (bw_ HB.out)); have n5_ := n4_; have n6_ := Aside0.mk (ne_ hg (blk_lt (bk_ BK162.out))); have n7_ := Aside0.mk n6_.out.symm; have n8_ := Aside0.mk (ne_ hg (blk_lt (bk_ BK163.out))); have n9_ := Aside0.mk n8_.out.symm; clear BK162 BK163 HB; have BK162 := n0_; have BK163 := n1_; have HB := n2_; have BK164 := n3_; have GW164 := n4_; have GE164 := n5_; have NB162_164 := n6_; have NB164_162 := n7_; have NB163_164 := n8_; have NB164_163 := n9_; clear n0_ n1_ n2_ n3_ n4_ n5_ n6_ n7_ n8_ n9_; clear hb hbox hg) | ((with_reducible refine gate_callee (f := 9) rfl ?_); refine goesL_ (some 15) rfl rfl Try.func9 (by kernel_rfl) rfl #[] rfl (by (try simp only [List.map_toArray, List.map_cons, List.map_nil]); first | done | rfl | (simp only [List.length_drop, List.length_take]; rfl)) ?_; (with_reducible refine (gristmilllaw04_awake.calls  false _ A5.out).mono ?_); rintro e w273 ⟨rfl, hb⟩; refine ⟨_, rfl, ?_⟩; have n0_ := Aside0.mk (blk_below (bk_ BK162.out) hb); have n1_ := Aside0.mk (blk_below (bk_ BK163.out) hb); have n2_ := Aside0.mk (blk_below (bk_ BK164.out) hb); have n3_ := Aside0.mk (below_step (bw_ HB.out) hb); clear BK162 BK163 BK164 HB; have BK162 := n0_; have BK163 := n1_; have BK164 := n2_; have HB := n3_; clear n0_ n1_ n2_ n3_; (try clear hb); (try clear hb2); (try clear hk); (try clear hi)))
  go_ret
  exact ⟨by first | rfl | (simp [errW_none, errW_some] <;> rfl) | (simp [*, errW_none, errW_some] <;> rfl), by repeat (first | (with_reducible first | exact HB.out | apply below_alloc | apply pw_below_drewN | apply below_drew1 | refine below_set ?_ GE162.out | refine below_set ?_ GE163.out | refine below_set ?_ GE164.out) | exact HB.out)⟩
end Go.Proofs.Ytfeeahjaeapkoaa.P
end

section
namespace Go.Proofs.Ytfeeahjaeapkoaa.Ext
set_option linter.unusedVariables false
set_option linter.unusedSimpArgs false
open Go.RowKit Go.Proofs.YtfeeahjaeapkoaaW.PrintWords Go.Proofs.Ytfeeahjaeapkoaa.P
def sumM (b : List M) : Int := (b.map fun x => x.2).sum
theorem sumM_cons (x : M) (b : List M) : sumM (x :: b) = x.2 + sumM b := by unfold sumM; rw [List.map_cons, List.sum_cons]
theorem sumM_nil : sumM [] = 0 := rfl
theorem sum_put : ∀ (b : List M) (f : F) (n : Int), W64 (sumM (putB b f n)) = W64 (sumM b + n)
  | [], f, n => by rw [putB, sumM_cons, sumM_nil]; simp only [W64_is]; omega
  | (g, m) :: r, f, n => by
    rw [putB]
    have ih := sum_put r f n
    simp only [W64_is] at ih ⊢
    split
    · rw [sumM_cons, sumM_cons]; simp only; omega
    · split
      · rw [sumM_cons, sumM_cons]; simp only [W64_is]; omega
      · rw [sumM_cons, sumM_cons]; simp only; omega
theorem sum_bag : ∀ (l b : List M), W64 (sumM (bagB b l)) = W64 (sumM b + sumM l)
  | [], b => by rw [sumM_nil, Int.add_zero]; rfl
  | x :: l, b => by
    have h1 := sum_bag l (putB b x.1 x.2)
    have h2 := sum_put b x.1 x.2
    have e : bagB b (x :: l) = bagB (putB b x.1 x.2) l := rfl
    rw [e, h1, sumM_cons]
    simp only [W64_is] at h2 ⊢
    omega
theorem sum_keep : ∀ b : List M, sumM (b.filter keepM) = sumM b
  | [] => rfl
  | x :: b => by
    rw [List.filter_cons]
    split
    · rw [sumM_cons, sumM_cons, sum_keep b]
    · rename_i h
      have : x.2 = 0 := by
        unfold keepM at h
        simpa using h
      rw [sumM_cons, sum_keep b, this, Int.zero_add]
theorem sum_bagOf (l : List M) : W64 (sumM (bagOf l)) = W64 (sumM l) := by
  unfold bagOf
  rw [sum_keep, sum_bag, sumM_nil, Int.zero_add]
theorem strict_bagOf (l : List M) : Strict (bagOf l) := List.Pairwise.filter _ (bagB_strict l [] List.Pairwise.nil)
theorem bagB_mem1 {l : List M} {y : M} (h : y ∈ bagB [] l) : ∃ z ∈ l, y.1 = z.1 := by
  rcases bagB_mem l [] y h with h | h | ⟨z, h, _⟩
  · simp at h
  · exact h
  · simp at h
theorem bagOf_mem {l : List M} {y : M} (h : y ∈ bagOf l) : ∃ z ∈ l, y.1 = z.1 := bagB_mem1 (List.mem_filter.1 h).1
theorem bagB_len : ∀ (l b : List M), (bagB b l).length ≤ b.length + l.length
  | [], b => Nat.le_refl _
  | x :: l, b => by
    have h1 := bagB_len l (putB b x.1 x.2)
    have h2 := putB_len b x.1 x.2
    have e : bagB b (x :: l) = bagB (putB b x.1 x.2) l := rfl
    rw [e, List.length_cons]
    omega
theorem bagOf_len (l : List M) : (bagOf l).length ≤ l.length := by
  have h1 := bagB_len l []
  have h2 := List.length_filter_le keepM (bagB [] l)
  unfold bagOf
  simp at h1
  omega
theorem rd40_s (b : List M) (j : Nat) (hj : j < b.length) : rd_T40 (b.map s40) (j : Int) = s40 b[j] := by
  unfold rd_T40
  rw [Int.toNat_natCast, List.getD_eq_getElem?_getD, List.getElem?_map, List.getElem?_eq_getElem hj]; rfl
theorem drop_sum (b : List M) (i : Nat) (h : i < b.length) : sumM (b.drop i) = b[i].2 + sumM (b.drop (i + 1)) := by
  rw [List.drop_eq_getElem_cons h, sumM_cons]
theorem count_loop (b : List M) (hl : b.length < 4611686018427387904) : ∀ (n i : Nat), i + n = b.length → ∀ (k : Nat) (s : Int), n + 1 ≤ k → 0 ≤ s → s < 18446744073709551616 → fact_Count.l0 k s (b.map s40) (b.length : Int) (i : Int) = some (W64 (s + sumM (b.drop i))) := by
  intro n
  induction n with
  | zero =>
    intro i hi k s hk h0 h1
    obtain ⟨k, rfl⟩ : ∃ k', k = k' + 1 := ⟨k - 1, by omega⟩
    rw [fact_Count.l0, if_neg (by omega), List.drop_of_length_le (by omega : b.length ≤ i), sumM_nil, Int.add_zero, W64_is]
    congr 1
    omega
  | succ n ih =>
    intro i hi k s hk h0 h1
    obtain ⟨k, rfl⟩ : ∃ k', k = k' + 1 := ⟨k - 1, by omega⟩
    have hil : i < b.length := by omega
    have e : wrap64 ((i : Int) + 1) = ((i + 1 : Nat) : Int) := by unfold wrap64; omega
    rw [fact_Count.l0, if_pos (by omega), if_pos (by omega), if_pos (by rw [List.length_map]; omega), rd40_s b i hil, e]
    have hw : IntKind.u64.wrap (s + (s40 b[i]).f1) = W64 (s + b[i].2) := rfl
    rw [hw, ih (i + 1) (by omega) k _ (by omega) (by rw [W64_is]; omega) (by rw [W64_is]; omega), drop_sum b i hil]
    congr 1
    simp only [W64_is]
    omega
theorem count_is (b : List M) (hl : b.length < 4611686018427387904) (k : Nat) (hk : b.length + 1 ≤ k) : fact_Count.f k (b.map s40) = some (W64 (sumM b)) := by
  unfold fact_Count.f
  have h := count_loop b hl b.length 0 (by omega) k 0 hk (Int.le_refl _) (by decide)
  rw [List.drop_zero, Int.zero_add] at h
  rw [List.length_map]
  exact h
theorem sum_ones (l : List S27) : sumM (l.map fun x => (((x.f0, x.f1, x.f2), 1) : M)) = (l.length : Int) := by
  induction l with
  | nil => rfl
  | cons x l ih => rw [List.map_cons, sumM_cons, ih, List.length_cons]; simp only; omega
end Go.Proofs.Ytfeeahjaeapkoaa.Ext
end

section
namespace Go.Proofs.Ytfeeahjaeapkoaa.Ext
set_option linter.unusedVariables false
set_option linter.unusedSimpArgs false
open Go.RowKit Go.Proofs.YtfeeahjaeapkoaaW.PrintWords Go.Proofs.Ytfeeahjaeapkoaa.P Go.Proofs.Ytfeeahjaeapkoaa.Lib
theorem fC_le {a b c : F} (h1 : fC a b ≤ 0) (h2 : fC b c ≤ 0) : fC a c ≤ 0 := by
  have v1 := fC_vals a b
  have v2 := fC_vals b c
  by_cases e1 : fC a b = 0
  · rw [fC_eq e1]; exact h2
  · by_cases e2 : fC b c = 0
    · rw [← fC_eq e2]; exact h1
    · have := fC_trans (a := a) (b := b) (c := c) (by omega) (by omega)
      omega
theorem fC_ge {a b c : F} (h1 : fC a b ≥ 0) (h2 : fC b c ≥ 0) : fC a c ≥ 0 := by
  have e1 := fC_anti a b
  have e2 := fC_anti b c
  have e3 := fC_anti a c
  have := fC_le (a := c) (b := b) (c := a) (by omega) (by omega)
  omega
def facts27 (l : List S27) : List M := l.map m27
theorem cmp_s40 (x y : M) (hx : Small x) (k : Nat) (hk : 26388279066629 ≤ k) : fact_Compare.f k (s40 x).f0.f0 (s40 x).f0.f1 (s40 x).f0.f2 (s40 y).f0.f0 (s40 y).f0.f1 (s40 y).f0.f2 = some (fC x.1 y.1) := by
  have h1 := hx.1
  have h2 := hx.2
  exact compare_is x.1.1 y.1.1 x.1.2.1 y.1.2.1 x.1.2.2 y.1.2.2 (by omega) (by omega) k (by omega)
theorem orders_loop (l : List S27) (b : List M) (hs : Strict b) (hsm : ∀ x ∈ b, Small x) (hl : b.length < 4611686018427387904) (hll : l.length < 4611686018427387904) (hsum : W64 (sumM b) = (l.length : Int)) : ∀ (n i : Nat), i + 1 + n = b.length ∨ (n = 0 ∧ b.length ≤ i + 1) → ∀ k, n + 26388279066630 + b.length ≤ k → gristmilllaw04_FactOrders.l0 k l (b.map s40) ((i + 1 : Nat) : Int) = some true := by
  intro n
  have hc : ∀ k, b.length + 1 ≤ k → (fact_Count.f k (b.map s40)).bind (fun t176 => some (t176 == IntKind.u64.wrap (l.length : Int))) = some true := fun k hk => by
    rw [count_is b hl k hk, Option.bind_some, hsum, show IntKind.u64.wrap (l.length : Int) = (l.length : Int) from wraps_u64 _ (by omega) (by omega)]
    simp
  induction n with
  | zero =>
    intro i hi k hk
    obtain ⟨k, rfl⟩ : ∃ k', k = k' + 1 := ⟨k - 1, by omega⟩
    rw [gristmilllaw04_FactOrders.l0, if_neg (by rw [List.length_map]; omega)]
    exact hc k (by omega)
  | succ n ih =>
    intro i hi k hk
    obtain ⟨k, rfl⟩ : ∃ k', k = k' + 1 := ⟨k - 1, by omega⟩
    have hil : i + 1 < b.length := by omega
    have e0 : wrap64 (((i + 1 : Nat) : Int) - 1) = (i : Int) := by unfold wrap64; omega
    have e : wrap64 (((i + 1 : Nat) : Int) + 1) = ((i + 1 + 1 : Nat) : Int) := by unfold wrap64; omega
    rw [gristmilllaw04_FactOrders.l0, if_pos (by rw [List.length_map]; omega), e0, e, if_pos (by omega), if_pos (by rw [List.length_map]; omega), if_pos (by omega), rd40_s b i (by omega), rd40_s b (i + 1) hil]
    rw [cmp_s40 b[i] b[i + 1] (hsm _ (List.getElem_mem _)) k (by omega), Option.bind_some]
    have hlt : fC b[i].1 b[i + 1].1 = -1 := List.pairwise_iff_getElem.1 hs i (i + 1) (by omega) hil (by omega)
    rw [hlt, if_neg (by decide)]
    exact ih (i + 1) (by omega) k (by omega)
theorem small_of {l : List S27} (hl : l.all small27 = true) : ∀ x ∈ facts27 l, Small x := fun x hx => by
  obtain ⟨y, hy, rfl⟩ := List.mem_map.1 hx
  have := List.all_eq_true.1 hl y hy
  unfold small27 at this
  simp only [Bool.and_eq_true, decide_eq_true_eq] at this
  exact this
theorem small_bag {l : List M} (hl : ∀ x ∈ l, Small x) : ∀ x ∈ bagOf l, Small x := fun x hx => by
  obtain ⟨z, hz, e⟩ := bagOf_mem hx
  unfold Small
  rw [e]
  exact hl z hz
theorem orders_j (l : List S27) (hl : l.length ≤ 1048576) (hs : l.all small27 = true) (k : Nat) (hk : 26388279066640 + 2097152 ≤ k) : gristmilllaw04_FactOrders.j0 k l false = some true := by
  obtain ⟨k, rfl⟩ : ∃ k', k = k' + 1 := ⟨k - 1, by omega⟩
  rw [gristmilllaw04_FactOrders.j0, if_neg (by decide)]
  have hb : fact_Bag.f l = some ((bagOf (facts27 l)).map s40) := if_pos ⟨by unfold sortK; omega, hs⟩
  rw [hb, Option.bind_some]
  have hlen : (bagOf (facts27 l)).length ≤ l.length := by have := bagOf_len (facts27 l); unfold facts27 at this ⊢; rwa [List.length_map] at this
  have hsum : W64 (sumM (bagOf (facts27 l))) = (l.length : Int) := by
    rw [sum_bagOf]
    have : sumM (facts27 l) = (l.length : Int) := sum_ones l
    rw [this, W64_is]
    omega
  have hgo := orders_loop l (bagOf (facts27 l)) (strict_bagOf _) (small_bag (small_of hs)) (by omega) (by omega) hsum
  by_cases h : 2 ≤ (bagOf (facts27 l)).length
  · exact hgo ((bagOf (facts27 l)).length - 1) 0 (by omega) k (by omega)
  · exact hgo 0 0 (by omega) k (by omega)
theorem orders_true (a b c : F) (l : List S27) (ha : Small (a, 0)) (hb : Small (b, 0)) (hl : l.length ≤ 1048576) (hs : l.all small27 = true) (k : Nat) (hk : 26388281163800 ≤ k) :
    gristmilllaw04_FactOrders.f k a.1 a.2.1 a.2.2 b.1 b.2.1 b.2.2 c.1 c.2.1 c.2.2 l = some true := by
  have h1 := ha.1
  have h2 := ha.2
  have h3 := hb.1
  have h4 := hb.2
  simp only at h1 h2 h3 h4
  have hj := orders_j l hl hs k (by omega)
  unfold gristmilllaw04_FactOrders.f gristmilllaw04_awake.f
  rw [compare_is a.1 b.1 a.2.1 b.2.1 a.2.2 b.2.2 (by omega) (by omega) k (by omega), compare_is b.1 c.1 b.2.1 c.2.1 b.2.2 c.2.2 (by omega) (by omega) k (by omega), compare_is a.1 c.1 a.2.1 c.2.1 a.2.2 c.2.2 (by omega) (by omega) k (by omega), compare_is b.1 a.1 b.2.1 a.2.1 b.2.2 a.2.2 (by omega) (by omega) k (by omega)]
  simp only [Option.bind_some, if_true]
  have ex : factC a.1 b.1 a.2.1 b.2.1 a.2.2 b.2.2 = fC a b := rfl
  have ey : factC b.1 c.1 b.2.1 c.2.1 b.2.2 c.2.2 = fC b c := rfl
  have ez : factC a.1 c.1 a.2.1 c.2.1 a.2.2 c.2.2 = fC a c := rfl
  have ew : factC b.1 a.1 b.2.1 a.2.1 b.2.2 a.2.2 = fC b a := rfl
  rw [ex, ey, ez, ew]
  have hle := @fC_le a b c
  have hge := @fC_ge a b c
  have htr := @fC_trans a b c
  have hw : wrap64 (-fC b a) = fC a b := by
    have := fC_anti a b
    have := fC_vals a b
    unfold wrap64
    omega
  rw [hw, if_pos rfl]
  have v1 := fC_vals a b
  have v2 := fC_vals b c
  have v3 := fC_vals a c
  generalize fC a b = x at *
  generalize fC b c = y at *
  generalize fC a c = z at *
  rcases v1 with rfl | rfl | rfl <;> rcases v2 with rfl | rfl | rfl <;> rcases v3 with rfl | rfl | rfl <;> first | (exfalso; have h1 := hle (by decide) (by decide); omega) | (exfalso; have h1 := hge (by decide) (by decide); omega) | (exfalso; have h1 := htr rfl rfl; omega) | (simpa using hj)
end Go.Proofs.Ytfeeahjaeapkoaa.Ext
end

section
namespace Go.Proofs.Ytfeeahjaeapkoaa.Ext
set_option linter.unusedVariables false
set_option linter.unusedSimpArgs false
open Go.RowKit Go.Proofs.YtfeeahjaeapkoaaW.PrintWords
open Go.ChangeShapes Go.WideShapes Go.ChangeAt Go.Deep
def Opens (P : Program) {α : Type} (d : Kd α) (t : TypeId) (Q : α → Prop) : Prop :=
  ∀ (H : Type) (enc : TypeId × Value → H) (W : World) (base : Nat) (held : Bool) (fuel : Nat) (cs : List Value) (x : DataW H × List MemPlace),
    DataW.trod enc P W base (fun _ => true) held fuel t cs = some x → (∀ n ∈ x.1.weights P t, n ≤ reachBytes) → ∃ v, d.K W v cs ∧ Q v
def OpensF (P : Program) {α : Type} (d : Kd α) (o : Nat) (fs : List Field) (Q : α → Prop) : Prop :=
  ∀ (H : Type) (enc : TypeId × Value → H) (W : World) (base : Nat) (held : Bool) (n : Nat) (cs : List Value) (xs : List (DataW H × List MemPlace)),
    cs.length = o + d.sz → xs.length = fs.length →
    (∀ (i : Nat) (f : Field), fs[i]? = some f → DataW.trod enc P W base (fun _ => true) held n f.type ((cs.drop f.offset).take (P.cellsOf f.type)) = xs[i]?) →
    (∀ n ∈ DataW.weightsEach P (fs.map (·.type)) (xs.map (·.1)), n ≤ reachBytes) → ∃ v, d.K W v (cs.drop o) ∧ Q v
theorem opens_int {P : Program} {t : TypeId} {k : IntKind} (ht : P.underlying t = some (.int k)) : Opens P (Kd.int k) t (fun n => (Lit.int k n).wf = true) := by
  intro H enc W base held fuel cs x h _
  obtain ⟨n, rfl, _, hw⟩ := DataW.trod_int ht h
  exact ⟨n, rfl, hw⟩
theorem opens_string {P : Program} {t : TypeId} (ht : P.underlying t = some .string) : Opens P Kd.string t (fun s => s.size ≤ reachBytes) := by
  intro H enc W base held fuel cs x h hw
  obtain ⟨s, rfl, rfl, _⟩ := DataW.trod_string ht h
  refine ⟨s, rfl, ?_⟩
  have := hw s.data.toList.length (by simp [DataW.weights])
  simpa using this
theorem weights_all {H : Type} {P : Program} {e : TypeId} {d : DataW H} : ∀ {ds : List (DataW H)}, d ∈ ds → ∀ n ∈ d.weights P e, n ∈ DataW.weightsAll P e ds
  | [], h, _, _ => by cases h
  | d0 :: ds, h, n, hn => by
    simp only [DataW.weightsAll, List.mem_append]
    rcases List.mem_cons.1 h with rfl | h
    · exact .inl hn
    · exact .inr (weights_all h n hn)
theorem opens_slice {P : Program} {α : Type} {d : Kd α} {t e : TypeId} {ek : Nat} {Q : α → Prop} (ht : P.underlying t = some (.slice e)) (hd : Opens P d e Q) (hc : P.cellsOf e = d.sz) :
    Opens P (Kd.slice ek d) t (fun l => (∀ x ∈ l, Q x) ∧ l.length * P.bytesOf e ≤ reachBytes) := by
  intro H enc W base held fuel cs x h hw
  rcases open_slice ht h with ⟨rfl, _⟩ | ⟨a, len, cap, m, n, D, Pl, rfl, hb, hl, hm, hmm, rfl, hx⟩
  · exact ⟨[], ⟨none, 0, rfl, Nat.le_refl _, Kd.C_nil _ _⟩, by simp, by simp⟩
  have hml : len ≤ m := by rw [hmm]; simpa using hl
  have hat : ∀ i, i < len → ∃ v cs', d.K W v cs' ∧ Q v ∧ W.cells? base (a.add (i * P.cellsOf e)) (P.cellsOf e) = some cs' := by
    intro i hi
    obtain ⟨cs', h1, h2⟩ := hx i (Nat.lt_of_lt_of_le hi hml)
    obtain ⟨v, hv, hq⟩ := hd H enc W base held n cs' _ h2 (fun n hn => hw n (by
      simp only [DataW.weights, ht, List.mem_cons, List.mem_append]
      exact .inr (.inl (weights_all (List.mem_map.2 ⟨i, by simpa using hi, rfl⟩) n hn))))
    exact ⟨v, cs', hv, hq, h1⟩
  have hl2 : ∃ l : List α, l.length = len ∧ ∀ i v, l[i]? = some v → ∃ cs', d.K W v cs' ∧ Q v ∧ W.cells? base (a.add (i * P.cellsOf e)) (P.cellsOf e) = some cs' := by
    clear hw hx hmm hml hm hl h
    induction len with
    | zero => exact ⟨[], rfl, fun i v h => by simp at h⟩
    | succ k ih =>
      obtain ⟨l, hl, hr⟩ := ih (fun i hi => hat i (by omega))
      obtain ⟨v, cs', h1, h2, h3⟩ := hat k (by omega)
      refine ⟨l ++ [v], by simp [hl], fun i u hu => ?_⟩
      by_cases hi : i < l.length
      · rw [List.getElem?_append_left hi] at hu
        exact hr i u hu
      · rw [List.getElem?_append_right (by omega)] at hu
        have hi0 : i - l.length = 0 := by
          rcases hz : i - l.length with _ | q
          · rfl
          · rw [hz] at hu; simp at hu
        rw [hi0] at hu
        simp only [List.getElem?_cons_zero, Option.some.injEq] at hu
        subst hu
        have : i = k := by omega
        subst this
        exact ⟨cs', h1, h2, h3⟩
  obtain ⟨l, rfl, hr⟩ := hl2
  refine ⟨l, ⟨some a, cap, rfl, hl, rfl, Nat.le_trans hl (by simpa [maxLen] using hm), fun _ => ⟨a, rfl, fun j p hj => ?_⟩⟩, ?_, ?_⟩
  · obtain ⟨cs', h1, _, h3⟩ := hr j p hj
    obtain ⟨_, hlen, hcell⟩ := World.cells?_some h3
    refine ⟨cs', d.K_len h1, h1, fun i u hu => ?_⟩
    have hi : i < P.cellsOf e := by have := (List.getElem?_eq_some_iff.1 hu).1; omega
    have := hcell i hi
    rw [Go.Deep.add_add, hu, hc] at this
    exact this
  · intro y hy
    obtain ⟨i, hi⟩ := List.mem_iff_getElem?.1 hy
    obtain ⟨_, _, h2, _⟩ := hr i y hi
    exact h2
  · have := hw (((List.range l.length).map D).length + ((List.range (m - l.length)).map fun j => D (l.length + j)).length |> (· * P.bytesOf e)) (by
      simp [DataW.weights, ht])
    simp only [List.length_map, List.length_range] at this
    exact Nat.le_trans (Nat.mul_le_mul_right _ (Nat.le_add_right _ _)) this
theorem opensF_one {P : Program} {α : Type} {d : Kd α} {o : Nat} {f : Field} {Q : α → Prop} (hd : Opens P d f.type Q) (ho : f.offset = o) (hc : P.cellsOf f.type = d.sz) : OpensF P d o [f] Q := by
  intro H enc W base held n cs xs hl hx ht hw
  match xs, hx with
  | [x0], _ =>
    have h0 := ht 0 f rfl
    rw [ho, hc, List.take_of_length_le (by rw [List.length_drop]; omega)] at h0
    exact hd H enc W base held n _ x0 h0 (fun n hn => hw n (by simpa [DataW.weightsEach] using hn))
theorem opensF_cons {P : Program} {α β : Type} {d : Kd α} {d1 : Kd β} {o : Nat} {f : Field} {fs : List Field} {Q : α → Prop} {Q1 : β → Prop} (hd : Opens P d f.type Q) (ho : f.offset = o) (hc : P.cellsOf f.type = d.sz)
    (hr : OpensF P d1 (o + d.sz) fs Q1) : OpensF P (Kd.pair d d1) o (f :: fs) (fun x => Q x.1 ∧ Q1 x.2) := by
  intro H enc W base held n cs xs hl hx ht hw
  match xs, hx with
  | x0 :: xs, hx =>
    have h0 := ht 0 f rfl
    rw [ho, hc] at h0
    have hlp : cs.length = o + (d.sz + d1.sz) := hl
    obtain ⟨v, hv, hq⟩ := hd H enc W base held n _ x0 h0 (fun n hn => hw n (by
      simp only [List.map_cons, DataW.weightsEach, List.mem_append]; exact .inl hn))
    obtain ⟨v1, hv1, hq1⟩ := hr H enc W base held n cs xs (by omega) (by simpa using hx) (fun i g hg => by simpa using ht (i + 1) g (by simpa using hg)) (fun n hn => hw n (by
      simp only [List.map_cons, DataW.weightsEach, List.mem_append]; exact .inr hn))
    refine ⟨(v, v1), ⟨_, _, ?_, hv, hv1⟩, hq, hq1⟩
    rw [← List.drop_drop, List.take_append_drop]
theorem opens_struct {P : Program} {α : Type} {d : Kd α} {t : TypeId} {fs : Array Field} {Q : α → Prop} (ht : P.underlying t = some (.struct fs)) (hc : P.cellsOf t = d.sz) (hd : OpensF P d 0 fs.toList Q) : Opens P d t Q := by
  intro H enc W base held fuel cs x h hw
  obtain ⟨xs, n, _, rfl, hl, hlen, hf⟩ := DataW.trod_struct ht h
  have := hd H enc W base held n cs xs (by omega) (by simpa using hlen) (fun i f hi => hf i f (by simpa using hi)) (fun n hn => hw n (by simpa [DataW.weights, ht] using hn))
  simpa using this
theorem opens_iso {P : Program} {α β : Type} {d : Kd α} {t : TypeId} {Q : α → Prop} (f : β → α) (g : α → β) (hfg : ∀ a, f (g a) = a) (h : Opens P d t Q) : Opens P (Kd.iso d f) t (fun x => Q (f x)) := by
  intro H enc W base held fuel cs x hx hw
  obtain ⟨v, hv, hq⟩ := h H enc W base held fuel cs x hx hw
  refine ⟨g v, ?_, ?_⟩
  · show d.K W (f (g v)) cs
    rw [hfg]; exact hv
  · show Q (f (g v))
    rw [hfg]; exact hq
theorem opens_mono {P : Program} {α : Type} {d : Kd α} {t : TypeId} {Q Q' : α → Prop} (h : Opens P d t Q) (hq : ∀ a, Q a → Q' a) : Opens P d t Q' := by
  intro H enc W base held fuel cs x hx hw
  obtain ⟨v, hv, h1⟩ := h H enc W base held fuel cs x hx hw
  exact ⟨v, hv, hq v h1⟩
theorem opened {P : Program} {α : Type} {d : Kd α} {t : TypeId} {Q : α → Prop} (h : Opens P d t Q) {H : Type} {enc : TypeId × Value → H} {W : World} {base : Nat} {held : Bool} {v : Value} {x : DataW H} {p : List MemPlace}
    (ht : DataW.Trod enc P W base (fun _ => true) held t v x p) {ts : List TypeId} {ds : List (DataW H)} (hsz : (DataW.weightsEach P ts ds).all (· ≤ reachBytes) = true) (j : Nat) (hj : ts[j]? = some t) (hd : ds[j]? = some x) :
    ∃ a, d.K W a v.cells.toList ∧ Q a := by
  obtain ⟨fuel, hf⟩ := ht
  refine h H enc W base held fuel _ _ hf (fun n hn => ?_)
  have := List.all_eq_true.1 hsz n (DataW.weights_mem_each hj hd n hn)
  simpa using this
theorem open_struct {P : Program} {α : Type} {d : Kd α} {t : TypeId} {Q : α → Prop} (O : Opens P d t Q) {fs : Array Field} (hs : P.underlying t = some (.struct fs)) {H : Type} {enc : TypeId × Value → H} {W : World} {base b0 : Nat} {held : Bool} {r : Reach} {v : Value}
    {x : DataW H} {p : List MemPlace} (hv : Value.okWide P W r b0 t v) (ht : DataW.Trod enc P W base (fun _ => true) held t v x p) {ts : List TypeId} {ds : List (DataW H)} (hsz : (DataW.weightsEach P ts ds).all (· ≤ reachBytes) = true)
    (j : Nat) (hj : ts[j]? = some t) (hd : ds[j]? = some x) : ∃ a cs, v = .agg (List.toArray cs) ∧ d.K W a cs ∧ Q a := by
  obtain ⟨a, hK, hQ⟩ := opened O ht hsz j hj hd
  obtain ⟨cs, rfl, _⟩ := okWide_struct hs hv
  exact ⟨a, cs.toList, by rw [Array.toArray_toList], hK, hQ⟩
theorem open_row {P : Program} {α : Type} {d : Kd α} {t e : TypeId} {Q : α → Prop} (O : Opens P d e Q) (hs : P.underlying t = some (.slice e)) (hc : P.cellsOf e = d.sz) {H : Type} {enc : TypeId × Value → H} {W : World} {base b0 : Nat} {held : Bool} {r : Reach} {v : Value}
    {x : DataW H} {p : List MemPlace} (hv : Value.okWide P W r b0 t v) (ht : DataW.Trod enc P W base (fun _ => true) held t v x p) {ts : List TypeId} {ds : List (DataW H)} (hsz : (DataW.weightsEach P ts ds).all (· ≤ reachBytes) = true)
    (j : Nat) (hj : ts[j]? = some t) (hd : ds[j]? = some x) : ∃ A l c, v = .slice A l.length c ∧ l.length ≤ c ∧ d.C W A l.length l ∧ (∀ y ∈ l, Q y) ∧ l.length * P.bytesOf e ≤ reachBytes := by
  obtain ⟨l, hK, hQ, hb⟩ := opened (opens_slice (ek := 0) hs O hc) ht hsz j hj hd
  obtain ⟨A, len, cap, rfl⟩ := okWide_slice hs hv
  obtain ⟨A', c, hcs, hl, hC⟩ := hK
  have hcs' : [Value.slice A len cap] = [Value.slice A' l.length c] := hcs
  injection hcs' with h1 _
  injection h1 with h2 h3 h4
  subst h2; subst h3; subst h4
  exact ⟨A, l, cap, rfl, hl, hC, hQ, hb⟩
end Go.Proofs.Ytfeeahjaeapkoaa.Ext
end

section
namespace Go.Proofs.Ytfeeahjaeapkoaa.Lib
set_option linter.unusedVariables false
set_option linter.unusedSimpArgs false
open Go.RowKit Go.Proofs.YtfeeahjaeapkoaaW.PrintWords
open Go.ChangeShapes Go.WideShapes Go.ChangeAt
theorem bulk_one {H : Type} (d : DataW H) : 1 ≤ Rows.uptoBulk d := by
  cases d with
  | lit l => cases l <;> simp [Rows.uptoBulk]
  | nil => simp [Rows.uptoBulk]
  | ptr d => simp [Rows.uptoBulk]
  | slice elems spare => simp [Rows.uptoBulk]
  | agg parts => simp [Rows.uptoBulk]
  | iface t d => simp [Rows.uptoBulk]
  | map entries => simp [Rows.uptoBulk]
  | held h => simp [Rows.uptoBulk]
theorem bulk_length {H : Type} (l : List (DataW H)) : l.length ≤ Rows.uptoBulkAll l := by
  induction l with
  | nil => simp [Rows.uptoBulkAll]
  | cons x r ih => have := bulk_one x; simp only [Rows.uptoBulkAll, List.length_cons]; omega
theorem bulk_slice {H : Type} (elems spare : List (DataW H)) : Rows.uptoBulk (.slice elems spare) = Rows.uptoBulkAll elems + Rows.uptoBulkAll spare + 1 := by
  simp only [Rows.uptoBulk]
theorem bulk_cons {H : Type} (x : DataW H) (r : List (DataW H)) : Rows.uptoBulkAll (x :: r) = Rows.uptoBulk x + Rows.uptoBulkAll r := by
  simp only [Rows.uptoBulkAll]
end Go.Proofs.Ytfeeahjaeapkoaa.Lib
end

section
namespace Go.Proofs.Ytfeeahjaeapkoaa.Lib
set_option linter.unusedVariables false
set_option linter.unusedSimpArgs false
open Go.RowKit Go.Proofs.YtfeeahjaeapkoaaW.PrintWords
open Go.ChangeShapes Go.WideShapes Go.ChangeAt Go.Deep
theorem bulk_entries {H : Type} (l : List (Lit × DataW H)) : l.length ≤ Rows.uptoBulkEntries l := by
  induction l with
  | nil => simp [Rows.uptoBulkEntries]
  | cons x r ih =>
    have : 1 ≤ Rows.uptoBulkEntry x := by
      obtain ⟨k, d⟩ := x
      have := bulk_one d
      cases k <;> simp only [Rows.uptoBulkEntry] <;> omega
    simp only [Rows.uptoBulkEntries, List.length_cons]
    omega
def goodT (P : Program) (N M : Nat) (t : TypeId) : Bool :=
  match P.underlying t with
  | some (.pointer e) => decide (e < N)
  | some (.slice e) => decide (e < N) && decide (P.bytesOf e ≤ M)
  | some (.struct fs) => fs.toList.all fun f => decide (f.type < N)
  | some (.array _ e) => decide (e < N)
  | some (.map k e) => decide (e < N) && (decide (P.bytesOf k ≤ M) && decide (P.bytesOf e ≤ M))
  | _ => true
section
variable {H : Type} {P : Program} {N M : Nat}
mutual
theorem weights_le (hM : ∀ t, t < N → goodT P N M t = true) (h1 : 1 ≤ M) : ∀ (d : DataW H) (t : TypeId), t < N → ∀ n ∈ d.weights P t, n ≤ Rows.uptoBulk d * (2 * M)
  | .lit l, t, ht, n, hn => by
    cases l with
    | string bytes =>
      simp only [DataW.weights, List.mem_singleton] at hn
      subst hn
      simp only [Rows.uptoBulk]
      exact Nat.le_trans (Nat.le_succ _) (Nat.le_mul_of_pos_right _ (by omega))
    | _ => simp [DataW.weights] at hn
  | .nil, t, ht, n, hn => by simp [DataW.weights] at hn
  | .ptr d, t, ht, n, hn => by
    simp only [DataW.weights] at hn
    have g := hM t ht
    unfold goodT at g
    split at hn
    · rename_i e he
      rw [he] at g
      have := weights_le hM h1 d _ (of_decide_eq_true g) n hn
      simp only [Rows.uptoBulk]
      exact Nat.le_trans this (Nat.mul_le_mul_right _ (Nat.le_succ _))
    · simp at hn
  | .slice elems spare, t, ht, n, hn => by
    simp only [DataW.weights] at hn
    have g := hM t ht
    unfold goodT at g
    split at hn
    · rename_i e he
      rw [he] at g
      simp only [Bool.and_eq_true, decide_eq_true_eq] at g
      rw [bulk_slice]
      rcases List.mem_cons.1 hn with rfl | hn
      · have a1 := bulk_length elems
        have a2 := bulk_length spare
        exact Nat.mul_le_mul (by omega) (Nat.le_trans g.2 (by omega))
      · rcases List.mem_append.1 hn with hn | hn
        · exact Nat.le_trans (weights_all_le hM h1 elems e g.1 n hn) (Nat.mul_le_mul_right _ (by omega))
        · exact Nat.le_trans (weights_all_le hM h1 spare e g.1 n hn) (Nat.mul_le_mul_right _ (by omega))
    · simp at hn
  | .agg parts, t, ht, n, hn => by
    simp only [DataW.weights] at hn
    simp only [Rows.uptoBulk]
    have g := hM t ht
    unfold goodT at g
    split at hn
    · rename_i fs he
      rw [he] at g
      exact Nat.le_trans (weights_each_le hM h1 parts _ (fun u hu => by
        obtain ⟨f, hf, rfl⟩ := List.mem_map.1 hu
        exact of_decide_eq_true (List.all_eq_true.1 g f hf)) n hn) (Nat.mul_le_mul_right _ (Nat.le_succ _))
    · rename_i e he
      rw [he] at g
      exact Nat.le_trans (weights_all_le hM h1 parts _ (of_decide_eq_true g) n hn) (Nat.mul_le_mul_right _ (Nat.le_succ _))
    · simp at hn
  | .iface _ _, t, ht, n, hn => by simp [DataW.weights] at hn
  | .map entries, t, ht, n, hn => by
    simp only [DataW.weights] at hn
    simp only [Rows.uptoBulk]
    have g := hM t ht
    unfold goodT at g
    split at hn
    · rename_i k e he
      rw [he] at g
      simp only [Bool.and_eq_true, decide_eq_true_eq] at g
      rcases List.mem_cons.1 hn with rfl | hn
      · have a1 := bulk_entries entries
        have b1 := g.2.1
        have b2 := g.2.2
        exact Nat.mul_le_mul (by omega) (by omega)
      · exact Nat.le_trans (weights_entries_le hM h1 entries e g.1 n hn) (Nat.mul_le_mul_right _ (Nat.le_succ _))
    · simp at hn
  | .held _, t, ht, n, hn => by simp [DataW.weights] at hn
theorem weights_all_le (hM : ∀ t, t < N → goodT P N M t = true) (h1 : 1 ≤ M) : ∀ (l : List (DataW H)) (t : TypeId), t < N → ∀ n ∈ DataW.weightsAll P t l, n ≤ Rows.uptoBulkAll l * (2 * M)
  | [], t, ht, n, hn => by simp [DataW.weightsAll] at hn
  | d :: r, t, ht, n, hn => by
    simp only [DataW.weightsAll, List.mem_append] at hn
    rw [bulk_cons]
    rcases hn with hn | hn
    · exact Nat.le_trans (weights_le hM h1 d t ht n hn) (Nat.mul_le_mul_right _ (Nat.le_add_right _ _))
    · exact Nat.le_trans (weights_all_le hM h1 r t ht n hn) (Nat.mul_le_mul_right _ (Nat.le_add_left _ _))
theorem weights_each_le (hM : ∀ t, t < N → goodT P N M t = true) (h1 : 1 ≤ M) : ∀ (l : List (DataW H)) (ts : List TypeId), (∀ t ∈ ts, t < N) → ∀ n ∈ DataW.weightsEach P ts l, n ≤ Rows.uptoBulkAll l * (2 * M)
  | [], ts, ht, n, hn => by cases ts <;> simp [DataW.weightsEach] at hn
  | d :: r, [], ht, n, hn => by simp [DataW.weightsEach] at hn
  | d :: r, t :: ts, ht, n, hn => by
    simp only [DataW.weightsEach, List.mem_append] at hn
    rw [bulk_cons]
    rcases hn with hn | hn
    · exact Nat.le_trans (weights_le hM h1 d t (ht t (by simp)) n hn) (Nat.mul_le_mul_right _ (Nat.le_add_right _ _))
    · exact Nat.le_trans (weights_each_le hM h1 r ts (fun u hu => ht u (by simp [hu])) n hn) (Nat.mul_le_mul_right _ (Nat.le_add_left _ _))
theorem weights_entries_le (hM : ∀ t, t < N → goodT P N M t = true) (h1 : 1 ≤ M) : ∀ (l : List (Lit × DataW H)) (t : TypeId), t < N → ∀ n ∈ DataW.weightsEntries P t l, n ≤ Rows.uptoBulkEntries l * (2 * M)
  | [], t, ht, n, hn => by simp [DataW.weightsEntries] at hn
  | x :: r, t, ht, n, hn => by
    simp only [DataW.weightsEntries, List.mem_append] at hn
    simp only [Rows.uptoBulkEntries]
    rcases hn with hn | hn
    · exact Nat.le_trans (weights_entry_le hM h1 x t ht n hn) (Nat.mul_le_mul_right _ (Nat.le_add_right _ _))
    · exact Nat.le_trans (weights_entries_le hM h1 r t ht n hn) (Nat.mul_le_mul_right _ (Nat.le_add_left _ _))
theorem weights_entry_le (hM : ∀ t, t < N → goodT P N M t = true) (h1 : 1 ≤ M) : ∀ (x : Lit × DataW H) (t : TypeId), t < N → ∀ n ∈ DataW.weightsEntry P t x, n ≤ Rows.uptoBulkEntry x * (2 * M)
  | (k, d), t, ht, n, hn => by
    have h := weights_le hM h1 d t ht
    cases k with
    | string bytes =>
      simp only [DataW.weightsEntry, List.mem_cons] at hn
      simp only [Rows.uptoBulkEntry]
      rcases hn with rfl | hn
      · exact Nat.le_trans (show bytes.length ≤ bytes.length + Rows.uptoBulk d + 1 by omega) (Nat.le_mul_of_pos_right _ (by omega))
      · exact Nat.le_trans (h n hn) (Nat.mul_le_mul_right _ (by omega))
    | _ =>
      simp only [DataW.weightsEntry] at hn
      simp only [Rows.uptoBulkEntry]
      exact Nat.le_trans (h n hn) (Nat.mul_le_mul_right _ (by omega))
end
end
theorem good_all {P : Program} {N M : Nat} (h : (List.range N).all (goodT P N M) = true) : ∀ t, t < N → goodT P N M t = true := fun t ht => List.all_eq_true.1 h t (List.mem_range.2 ht)
theorem upto_sized {H : Type} {P : Program} {N M : Nat} (hM : (List.range N).all (goodT P N M) = true) (h1 : 1 ≤ M) (h2 : M ≤ 33554432) {ds : List (DataW H)} (hk : Rows.uptoSmall H ds = true) (ts : List TypeId) (hts : ts.all (fun t => decide (t < N)) = true) : (DataW.weightsEach P ts ds).all (· ≤ reachBytes) = true := by
  have hb : Rows.uptoBulkAll ds ≤ 1048576 := of_decide_eq_true hk
  rw [List.all_eq_true]
  intro n hn
  have h3 := weights_each_le (good_all hM) h1 ds ts (fun t ht => of_decide_eq_true (List.all_eq_true.1 hts t ht)) n hn
  have h4 : Rows.uptoBulkAll ds * (2 * M) ≤ 1048576 * 67108864 := Nat.mul_le_mul hb (by omega)
  have h5 : 1048576 * 67108864 ≤ reachBytes := by decide
  exact decide_eq_true (by omega)
theorem bulk_row {H : Type} {enc : TypeId × Value → H} {P : Program} {W : World} {base : Nat} {held : Bool} {t e : TypeId} {a : Option Addr} {len cap : Nat} {d : DataW H} {p : List MemPlace}
    (ht : P.underlying t = some (.slice e)) (h : DataW.Trod enc P W base (fun _ => true) held t (.slice a len cap) d p) : len + 1 ≤ Rows.uptoBulk d := by
  obtain ⟨fuel, hf⟩ := h
  rcases open_slice ht hf with ⟨hcs, hx⟩ | ⟨x, l, c, m, n, D, Pl, hcs, _, _, _, _, hx, _⟩
  · simp [Value.cells] at hcs
    obtain ⟨rfl, rfl, rfl⟩ := hcs
    have := bulk_one d
    omega
  · simp [Value.cells] at hcs
    obtain ⟨rfl, rfl, rfl⟩ := hcs
    simp only [Prod.mk.injEq] at hx
    have h1 := bulk_slice (H := H) ((List.range len).map D) ((List.range (m - len)).map fun j => D (len + j))
    rw [← hx.1] at h1
    have h2 := bulk_length (H := H) ((List.range len).map D)
    simp only [List.length_map, List.length_range] at h2
    omega
end Go.Proofs.Ytfeeahjaeapkoaa.Lib
end

section
namespace Go.Proofs.Ytfeeahjaeapkoaa.Ext
set_option linter.unusedVariables false
open Go.RowKit Go.Proofs.YtfeeahjaeapkoaaW.PrintWords Go.Proofs.Ytfeeahjaeapkoaa.P
theorem opens_s27 : Opens Try.prog k27 27 (fun x => x.f1.length ≤ 8796093022208 ∧ x.f2.length ≤ 17592186044416) := by
  refine opens_mono (opens_iso (fun x : S27 => (x.f0, x.f1, x.f2)) (fun p => ⟨p.1, p.2.1, p.2.2⟩) (fun _ => rfl) (Q := fun x => (Lit.int .i64 x.1).wf = true ∧ ((∀ s ∈ x.2.1, s.size ≤ reachBytes) ∧ x.2.1.length * Try.prog.bytesOf 9 ≤ reachBytes) ∧ ((∀ n ∈ x.2.2, (Lit.int .i64 n).wf = true) ∧ x.2.2.length * Try.prog.bytesOf 2 ≤ reachBytes)) ?_) (fun x h => ?_)
  · refine opens_struct Try.underlying27 (by kernel_rfl) ?_
    show OpensF _ (Kd.pair _ (Kd.pair _ _)) 0 [_, _, _] _
    exact (opensF_cons (opens_int (k := .i64) (by kernel_rfl)) (by rfl) (by kernel_rfl)
      (opensF_cons (opens_slice (by kernel_rfl) (opens_string (t := 9) (by kernel_rfl)) (by kernel_rfl)) (by rfl) (by kernel_rfl)
        (opensF_one (opens_slice (by kernel_rfl) (opens_int (t := 2) (k := .i64) (by kernel_rfl)) (by kernel_rfl)) (by rfl) (by kernel_rfl))))
  · have h1 := h.2.1.2
    have h2 := h.2.2.2
    rw [show Try.prog.bytesOf 9 = 16 by kernel_rfl] at h1
    rw [show Try.prog.bytesOf 2 = 8 by kernel_rfl] at h2
    have h3 := reachBytes_lt
    have h4 : (2 : Nat) ^ 47 = 140737488355328 := by decide
    have e1 : (x.f1 : List ByteArray).length * 16 ≤ reachBytes := h1
    have e2 : (x.f2 : List Int).length * 8 ≤ reachBytes := h2
    omega
theorem fact_open2 {W : World} {x : S27} {cs : List Value} (h : k27.K W x cs) : ∃ A c A2 c2, cs = [.int .i64 x.f0, .slice A x.f1.length c, .slice A2 x.f2.length c2] ∧ x.f1.length ≤ c ∧ Kd.string.C W A x.f1.length x.f1 ∧ x.f2.length ≤ c2 ∧ (Kd.int .i64).C W A2 x.f2.length x.f2 := k27_open h
theorem bytesB : (List.range Try.prog.types.size).all (Lib.goodT Try.prog Try.prog.types.size 4096) = true := by kernel_rfl
end Go.Proofs.Ytfeeahjaeapkoaa.Ext
end
