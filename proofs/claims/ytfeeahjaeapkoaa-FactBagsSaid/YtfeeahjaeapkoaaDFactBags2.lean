/- Texts of this repo, joined, without what this claim does not use: P16, P22. -/
import Derived.Test.YtfeeahjaeapkoaaDFactBags1
section
namespace Go.Proofs.Ytfeeahjaeapkoaa.P
open Go.RowKit Go.Proofs.YtfeeahjaeapkoaaW.PrintWords Go.Proofs.YtfeeahjaeapkoaaW.PrintLast Go.Proofs.YtfeeahjaeapkoaaW.PrintMore
attribute [local go_sem] max2_int min2_int max_two min_two max_three min_three max_four min_four   -- for this text's walks alone
set_option linter.unusedVariables false
set_option linter.unusedSimpArgs false
open Go.Proofs.Ytfeeahjaeapkoaa.Ext (q1_ q2_ q3_ bk_ bw_ sz_ ne_ bx_)
attribute [local go_sem high] Go.Proofs.Ytfeeahjaeapkoaa.Ext.gtr_str Go.Proofs.Ytfeeahjaeapkoaa.Ext.leq_str Go.Proofs.Ytfeeahjaeapkoaa.Ext.geq_str
mutual
def gristmillref04_Compare.l0 : Nat → Int → Int → List ByteArray → List Int → Int → List ByteArray → List Int → Option (Int)
 | 0, _, _, _, _, _, _, _ => none
 | k + 1, x5, x134000, x134001, x134002, x135000, x135001, x135002 => if x5 < (x134001.length : Int) then (gristmillref04_Compare.j1 k x5 true x134000 x134001 x134002 x135000 x135001 x135002) else (gristmillref04_Compare.j1 k x5 (decide (x5 < (x135001.length : Int))) x134000 x134001 x134002 x135000 x135001 x135002)
def gristmillref04_Compare.j1 : Nat → Int → Bool → Int → List ByteArray → List Int → Int → List ByteArray → List Int → Option (Int)
 | 0, _, _, _, _, _, _, _, _ => none
 | k + 1, x5, x28, x134000, x134001, x134002, x135000, x135001, x135002 => if x28 = true then (if x5 ≥ (x134001.length : Int) then (some (-1)) else (if x5 ≥ (x135001.length : Int) then (some 1) else (if 0 ≤ x5 then (if x5 < (x134001.length : Int) then (if x5 < (x135001.length : Int) then (if (Op.bytesLess ((rdOf ByteArray.empty x134001 x5).toList) ((rdOf ByteArray.empty x135001 x5).toList)) = true then (some (-1)) else (if (Op.bytesLess ((rdOf ByteArray.empty x135001 x5).toList) ((rdOf ByteArray.empty x134001 x5).toList)) = true then (some 1) else (gristmillref04_Compare.l0 k (wrap64 (x5 + 1)) x134000 x134001 x134002 x135000 x135001 x135002))) else (none)) else (none)) else (none)))) else (gristmillref04_Compare.l1 k 0 x134000 x134001 x134002 x135000 x135001 x135002)
def gristmillref04_Compare.l1 : Nat → Int → Int → List ByteArray → List Int → Int → List ByteArray → List Int → Option (Int)
 | 0, _, _, _, _, _, _, _ => none
 | k + 1, x6, x134000, x134001, x134002, x135000, x135001, x135002 => if x6 < (x134002.length : Int) then (gristmillref04_Compare.j3 k x6 true x134000 x134001 x134002 x135000 x135001 x135002) else (gristmillref04_Compare.j3 k x6 (decide (x6 < (x135002.length : Int))) x134000 x134001 x134002 x135000 x135001 x135002)
def gristmillref04_Compare.j3 : Nat → Int → Bool → Int → List ByteArray → List Int → Int → List ByteArray → List Int → Option (Int)
 | 0, _, _, _, _, _, _, _, _ => none
 | k + 1, x6, x74, x134000, x134001, x134002, x135000, x135001, x135002 => if x74 = true then (if x6 ≥ (x134002.length : Int) then (some (-1)) else (if x6 ≥ (x135002.length : Int) then (some 1) else (if 0 ≤ x6 then (if x6 < (x134002.length : Int) then (if x6 < (x135002.length : Int) then (if (rd x134002 x6) < (rd x135002 x6) then (some (-1)) else (if (rd x134002 x6) > (rd x135002 x6) then (some 1) else (gristmillref04_Compare.l1 k (wrap64 (x6 + 1)) x134000 x134001 x134002 x135000 x135001 x135002))) else (none)) else (none)) else (none)))) else (some 0)
end
def gristmillref04_Compare.f (k : Nat) (a0_0 : Int) (l0_1 : List ByteArray) (l0_2 : List Int) (a1_0 : Int) (l1_1 : List ByteArray) (l1_2 : List Int) : Option (Int) := if a0_0 < a1_0 then (some (-1)) else (if a0_0 > a1_0 then (some 1) else (gristmillref04_Compare.l0 k 0 a0_0 l0_1 l0_2 a1_0 l1_1 l1_2))
set_option maxHeartbeats 8000000 in
set_option maxRecDepth 100000 in
theorem gristmillref04_Compare.calls (k : Nat) (a0_0 : Int) (A0_1 : Option Addr) (c0_1 : Nat) (l0_1 : List ByteArray) (A0_2 : Option Addr) (c0_2 : Nat) (l0_2 : List Int) (a1_0 : Int) (A1_1 : Option Addr) (c1_1 : Nat) (l1_1 : List ByteArray) (A1_2 : Option Addr) (c1_2 : Nat) (l1_2 : List Int) (r : Int) (w : World) (hr0_1 : Kd.C Kd.string w A0_1 l0_1.length l0_1) (hc0_1 : l0_1.length ≤ c0_1) (hr0_2 : Kd.C (Kd.int .i64) w A0_2 l0_2.length l0_2) (hc0_2 : l0_2.length ≤ c0_2) (hr1_1 : Kd.C Kd.string w A1_1 l1_1.length l1_1) (hc1_1 : l1_1.length ≤ c1_1) (hr1_2 : Kd.C (Kd.int .i64) w A1_2 l1_2.length l1_2) (hc1_2 : l1_2.length ≤ c1_2) (h : gristmillref04_Compare.f k a0_0 l0_1 l0_2 a1_0 l1_1 l1_2 = some r) :
  Calls Try.prog 15 #[.agg #[.int .i64 a0_0, .slice A0_1 l0_1.length c0_1, .slice A0_2 l0_2.length c0_2], .agg #[.int .i64 a1_0, .slice A1_1 l1_1.length c1_1, .slice A1_2 l1_2.length c1_2]] w fun e w' => e = .returned (.int .i64 r) ∧ Below w.heap.size w w' := by
 have hu27 := Try.underlying27
 have HR0_1 := Aside0.mk hr0_1
 have HC0_1 := Aside0.mk hc0_1
 clear hr0_1 hc0_1
 have HR0_2 := Aside0.mk hr0_2
 have HC0_2 := Aside0.mk hc0_2
 clear hr0_2 hc0_2
 have HR1_1 := Aside0.mk hr1_1
 have HC1_1 := Aside0.mk hc1_1
 clear hr1_1 hc1_1
 have HR1_2 := Aside0.mk hr1_2
 have HC1_2 := Aside0.mk hc1_2
 clear hr1_2 hc1_2
 have HB := Aside0.mk (Below.refl w.heap.size w)
 have H : (if a0_0 < a1_0 then (some (-1)) else (if a0_0 > a1_0 then (some 1) else (gristmillref04_Compare.l0 k 0 a0_0 l0_1 l0_2 a1_0 l1_1 l1_2))) = some r := h
 clear h
 by_cases c3 : a0_0 < a1_0
 ·rw [if_pos c3] at H
  have c3b0 : decide (a0_0 < a1_0) = true := decide_eq_true c3
  clear c3
  obtain rfl := Option.some.inj H
  go_enter Try.func15, Try.ntmps15
  go_wp2_with (first | ((with_reducible refine gate_dst (N := 2) rfl ?_); (try (refine gate_guard (by rfl) ?_; dsimp only)); refine bx_ (N := 2) (cs := #[.int .i64 a0_0, .slice A0_1 l0_1.length c0_1, .slice A0_2 l0_2.length c0_2]) (t := 27) ?_; intro gb133 hg w4 hbox hb; have n0_ := Aside0.mk (below_step (bw_ HB.out) hb); have n1_ := Aside0.mk (hbox); have n2_ := Aside0.mk (sz_ hg (bw_ HB.out)); have n3_ := n2_; clear HB; have HB := n0_; have BK133 := n1_; have GW133 := n2_; have GE133 := n3_; clear n0_ n1_ n2_ n3_; clear hb hbox hg) | ((with_reducible refine gate_dst (N := 3) rfl ?_); (try (refine gate_guard (by rfl) ?_; dsimp only)); refine bx_ (N := 3) (cs := #[.int .i64 a1_0, .slice A1_1 l1_1.length c1_1, .slice A1_2 l1_2.length c1_2]) (t := 27) ?_; intro gb134 hg w5 hbox hb; have n0_ := Aside0.mk (blk_below (bk_ BK133.out) hb); have n1_ := Aside0.mk (below_step (bw_ HB.out) hb); have n2_ := Aside0.mk (hbox); have n3_ := Aside0.mk (sz_ hg (bw_ HB.out)); have n4_ := n3_; have n5_ := Aside0.mk (ne_ hg (blk_lt (bk_ BK133.out))); have n6_ := Aside0.mk n5_.out.symm; clear BK133 HB; have BK133 := n0_; have HB := n1_; have BK134 := n2_; have GW134 := n3_; have GE134 := n4_; have NB133_134 := n5_; have NB134_133 := n6_; clear n0_ n1_ n2_ n3_ n4_ n5_ n6_; clear hb hbox hg; have hnb6 := NB133_134.out; have hnc6 := NB134_133.out; have hcz7_0 : w5.cell? ⟨gb133, 0, none⟩ = some (.int .i64 a0_0) := (blk_cell BK133.out 0).trans rfl; have hcz7_1 : w5.cell? ⟨gb133, 1, none⟩ = some (.slice A0_1 l0_1.length c0_1) := (blk_cell BK133.out 1).trans rfl; have hcz7_2 : w5.cell? ⟨gb133, 2, none⟩ = some (.slice A0_2 l0_2.length c0_2) := (blk_cell BK133.out 2).trans rfl; have hfz7_0 := blk_frozen BK133.out 0; have hfz7_1 := blk_frozen BK133.out 1; have hfz7_2 := blk_frozen BK133.out 2; have hcz8_0 : w5.cell? ⟨gb134, 0, none⟩ = some (.int .i64 a1_0) := (blk_cell BK134.out 0).trans rfl; have hcz8_1 : w5.cell? ⟨gb134, 1, none⟩ = some (.slice A1_1 l1_1.length c1_1) := (blk_cell BK134.out 1).trans rfl; have hcz8_2 : w5.cell? ⟨gb134, 2, none⟩ = some (.slice A1_2 l1_2.length c1_2) := (blk_cell BK134.out 2).trans rfl; have hfz8_0 := blk_frozen BK134.out 0; have hfz8_1 := blk_frozen BK134.out 1; have hfz8_2 := blk_frozen BK134.out 2))
  repeat (go_quiet (first | ((with_reducible refine gate_dst (N := 2) rfl ?_); (try (refine gate_guard (by rfl) ?_; dsimp only)); refine bx_ (N := 2) (cs := #[.int .i64 a0_0, .slice A0_1 l0_1.length c0_1, .slice A0_2 l0_2.length c0_2]) (t := 27) ?_; intro gb133 hg w4 hbox hb; have n0_ := Aside0.mk (below_step (bw_ HB.out) hb); have n1_ := Aside0.mk (hbox); have n2_ := Aside0.mk (sz_ hg (bw_ HB.out)); have n3_ := n2_; clear HB; have HB := n0_; have BK133 := n1_; have GW133 := n2_; have GE133 := n3_; clear n0_ n1_ n2_ n3_; clear hb hbox hg) | ((with_reducible refine gate_dst (N := 3) rfl ?_); (try (refine gate_guard (by rfl) ?_; dsimp only)); refine bx_ (N := 3) (cs := #[.int .i64 a1_0, .slice A1_1 l1_1.length c1_1, .slice A1_2 l1_2.length c1_2]) (t := 27) ?_; intro gb134 hg w5 hbox hb; have n0_ := Aside0.mk (blk_below (bk_ BK133.out) hb); have n1_ := Aside0.mk (below_step (bw_ HB.out) hb); have n2_ := Aside0.mk (hbox); have n3_ := Aside0.mk (sz_ hg (bw_ HB.out)); have n4_ := n3_; have n5_ := Aside0.mk (ne_ hg (blk_lt (bk_ BK133.out))); have n6_ := Aside0.mk n5_.out.symm; clear BK133 HB; have BK133 := n0_; have HB := n1_; have BK134 := n2_; have GW134 := n3_; have GE134 := n4_; have NB133_134 := n5_; have NB134_133 := n6_; clear n0_ n1_ n2_ n3_ n4_ n5_ n6_; clear hb hbox hg; have hnb6 := NB133_134.out; have hnc6 := NB134_133.out; have hcz7_0 : w5.cell? ⟨gb133, 0, none⟩ = some (.int .i64 a0_0) := (blk_cell BK133.out 0).trans rfl; have hcz7_1 : w5.cell? ⟨gb133, 1, none⟩ = some (.slice A0_1 l0_1.length c0_1) := (blk_cell BK133.out 1).trans rfl; have hcz7_2 : w5.cell? ⟨gb133, 2, none⟩ = some (.slice A0_2 l0_2.length c0_2) := (blk_cell BK133.out 2).trans rfl; have hfz7_0 := blk_frozen BK133.out 0; have hfz7_1 := blk_frozen BK133.out 1; have hfz7_2 := blk_frozen BK133.out 2; have hcz8_0 : w5.cell? ⟨gb134, 0, none⟩ = some (.int .i64 a1_0) := (blk_cell BK134.out 0).trans rfl; have hcz8_1 : w5.cell? ⟨gb134, 1, none⟩ = some (.slice A1_1 l1_1.length c1_1) := (blk_cell BK134.out 1).trans rfl; have hcz8_2 : w5.cell? ⟨gb134, 2, none⟩ = some (.slice A1_2 l1_2.length c1_2) := (blk_cell BK134.out 2).trans rfl; have hfz8_0 := blk_frozen BK134.out 0; have hfz8_1 := blk_frozen BK134.out 1; have hfz8_2 := blk_frozen BK134.out 2)); try go_wp2_with (first | ((with_reducible refine gate_dst (N := 2) rfl ?_); (try (refine gate_guard (by rfl) ?_; dsimp only)); refine bx_ (N := 2) (cs := #[.int .i64 a0_0, .slice A0_1 l0_1.length c0_1, .slice A0_2 l0_2.length c0_2]) (t := 27) ?_; intro gb133 hg w4 hbox hb; have n0_ := Aside0.mk (below_step (bw_ HB.out) hb); have n1_ := Aside0.mk (hbox); have n2_ := Aside0.mk (sz_ hg (bw_ HB.out)); have n3_ := n2_; clear HB; have HB := n0_; have BK133 := n1_; have GW133 := n2_; have GE133 := n3_; clear n0_ n1_ n2_ n3_; clear hb hbox hg) | ((with_reducible refine gate_dst (N := 3) rfl ?_); (try (refine gate_guard (by rfl) ?_; dsimp only)); refine bx_ (N := 3) (cs := #[.int .i64 a1_0, .slice A1_1 l1_1.length c1_1, .slice A1_2 l1_2.length c1_2]) (t := 27) ?_; intro gb134 hg w5 hbox hb; have n0_ := Aside0.mk (blk_below (bk_ BK133.out) hb); have n1_ := Aside0.mk (below_step (bw_ HB.out) hb); have n2_ := Aside0.mk (hbox); have n3_ := Aside0.mk (sz_ hg (bw_ HB.out)); have n4_ := n3_; have n5_ := Aside0.mk (ne_ hg (blk_lt (bk_ BK133.out))); have n6_ := Aside0.mk n5_.out.symm; clear BK133 HB; have BK133 := n0_; have HB := n1_; have BK134 := n2_; have GW134 := n3_; have GE134 := n4_; have NB133_134 := n5_; have NB134_133 := n6_; clear n0_ n1_ n2_ n3_ n4_ n5_ n6_; clear hb hbox hg; have hnb6 := NB133_134.out; have hnc6 := NB134_133.out; have hcz7_0 : w5.cell? ⟨gb133, 0, none⟩ = some (.int .i64 a0_0) := (blk_cell BK133.out 0).trans rfl; have hcz7_1 : w5.cell? ⟨gb133, 1, none⟩ = some (.slice A0_1 l0_1.length c0_1) := (blk_cell BK133.out 1).trans rfl; have hcz7_2 : w5.cell? ⟨gb133, 2, none⟩ = some (.slice A0_2 l0_2.length c0_2) := (blk_cell BK133.out 2).trans rfl; have hfz7_0 := blk_frozen BK133.out 0; have hfz7_1 := blk_frozen BK133.out 1; have hfz7_2 := blk_frozen BK133.out 2; have hcz8_0 : w5.cell? ⟨gb134, 0, none⟩ = some (.int .i64 a1_0) := (blk_cell BK134.out 0).trans rfl; have hcz8_1 : w5.cell? ⟨gb134, 1, none⟩ = some (.slice A1_1 l1_1.length c1_1) := (blk_cell BK134.out 1).trans rfl; have hcz8_2 : w5.cell? ⟨gb134, 2, none⟩ = some (.slice A1_2 l1_2.length c1_2) := (blk_cell BK134.out 2).trans rfl; have hfz8_0 := blk_frozen BK134.out 0; have hfz8_1 := blk_frozen BK134.out 1; have hfz8_2 := blk_frozen BK134.out 2)))
  go_ret
  exact ⟨by first | rfl | (simp [errW_none, errW_some] <;> rfl) | (simp [*, errW_none, errW_some] <;> rfl), by repeat (first | (with_reducible first | exact HB.out | apply below_alloc | apply pw_below_drewN | apply below_drew1 | refine below_set ?_ GE133.out | refine below_set ?_ GE134.out) | exact HB.out)⟩
 ·rw [if_neg c3] at H
  have c3b0 : decide (a0_0 < a1_0) = false := decide_eq_false c3
  clear c3
  by_cases c9 : a0_0 > a1_0
  ·rw [if_pos c9] at H
   have c9b0 : decide (a1_0 < a0_0) = true := decide_eq_true c9
   clear c9
   obtain rfl := Option.some.inj H
   go_enter Try.func15, Try.ntmps15
   go_wp2_with (first | ((with_reducible refine gate_dst (N := 2) rfl ?_); (try (refine gate_guard (by rfl) ?_; dsimp only)); refine bx_ (N := 2) (cs := #[.int .i64 a0_0, .slice A0_1 l0_1.length c0_1, .slice A0_2 l0_2.length c0_2]) (t := 27) ?_; intro gb133 hg w10 hbox hb; have n0_ := Aside0.mk (below_step (bw_ HB.out) hb); have n1_ := Aside0.mk (hbox); have n2_ := Aside0.mk (sz_ hg (bw_ HB.out)); have n3_ := n2_; clear HB; have HB := n0_; have BK133 := n1_; have GW133 := n2_; have GE133 := n3_; clear n0_ n1_ n2_ n3_; clear hb hbox hg) | ((with_reducible refine gate_dst (N := 3) rfl ?_); (try (refine gate_guard (by rfl) ?_; dsimp only)); refine bx_ (N := 3) (cs := #[.int .i64 a1_0, .slice A1_1 l1_1.length c1_1, .slice A1_2 l1_2.length c1_2]) (t := 27) ?_; intro gb134 hg w11 hbox hb; have n0_ := Aside0.mk (blk_below (bk_ BK133.out) hb); have n1_ := Aside0.mk (below_step (bw_ HB.out) hb); have n2_ := Aside0.mk (hbox); have n3_ := Aside0.mk (sz_ hg (bw_ HB.out)); have n4_ := n3_; have n5_ := Aside0.mk (ne_ hg (blk_lt (bk_ BK133.out))); have n6_ := Aside0.mk n5_.out.symm; clear BK133 HB; have BK133 := n0_; have HB := n1_; have BK134 := n2_; have GW134 := n3_; have GE134 := n4_; have NB133_134 := n5_; have NB134_133 := n6_; clear n0_ n1_ n2_ n3_ n4_ n5_ n6_; clear hb hbox hg; have hnb12 := NB133_134.out; have hnc12 := NB134_133.out; have hcz13_0 : w11.cell? ⟨gb133, 0, none⟩ = some (.int .i64 a0_0) := (blk_cell BK133.out 0).trans rfl; have hcz13_1 : w11.cell? ⟨gb133, 1, none⟩ = some (.slice A0_1 l0_1.length c0_1) := (blk_cell BK133.out 1).trans rfl; have hcz13_2 : w11.cell? ⟨gb133, 2, none⟩ = some (.slice A0_2 l0_2.length c0_2) := (blk_cell BK133.out 2).trans rfl; have hfz13_0 := blk_frozen BK133.out 0; have hfz13_1 := blk_frozen BK133.out 1; have hfz13_2 := blk_frozen BK133.out 2; have hcz14_0 : w11.cell? ⟨gb134, 0, none⟩ = some (.int .i64 a1_0) := (blk_cell BK134.out 0).trans rfl; have hcz14_1 : w11.cell? ⟨gb134, 1, none⟩ = some (.slice A1_1 l1_1.length c1_1) := (blk_cell BK134.out 1).trans rfl; have hcz14_2 : w11.cell? ⟨gb134, 2, none⟩ = some (.slice A1_2 l1_2.length c1_2) := (blk_cell BK134.out 2).trans rfl; have hfz14_0 := blk_frozen BK134.out 0; have hfz14_1 := blk_frozen BK134.out 1; have hfz14_2 := blk_frozen BK134.out 2))
   repeat (go_quiet (first | ((with_reducible refine gate_dst (N := 2) rfl ?_); (try (refine gate_guard (by rfl) ?_; dsimp only)); refine bx_ (N := 2) (cs := #[.int .i64 a0_0, .slice A0_1 l0_1.length c0_1, .slice A0_2 l0_2.length c0_2]) (t := 27) ?_; intro gb133 hg w10 hbox hb; have n0_ := Aside0.mk (below_step (bw_ HB.out) hb); have n1_ := Aside0.mk (hbox); have n2_ := Aside0.mk (sz_ hg (bw_ HB.out)); have n3_ := n2_; clear HB; have HB := n0_; have BK133 := n1_; have GW133 := n2_; have GE133 := n3_; clear n0_ n1_ n2_ n3_; clear hb hbox hg) | ((with_reducible refine gate_dst (N := 3) rfl ?_); (try (refine gate_guard (by rfl) ?_; dsimp only)); refine bx_ (N := 3) (cs := #[.int .i64 a1_0, .slice A1_1 l1_1.length c1_1, .slice A1_2 l1_2.length c1_2]) (t := 27) ?_; intro gb134 hg w11 hbox hb; have n0_ := Aside0.mk (blk_below (bk_ BK133.out) hb); have n1_ := Aside0.mk (below_step (bw_ HB.out) hb); have n2_ := Aside0.mk (hbox); have n3_ := Aside0.mk (sz_ hg (bw_ HB.out)); have n4_ := n3_; have n5_ := Aside0.mk (ne_ hg (blk_lt (bk_ BK133.out))); have n6_ := Aside0.mk n5_.out.symm; clear BK133 HB; have BK133 := n0_; have HB := n1_; have BK134 := n2_; have GW134 := n3_; have GE134 := n4_; have NB133_134 := n5_; have NB134_133 := n6_; clear n0_ n1_ n2_ n3_ n4_ n5_ n6_; clear hb hbox hg; have hnb12 := NB133_134.out; have hnc12 := NB134_133.out; have hcz13_0 : w11.cell? ⟨gb133, 0, none⟩ = some (.int .i64 a0_0) := (blk_cell BK133.out 0).trans rfl; have hcz13_1 : w11.cell? ⟨gb133, 1, none⟩ = some (.slice A0_1 l0_1.length c0_1) := (blk_cell BK133.out 1).trans rfl; have hcz13_2 : w11.cell? ⟨gb133, 2, none⟩ = some (.slice A0_2 l0_2.length c0_2) := (blk_cell BK133.out 2).trans rfl; have hfz13_0 := blk_frozen BK133.out 0; have hfz13_1 := blk_frozen BK133.out 1; have hfz13_2 := blk_frozen BK133.out 2; have hcz14_0 : w11.cell? ⟨gb134, 0, none⟩ = some (.int .i64 a1_0) := (blk_cell BK134.out 0).trans rfl; have hcz14_1 : w11.cell? ⟨gb134, 1, none⟩ = some (.slice A1_1 l1_1.length c1_1) := (blk_cell BK134.out 1).trans rfl; have hcz14_2 : w11.cell? ⟨gb134, 2, none⟩ = some (.slice A1_2 l1_2.length c1_2) := (blk_cell BK134.out 2).trans rfl; have hfz14_0 := blk_frozen BK134.out 0; have hfz14_1 := blk_frozen BK134.out 1; have hfz14_2 := blk_frozen BK134.out 2)); try go_wp2_with (first | ((with_reducible refine gate_dst (N := 2) rfl ?_); (try (refine gate_guard (by rfl) ?_; dsimp only)); refine bx_ (N := 2) (cs := #[.int .i64 a0_0, .slice A0_1 l0_1.length c0_1, .slice A0_2 l0_2.length c0_2]) (t := 27) ?_; intro gb133 hg w10 hbox hb; have n0_ := Aside0.mk (below_step (bw_ HB.out) hb); have n1_ := Aside0.mk (hbox); have n2_ := Aside0.mk (sz_ hg (bw_ HB.out)); have n3_ := n2_; clear HB; have HB := n0_; have BK133 := n1_; have GW133 := n2_; have GE133 := n3_; clear n0_ n1_ n2_ n3_; clear hb hbox hg) | ((with_reducible refine gate_dst (N := 3) rfl ?_); (try (refine gate_guard (by rfl) ?_; dsimp only)); refine bx_ (N := 3) (cs := #[.int .i64 a1_0, .slice A1_1 l1_1.length c1_1, .slice A1_2 l1_2.length c1_2]) (t := 27) ?_; intro gb134 hg w11 hbox hb; have n0_ := Aside0.mk (blk_below (bk_ BK133.out) hb); have n1_ := Aside0.mk (below_step (bw_ HB.out) hb); have n2_ := Aside0.mk (hbox); have n3_ := Aside0.mk (sz_ hg (bw_ HB.out)); have n4_ := n3_; have n5_ := Aside0.mk (ne_ hg (blk_lt (bk_ BK133.out))); have n6_ := Aside0.mk n5_.out.symm; clear BK133 HB; have BK133 := n0_; have HB := n1_; have BK134 := n2_; have GW134 := n3_; have GE134 := n4_; have NB133_134 := n5_; have NB134_133 := n6_; clear n0_ n1_ n2_ n3_ n4_ n5_ n6_; clear hb hbox hg; have hnb12 := NB133_134.out; have hnc12 := NB134_133.out; have hcz13_0 : w11.cell? ⟨gb133, 0, none⟩ = some (.int .i64 a0_0) := (blk_cell BK133.out 0).trans rfl; have hcz13_1 : w11.cell? ⟨gb133, 1, none⟩ = some (.slice A0_1 l0_1.length c0_1) := (blk_cell BK133.out 1).trans rfl; have hcz13_2 : w11.cell? ⟨gb133, 2, none⟩ = some (.slice A0_2 l0_2.length c0_2) := (blk_cell BK133.out 2).trans rfl; have hfz13_0 := blk_frozen BK133.out 0; have hfz13_1 := blk_frozen BK133.out 1; have hfz13_2 := blk_frozen BK133.out 2; have hcz14_0 : w11.cell? ⟨gb134, 0, none⟩ = some (.int .i64 a1_0) := (blk_cell BK134.out 0).trans rfl; have hcz14_1 : w11.cell? ⟨gb134, 1, none⟩ = some (.slice A1_1 l1_1.length c1_1) := (blk_cell BK134.out 1).trans rfl; have hcz14_2 : w11.cell? ⟨gb134, 2, none⟩ = some (.slice A1_2 l1_2.length c1_2) := (blk_cell BK134.out 2).trans rfl; have hfz14_0 := blk_frozen BK134.out 0; have hfz14_1 := blk_frozen BK134.out 1; have hfz14_2 := blk_frozen BK134.out 2)))
   go_ret
   exact ⟨by first | rfl | (simp [errW_none, errW_some] <;> rfl) | (simp [*, errW_none, errW_some] <;> rfl), by repeat (first | (with_reducible first | exact HB.out | apply below_alloc | apply pw_below_drewN | apply below_drew1 | refine below_set ?_ GE133.out | refine below_set ?_ GE134.out) | exact HB.out)⟩
  ·rw [if_neg c9] at H
   have c9b0 : decide (a1_0 < a0_0) = false := decide_eq_false c9
   clear c9
   have H' := Aside0.mk H
   clear H
   go_enter Try.func15, Try.ntmps15
   go_wp2_with (first | ((with_reducible refine gate_dst (N := 2) rfl ?_); (try (refine gate_guard (by rfl) ?_; dsimp only)); refine bx_ (N := 2) (cs := #[.int .i64 a0_0, .slice A0_1 l0_1.length c0_1, .slice A0_2 l0_2.length c0_2]) (t := 27) ?_; intro gb133 hg w15 hbox hb; have n0_ := Aside0.mk (below_step (bw_ HB.out) hb); have n1_ := Aside0.mk (hbox); have n2_ := Aside0.mk (sz_ hg (bw_ HB.out)); have n3_ := n2_; clear HB; have HB := n0_; have BK133 := n1_; have GW133 := n2_; have GE133 := n3_; clear n0_ n1_ n2_ n3_; clear hb hbox hg) | ((with_reducible refine gate_dst (N := 3) rfl ?_); (try (refine gate_guard (by rfl) ?_; dsimp only)); refine bx_ (N := 3) (cs := #[.int .i64 a1_0, .slice A1_1 l1_1.length c1_1, .slice A1_2 l1_2.length c1_2]) (t := 27) ?_; intro gb134 hg w16 hbox hb; have n0_ := Aside0.mk (blk_below (bk_ BK133.out) hb); have n1_ := Aside0.mk (below_step (bw_ HB.out) hb); have n2_ := Aside0.mk (hbox); have n3_ := Aside0.mk (sz_ hg (bw_ HB.out)); have n4_ := n3_; have n5_ := Aside0.mk (ne_ hg (blk_lt (bk_ BK133.out))); have n6_ := Aside0.mk n5_.out.symm; clear BK133 HB; have BK133 := n0_; have HB := n1_; have BK134 := n2_; have GW134 := n3_; have GE134 := n4_; have NB133_134 := n5_; have NB134_133 := n6_; clear n0_ n1_ n2_ n3_ n4_ n5_ n6_; clear hb hbox hg; have hnb17 := NB133_134.out; have hnc17 := NB134_133.out; have hcz18_0 : w16.cell? ⟨gb133, 0, none⟩ = some (.int .i64 a0_0) := (blk_cell BK133.out 0).trans rfl; have hcz18_1 : w16.cell? ⟨gb133, 1, none⟩ = some (.slice A0_1 l0_1.length c0_1) := (blk_cell BK133.out 1).trans rfl; have hcz18_2 : w16.cell? ⟨gb133, 2, none⟩ = some (.slice A0_2 l0_2.length c0_2) := (blk_cell BK133.out 2).trans rfl; have hfz18_0 := blk_frozen BK133.out 0; have hfz18_1 := blk_frozen BK133.out 1; have hfz18_2 := blk_frozen BK133.out 2; have hcz19_0 : w16.cell? ⟨gb134, 0, none⟩ = some (.int .i64 a1_0) := (blk_cell BK134.out 0).trans rfl; have hcz19_1 : w16.cell? ⟨gb134, 1, none⟩ = some (.slice A1_1 l1_1.length c1_1) := (blk_cell BK134.out 1).trans rfl; have hcz19_2 : w16.cell? ⟨gb134, 2, none⟩ = some (.slice A1_2 l1_2.length c1_2) := (blk_cell BK134.out 2).trans rfl; have hfz19_0 := blk_frozen BK134.out 0; have hfz19_1 := blk_frozen BK134.out 1; have hfz19_2 := blk_frozen BK134.out 2))
   repeat (go_quiet (first | ((with_reducible refine gate_dst (N := 2) rfl ?_); (try (refine gate_guard (by rfl) ?_; dsimp only)); refine bx_ (N := 2) (cs := #[.int .i64 a0_0, .slice A0_1 l0_1.length c0_1, .slice A0_2 l0_2.length c0_2]) (t := 27) ?_; intro gb133 hg w15 hbox hb; have n0_ := Aside0.mk (below_step (bw_ HB.out) hb); have n1_ := Aside0.mk (hbox); have n2_ := Aside0.mk (sz_ hg (bw_ HB.out)); have n3_ := n2_; clear HB; have HB := n0_; have BK133 := n1_; have GW133 := n2_; have GE133 := n3_; clear n0_ n1_ n2_ n3_; clear hb hbox hg) | ((with_reducible refine gate_dst (N := 3) rfl ?_); (try (refine gate_guard (by rfl) ?_; dsimp only)); refine bx_ (N := 3) (cs := #[.int .i64 a1_0, .slice A1_1 l1_1.length c1_1, .slice A1_2 l1_2.length c1_2]) (t := 27) ?_; intro gb134 hg w16 hbox hb; have n0_ := Aside0.mk (blk_below (bk_ BK133.out) hb); have n1_ := Aside0.mk (below_step (bw_ HB.out) hb); have n2_ := Aside0.mk (hbox); have n3_ := Aside0.mk (sz_ hg (bw_ HB.out)); have n4_ := n3_; have n5_ := Aside0.mk (ne_ hg (blk_lt (bk_ BK133.out))); have n6_ := Aside0.mk n5_.out.symm; clear BK133 HB; have BK133 := n0_; have HB := n1_; have BK134 := n2_; have GW134 := n3_; have GE134 := n4_; have NB133_134 := n5_; have NB134_133 := n6_; clear n0_ n1_ n2_ n3_ n4_ n5_ n6_; clear hb hbox hg; have hnb17 := NB133_134.out; have hnc17 := NB134_133.out; have hcz18_0 : w16.cell? ⟨gb133, 0, none⟩ = some (.int .i64 a0_0) := (blk_cell BK133.out 0).trans rfl; have hcz18_1 : w16.cell? ⟨gb133, 1, none⟩ = some (.slice A0_1 l0_1.length c0_1) := (blk_cell BK133.out 1).trans rfl; have hcz18_2 : w16.cell? ⟨gb133, 2, none⟩ = some (.slice A0_2 l0_2.length c0_2) := (blk_cell BK133.out 2).trans rfl; have hfz18_0 := blk_frozen BK133.out 0; have hfz18_1 := blk_frozen BK133.out 1; have hfz18_2 := blk_frozen BK133.out 2; have hcz19_0 : w16.cell? ⟨gb134, 0, none⟩ = some (.int .i64 a1_0) := (blk_cell BK134.out 0).trans rfl; have hcz19_1 : w16.cell? ⟨gb134, 1, none⟩ = some (.slice A1_1 l1_1.length c1_1) := (blk_cell BK134.out 1).trans rfl; have hcz19_2 : w16.cell? ⟨gb134, 2, none⟩ = some (.slice A1_2 l1_2.length c1_2) := (blk_cell BK134.out 2).trans rfl; have hfz19_0 := blk_frozen BK134.out 0; have hfz19_1 := blk_frozen BK134.out 1; have hfz19_2 := blk_frozen BK134.out 2)); try go_wp2_with (first | ((with_reducible refine gate_dst (N := 2) rfl ?_); (try (refine gate_guard (by rfl) ?_; dsimp only)); refine bx_ (N := 2) (cs := #[.int .i64 a0_0, .slice A0_1 l0_1.length c0_1, .slice A0_2 l0_2.length c0_2]) (t := 27) ?_; intro gb133 hg w15 hbox hb; have n0_ := Aside0.mk (below_step (bw_ HB.out) hb); have n1_ := Aside0.mk (hbox); have n2_ := Aside0.mk (sz_ hg (bw_ HB.out)); have n3_ := n2_; clear HB; have HB := n0_; have BK133 := n1_; have GW133 := n2_; have GE133 := n3_; clear n0_ n1_ n2_ n3_; clear hb hbox hg) | ((with_reducible refine gate_dst (N := 3) rfl ?_); (try (refine gate_guard (by rfl) ?_; dsimp only)); refine bx_ (N := 3) (cs := #[.int .i64 a1_0, .slice A1_1 l1_1.length c1_1, .slice A1_2 l1_2.length c1_2]) (t := 27) ?_; intro gb134 hg w16 hbox hb; have n0_ := Aside0.mk (blk_below (bk_ BK133.out) hb); have n1_ := Aside0.mk (below_step (bw_ HB.out) hb); have n2_ := Aside0.mk (hbox); have n3_ := Aside0.mk (sz_ hg (bw_ HB.out)); have n4_ := n3_; have n5_ := Aside0.mk (ne_ hg (blk_lt (bk_ BK133.out))); have n6_ := Aside0.mk n5_.out.symm; clear BK133 HB; have BK133 := n0_; have HB := n1_; have BK134 := n2_; have GW134 := n3_; have GE134 := n4_; have NB133_134 := n5_; have NB134_133 := n6_; clear n0_ n1_ n2_ n3_ n4_ n5_ n6_; clear hb hbox hg; have hnb17 := NB133_134.out; have hnc17 := NB134_133.out; have hcz18_0 : w16.cell? ⟨gb133, 0, none⟩ = some (.int .i64 a0_0) := (blk_cell BK133.out 0).trans rfl; have hcz18_1 : w16.cell? ⟨gb133, 1, none⟩ = some (.slice A0_1 l0_1.length c0_1) := (blk_cell BK133.out 1).trans rfl; have hcz18_2 : w16.cell? ⟨gb133, 2, none⟩ = some (.slice A0_2 l0_2.length c0_2) := (blk_cell BK133.out 2).trans rfl; have hfz18_0 := blk_frozen BK133.out 0; have hfz18_1 := blk_frozen BK133.out 1; have hfz18_2 := blk_frozen BK133.out 2; have hcz19_0 : w16.cell? ⟨gb134, 0, none⟩ = some (.int .i64 a1_0) := (blk_cell BK134.out 0).trans rfl; have hcz19_1 : w16.cell? ⟨gb134, 1, none⟩ = some (.slice A1_1 l1_1.length c1_1) := (blk_cell BK134.out 1).trans rfl; have hcz19_2 : w16.cell? ⟨gb134, 2, none⟩ = some (.slice A1_2 l1_2.length c1_2) := (blk_cell BK134.out 2).trans rfl; have hfz19_0 := blk_frozen BK134.out 0; have hfz19_1 := blk_frozen BK134.out 1; have hfz19_2 := blk_frozen BK134.out 2)))
   go_loopg [5] k (fun kq v5 w' => ∃ (x5_1 : Int), v5 = .int .i64 x5_1 ∧ Aside0 (gristmillref04_Compare.l0 kq x5_1 a0_0 l0_1 l0_2 a1_0 l1_1 l1_2 = some r) ∧ Aside0 (kq ≤ k) ∧ Aside0 (w'.heap[gb133]? = some (.cells #[.int .i64 a0_0, (.slice A0_1 l0_1.length c0_1), (.slice A0_2 l0_2.length c0_2)] 27 (0, 0))) ∧ Aside0 (w'.heap[gb134]? = some (.cells #[.int .i64 a1_0, (.slice A1_1 l1_1.length c1_1), (.slice A1_2 l1_2.length c1_2)] 27 (0, 0))) ∧ Aside0 (Below w.heap.size w w'))
   case atStart => exact ⟨(0), (by first | rfl | (simp; done) | (simp [*]; done)), H', ⟨Nat.le_refl _⟩, ⟨by (with_reducible repeat (first | refine blk_drewN ?_ _ | refine blk_drew ?_ | refine blk_alloc ?_ _)); exact BK133.out⟩, ⟨by (with_reducible repeat (first | refine blk_drewN ?_ _ | refine blk_drew ?_ | refine blk_alloc ?_ _)); exact BK134.out⟩, ⟨by repeat (first | (with_reducible first | exact HB.out | apply below_alloc | apply pw_below_drewN | apply below_drew1 | refine below_set ?_ GE133.out | refine below_set ?_ GE134.out) | exact HB.out)⟩⟩
   case round =>
    clear H'
    try clear c1
    try clear p2
    try clear c3
    try clear c3b0
    try clear c6
    try clear c9
    try clear c9b0
    try clear c12
    try clear c15
    try clear c17
    try clear hcz13_0
    try clear hcz13_1
    try clear hcz13_2
    try clear hcz14_0
    try clear hcz14_1
    try clear hcz14_2
    try clear hcz18_0
    try clear hcz18_1
    try clear hcz18_2
    try clear hcz19_0
    try clear hcz19_1
    try clear hcz19_2
    try clear hcz7_0
    try clear hcz7_1
    try clear hcz7_2
    try clear hcz8_0
    try clear hcz8_1
    try clear hcz8_2
    try clear hfz13_0
    try clear hfz13_1
    try clear hfz13_2
    try clear hfz14_0
    try clear hfz14_1
    try clear hfz14_2
    try clear hfz18_0
    try clear hfz18_1
    try clear hfz18_2
    try clear hfz19_0
    try clear hfz19_1
    try clear hfz19_2
    try clear hfz7_0
    try clear hfz7_1
    try clear hfz7_2
    try clear hfz8_0
    try clear hfz8_1
    try clear hfz8_2
    obtain ⟨x5_1, rfl, HA, HK1, BK133, BK134, HB⟩ := hrel
    cases gk with
    | zero => exact absurd HA.out (by simp [gristmillref04_Compare.l0])
    | succ k1 =>
     have H := HA.out
     clear HA
     simp only [gristmillref04_Compare.l0] at H
     have HC20 := Aside0.mk H
     clear H
     go_upto_region 6 with (fail)
     repeat (go_quiet (fail); go_upto_region 6 with (fail))
     go_cut [28] (fun v28 wc => ∃ (kq : Nat) (x28_19 : Bool), v28 = .bool x28_19 ∧ Aside0 (gristmillref04_Compare.j1 kq x5_1 x28_19 a0_0 l0_1 l0_2 a1_0 l1_1 l1_2 = some r) ∧ Aside0 (kq ≤ k1) ∧ Aside0 (wc.heap[gb133]? = some (.cells #[.int .i64 a0_0, (.slice A0_1 l0_1.length c0_1), (.slice A0_2 l0_2.length c0_2)] 27 (0, 0))) ∧ Aside0 (wc.heap[gb134]? = some (.cells #[.int .i64 a1_0, (.slice A1_1 l1_1.length c1_1), (.slice A1_2 l1_2.length c1_2)] 27 (0, 0))) ∧ Aside0 (Below w.heap.size w wc))
     case first =>
      have H := HC20.out
      clear HC20
      by_cases c21 : x5_1 < (l0_1.length : Int)
      ·rw [if_pos c21] at H
       have c21b0 : decide (x5_1 < (l0_1.length : Int)) = true := decide_eq_true c21
       clear c21
       (first | rw [c21b0] | (simp only [i64_w, i32_w]; rw [c21b0]) | skip)
       have H' := Aside0.mk H
       clear H
       have hnb22 := NB133_134.out
       have hnc22 := NB134_133.out
       have hcz23_0 : wr.cell? ⟨gb133, 0, none⟩ = some (.int .i64 a0_0) := (blk_cell BK133.out 0).trans rfl
       have hcz23_1 : wr.cell? ⟨gb133, 1, none⟩ = some (.slice A0_1 l0_1.length c0_1) := (blk_cell BK133.out 1).trans rfl
       have hcz23_2 : wr.cell? ⟨gb133, 2, none⟩ = some (.slice A0_2 l0_2.length c0_2) := (blk_cell BK133.out 2).trans rfl
       have hfz23_0 := blk_frozen BK133.out 0
       have hfz23_1 := blk_frozen BK133.out 1
       have hfz23_2 := blk_frozen BK133.out 2
       go_wp2
       repeat (go_quiet (fail); try go_wp2)
       go_meet
       case rel => exact ⟨_, (true), (by first | rfl | (simp; done) | (simp [*]; done)), H', ⟨by have := HK1.out; first | omega | exact Nat.le_refl _⟩, ⟨by (with_reducible repeat (first | refine blk_drewN ?_ _ | refine blk_drew ?_ | refine blk_alloc ?_ _)); exact BK133.out⟩, ⟨by (with_reducible repeat (first | refine blk_drewN ?_ _ | refine blk_drew ?_ | refine blk_alloc ?_ _)); exact BK134.out⟩, ⟨by repeat (first | (with_reducible first | exact HB.out | apply below_alloc | apply pw_below_drewN | apply below_drew1 | refine below_set ?_ GE133.out | refine below_set ?_ GE134.out) | exact HB.out)⟩⟩
      ·rw [if_neg c21] at H
       have c21b0 : decide (x5_1 < (l0_1.length : Int)) = false := decide_eq_false c21
       clear c21
       (first | rw [c21b0] | (simp only [i64_w, i32_w]; rw [c21b0]) | skip)
       have H' := Aside0.mk H
       clear H
       have hnb24 := NB133_134.out
       have hnc24 := NB134_133.out
       have hcz25_0 : wr.cell? ⟨gb133, 0, none⟩ = some (.int .i64 a0_0) := (blk_cell BK133.out 0).trans rfl
       have hcz25_1 : wr.cell? ⟨gb133, 1, none⟩ = some (.slice A0_1 l0_1.length c0_1) := (blk_cell BK133.out 1).trans rfl
       have hcz25_2 : wr.cell? ⟨gb133, 2, none⟩ = some (.slice A0_2 l0_2.length c0_2) := (blk_cell BK133.out 2).trans rfl
       have hfz25_0 := blk_frozen BK133.out 0
       have hfz25_1 := blk_frozen BK133.out 1
       have hfz25_2 := blk_frozen BK133.out 2
       have hcz26_0 : wr.cell? ⟨gb134, 0, none⟩ = some (.int .i64 a1_0) := (blk_cell BK134.out 0).trans rfl
       have hcz26_1 : wr.cell? ⟨gb134, 1, none⟩ = some (.slice A1_1 l1_1.length c1_1) := (blk_cell BK134.out 1).trans rfl
       have hcz26_2 : wr.cell? ⟨gb134, 2, none⟩ = some (.slice A1_2 l1_2.length c1_2) := (blk_cell BK134.out 2).trans rfl
       have hfz26_0 := blk_frozen BK134.out 0
       have hfz26_1 := blk_frozen BK134.out 1
       have hfz26_2 := blk_frozen BK134.out 2
       go_wp2
       repeat (go_quiet (fail); try go_wp2)
       go_meet
       case rel => exact ⟨_, (decide (x5_1 < (l1_1.length : Int))), (by first | rfl | (simp; done) | (simp [*]; done)), H', ⟨by have := HK1.out; first | omega | exact Nat.le_refl _⟩, ⟨by (with_reducible repeat (first | refine blk_drewN ?_ _ | refine blk_drew ?_ | refine blk_alloc ?_ _)); exact BK133.out⟩, ⟨by (with_reducible repeat (first | refine blk_drewN ?_ _ | refine blk_drew ?_ | refine blk_alloc ?_ _)); exact BK134.out⟩, ⟨by repeat (first | (with_reducible first | exact HB.out | apply below_alloc | apply pw_below_drewN | apply below_drew1 | refine below_set ?_ GE133.out | refine below_set ?_ GE134.out) | exact HB.out)⟩⟩
     case rest =>
      clear HC20
      try clear c1
      try clear c2
      try clear p2
      try clear c3
      try clear c3b0
      try clear c6
      try clear c9
      try clear c9b0
      try clear c12
      try clear c15
      try clear c17
      try clear c21
      try clear c21b0
      try clear c22
      try clear c24
      try clear hcz13_0
      try clear hcz13_1
      try clear hcz13_2
      try clear hcz14_0
      try clear hcz14_1
      try clear hcz14_2
      try clear hcz18_0
      try clear hcz18_1
      try clear hcz18_2
      try clear hcz19_0
      try clear hcz19_1
      try clear hcz19_2
      try clear hcz23_0
      try clear hcz23_1
      try clear hcz23_2
      try clear hcz25_0
      try clear hcz25_1
      try clear hcz25_2
      try clear hcz26_0
      try clear hcz26_1
      try clear hcz26_2
      try clear hcz7_0
      try clear hcz7_1
      try clear hcz7_2
      try clear hcz8_0
      try clear hcz8_1
      try clear hcz8_2
      try clear hfz13_0
      try clear hfz13_1
      try clear hfz13_2
      try clear hfz14_0
      try clear hfz14_1
      try clear hfz14_2
      try clear hfz18_0
      try clear hfz18_1
      try clear hfz18_2
      try clear hfz19_0
      try clear hfz19_1
      try clear hfz19_2
      try clear hfz23_0
      try clear hfz23_1
      try clear hfz23_2
      try clear hfz25_0
      try clear hfz25_1
      try clear hfz25_2
      try clear hfz26_0
      try clear hfz26_1
      try clear hfz26_2
      try clear hfz7_0
      try clear hfz7_1
      try clear hfz7_2
      try clear hfz8_0
      try clear hfz8_1
      try clear hfz8_2
      try clear p2
      obtain ⟨kq, x28_19, rfl, HA, HJ19, BK133, BK134, HB⟩ := hcut
      cases kq with
      | zero => exact absurd HA.out (by simp [gristmillref04_Compare.j1])
      | succ kj19 =>
       have H := HA.out
       clear HA
       simp only [gristmillref04_Compare.j1] at H
       by_cases c27 : x28_19 = true
       ·subst c27
        have H1 : (if x5_1 ≥ (l0_1.length : Int) then (some (-1)) else (if x5_1 ≥ (l1_1.length : Int) then (some 1) else (if 0 ≤ x5_1 then (if x5_1 < (l0_1.length : Int) then (if x5_1 < (l1_1.length : Int) then (if (Op.bytesLess ((rdOf ByteArray.empty l0_1 x5_1).toList) ((rdOf ByteArray.empty l1_1 x5_1).toList)) = true then (some (-1)) else (if (Op.bytesLess ((rdOf ByteArray.empty l1_1 x5_1).toList) ((rdOf ByteArray.empty l0_1 x5_1).toList)) = true then (some 1) else (gristmillref04_Compare.l0 kj19 (wrap64 (x5_1 + 1)) a0_0 l0_1 l0_2 a1_0 l1_1 l1_2))) else (none)) else (none)) else (none)))) = some r := by rw [if_pos rfl] at H; exact H
        clear H
        have H := H1
        clear H1
        by_cases c28 : x5_1 ≥ (l0_1.length : Int)
        ·rw [if_pos c28] at H
         have c28b0 : decide ((l0_1.length : Int) ≤ x5_1) = true := decide_eq_true c28
         clear c28
         obtain rfl := Option.some.inj H
         have hnb29 := NB133_134.out
         have hnc29 := NB134_133.out
         have hcz30_0 : wc.cell? ⟨gb133, 0, none⟩ = some (.int .i64 a0_0) := (blk_cell BK133.out 0).trans rfl
         have hcz30_1 : wc.cell? ⟨gb133, 1, none⟩ = some (.slice A0_1 l0_1.length c0_1) := (blk_cell BK133.out 1).trans rfl
         have hcz30_2 : wc.cell? ⟨gb133, 2, none⟩ = some (.slice A0_2 l0_2.length c0_2) := (blk_cell BK133.out 2).trans rfl
         have hfz30_0 := blk_frozen BK133.out 0
         have hfz30_1 := blk_frozen BK133.out 1
         have hfz30_2 := blk_frozen BK133.out 2
         go_wp2
         repeat (go_quiet (fail); try go_wp2)
         go_ret
         exact ⟨by first | rfl | (simp [errW_none, errW_some] <;> rfl) | (simp [*, errW_none, errW_some] <;> rfl), by repeat (first | (with_reducible first | exact HB.out | apply below_alloc | apply pw_below_drewN | apply below_drew1 | refine below_set ?_ GE133.out | refine below_set ?_ GE134.out) | exact HB.out)⟩
        ·rw [if_neg c28] at H
         have c28b0 : decide ((l0_1.length : Int) ≤ x5_1) = false := decide_eq_false c28
         clear c28
         by_cases c31 : x5_1 ≥ (l1_1.length : Int)
         ·rw [if_pos c31] at H
          have c31b0 : decide ((l1_1.length : Int) ≤ x5_1) = true := decide_eq_true c31
          clear c31
          obtain rfl := Option.some.inj H
          have hnb32 := NB133_134.out
          have hnc32 := NB134_133.out
          have hcz33_0 : wc.cell? ⟨gb133, 0, none⟩ = some (.int .i64 a0_0) := (blk_cell BK133.out 0).trans rfl
          have hcz33_1 : wc.cell? ⟨gb133, 1, none⟩ = some (.slice A0_1 l0_1.length c0_1) := (blk_cell BK133.out 1).trans rfl
          have hcz33_2 : wc.cell? ⟨gb133, 2, none⟩ = some (.slice A0_2 l0_2.length c0_2) := (blk_cell BK133.out 2).trans rfl
          have hfz33_0 := blk_frozen BK133.out 0
          have hfz33_1 := blk_frozen BK133.out 1
          have hfz33_2 := blk_frozen BK133.out 2
          have hcz34_0 : wc.cell? ⟨gb134, 0, none⟩ = some (.int .i64 a1_0) := (blk_cell BK134.out 0).trans rfl
          have hcz34_1 : wc.cell? ⟨gb134, 1, none⟩ = some (.slice A1_1 l1_1.length c1_1) := (blk_cell BK134.out 1).trans rfl
          have hcz34_2 : wc.cell? ⟨gb134, 2, none⟩ = some (.slice A1_2 l1_2.length c1_2) := (blk_cell BK134.out 2).trans rfl
          have hfz34_0 := blk_frozen BK134.out 0
          have hfz34_1 := blk_frozen BK134.out 1
          have hfz34_2 := blk_frozen BK134.out 2
          go_wp2
          repeat (go_quiet (fail); try go_wp2)
          go_ret
          exact ⟨by first | rfl | (simp [errW_none, errW_some] <;> rfl) | (simp [*, errW_none, errW_some] <;> rfl), by repeat (first | (with_reducible first | exact HB.out | apply below_alloc | apply pw_below_drewN | apply below_drew1 | refine below_set ?_ GE133.out | refine below_set ?_ GE134.out) | exact HB.out)⟩
         ·rw [if_neg c31] at H
          have c31b0 : decide ((l1_1.length : Int) ≤ x5_1) = false := decide_eq_false c31
          clear c31
          by_cases c35 : 0 ≤ x5_1
          ·rw [if_pos c35] at H
           have c35b0 : decide (0 ≤ x5_1) = true := decide_eq_true c35
           clear c35
           by_cases c36 : x5_1 < (l0_1.length : Int)
           ·rw [if_pos c36] at H
            have c36b0 : decide (x5_1 < (l0_1.length : Int)) = true := decide_eq_true c36
            clear c36
            by_cases c37 : x5_1 < (l1_1.length : Int)
            ·rw [if_pos c37] at H
             have c37b0 : decide (x5_1 < (l1_1.length : Int)) = true := decide_eq_true c37
             clear c37
             by_cases c38 : (Op.bytesLess ((rdOf ByteArray.empty l0_1 x5_1).toList) ((rdOf ByteArray.empty l1_1 x5_1).toList)) = true
             ·rw [if_pos c38] at H
              have c38b0 : (Op.bytesLess ((rdOf ByteArray.empty l0_1 x5_1).toList) ((rdOf ByteArray.empty l1_1 x5_1).toList)) = true := c38
              clear c38
              obtain rfl := Option.some.inj H
              have hnb39 := NB133_134.out
              have hnc39 := NB134_133.out
              have hcz40_0 : wc.cell? ⟨gb133, 0, none⟩ = some (.int .i64 a0_0) := (blk_cell BK133.out 0).trans rfl
              have hcz40_1 : wc.cell? ⟨gb133, 1, none⟩ = some (.slice A0_1 l0_1.length c0_1) := (blk_cell BK133.out 1).trans rfl
              have hcz40_2 : wc.cell? ⟨gb133, 2, none⟩ = some (.slice A0_2 l0_2.length c0_2) := (blk_cell BK133.out 2).trans rfl
              have hfz40_0 := blk_frozen BK133.out 0
              have hfz40_1 := blk_frozen BK133.out 1
              have hfz40_2 := blk_frozen BK133.out 2
              have hcz41_0 : wc.cell? ⟨gb134, 0, none⟩ = some (.int .i64 a1_0) := (blk_cell BK134.out 0).trans rfl
              have hcz41_1 : wc.cell? ⟨gb134, 1, none⟩ = some (.slice A1_1 l1_1.length c1_1) := (blk_cell BK134.out 1).trans rfl
              have hcz41_2 : wc.cell? ⟨gb134, 2, none⟩ = some (.slice A1_2 l1_2.length c1_2) := (blk_cell BK134.out 2).trans rfl
              have hfz41_0 := blk_frozen BK134.out 0
              have hfz41_1 := blk_frozen BK134.out 1
              have hfz41_2 := blk_frozen BK134.out 2
              have p135 : 0 ≤ (x5_1 : Int) := of_decide_eq_true (by assumption)
              have q135 : x5_1 < (l0_1.length : Int) := of_decide_eq_true (by assumption)
              obtain ⟨ad135, e135, hx135_0⟩ := Kd.at_string HR0_1.out x5_1 p135 q135
              cases e135
              replace hx135_0 := pw_cell_below HB.out hx135_0
              replace p135 := eq_true p135
              replace q135 := eq_true q135
              have p136 : 0 ≤ (x5_1 : Int) := of_decide_eq_true (by assumption)
              have q136 : x5_1 < (l1_1.length : Int) := of_decide_eq_true (by assumption)
              obtain ⟨ad136, e136, hx136_0⟩ := Kd.at_string HR1_1.out x5_1 p136 q136
              cases e136
              replace hx136_0 := pw_cell_below HB.out hx136_0
              replace p136 := eq_true p136
              replace q136 := eq_true q136
              go_wp2
              repeat (go_quiet (fail); try go_wp2)
              go_ret
              exact ⟨by first | rfl | (simp [errW_none, errW_some] <;> rfl) | (simp [*, errW_none, errW_some] <;> rfl), by repeat (first | (with_reducible first | exact HB.out | apply below_alloc | apply pw_below_drewN | apply below_drew1 | refine below_set ?_ GE133.out | refine below_set ?_ GE134.out) | exact HB.out)⟩
             ·rw [if_neg c38] at H
              have c38b0 : (Op.bytesLess ((rdOf ByteArray.empty l0_1 x5_1).toList) ((rdOf ByteArray.empty l1_1 x5_1).toList)) = false := by simpa using c38
              clear c38
              by_cases c42 : (Op.bytesLess ((rdOf ByteArray.empty l1_1 x5_1).toList) ((rdOf ByteArray.empty l0_1 x5_1).toList)) = true
              ·rw [if_pos c42] at H
               have c42b0 : (Op.bytesLess ((rdOf ByteArray.empty l1_1 x5_1).toList) ((rdOf ByteArray.empty l0_1 x5_1).toList)) = true := c42
               clear c42
               obtain rfl := Option.some.inj H
               have hnb43 := NB133_134.out
               have hnc43 := NB134_133.out
               have hcz44_0 : wc.cell? ⟨gb133, 0, none⟩ = some (.int .i64 a0_0) := (blk_cell BK133.out 0).trans rfl
               have hcz44_1 : wc.cell? ⟨gb133, 1, none⟩ = some (.slice A0_1 l0_1.length c0_1) := (blk_cell BK133.out 1).trans rfl
               have hcz44_2 : wc.cell? ⟨gb133, 2, none⟩ = some (.slice A0_2 l0_2.length c0_2) := (blk_cell BK133.out 2).trans rfl
               have hfz44_0 := blk_frozen BK133.out 0
               have hfz44_1 := blk_frozen BK133.out 1
               have hfz44_2 := blk_frozen BK133.out 2
               have hcz45_0 : wc.cell? ⟨gb134, 0, none⟩ = some (.int .i64 a1_0) := (blk_cell BK134.out 0).trans rfl
               have hcz45_1 : wc.cell? ⟨gb134, 1, none⟩ = some (.slice A1_1 l1_1.length c1_1) := (blk_cell BK134.out 1).trans rfl
               have hcz45_2 : wc.cell? ⟨gb134, 2, none⟩ = some (.slice A1_2 l1_2.length c1_2) := (blk_cell BK134.out 2).trans rfl
               have hfz45_0 := blk_frozen BK134.out 0
               have hfz45_1 := blk_frozen BK134.out 1
               have hfz45_2 := blk_frozen BK134.out 2
               have p135 : 0 ≤ (x5_1 : Int) := of_decide_eq_true (by assumption)
               have q135 : x5_1 < (l0_1.length : Int) := of_decide_eq_true (by assumption)
               obtain ⟨ad135, e135, hx135_0⟩ := Kd.at_string HR0_1.out x5_1 p135 q135
               cases e135
               replace hx135_0 := pw_cell_below HB.out hx135_0
               replace p135 := eq_true p135
               replace q135 := eq_true q135
               have p136 : 0 ≤ (x5_1 : Int) := of_decide_eq_true (by assumption)
               have q136 : x5_1 < (l1_1.length : Int) := of_decide_eq_true (by assumption)
               obtain ⟨ad136, e136, hx136_0⟩ := Kd.at_string HR1_1.out x5_1 p136 q136
               cases e136
               replace hx136_0 := pw_cell_below HB.out hx136_0
               replace p136 := eq_true p136
               replace q136 := eq_true q136
               have p137 : 0 ≤ (x5_1 : Int) := of_decide_eq_true (by assumption)
               have q137 : x5_1 < (l0_1.length : Int) := of_decide_eq_true (by assumption)
               obtain ⟨ad137, e137, hx137_0⟩ := Kd.at_string HR0_1.out x5_1 p137 q137
               obtain rfl : ad135 = ad137 := (by injection e137)
               replace hx137_0 := pw_cell_below HB.out hx137_0
               replace p137 := eq_true p137
               replace q137 := eq_true q137
               have p138 : 0 ≤ (x5_1 : Int) := of_decide_eq_true (by assumption)
               have q138 : x5_1 < (l1_1.length : Int) := of_decide_eq_true (by assumption)
               obtain ⟨ad138, e138, hx138_0⟩ := Kd.at_string HR1_1.out x5_1 p138 q138
               obtain rfl : ad136 = ad138 := (by injection e138)
               replace hx138_0 := pw_cell_below HB.out hx138_0
               replace p138 := eq_true p138
               replace q138 := eq_true q138
               go_wp2
               repeat (go_quiet (fail); try go_wp2)
               go_ret
               exact ⟨by first | rfl | (simp [errW_none, errW_some] <;> rfl) | (simp [*, errW_none, errW_some] <;> rfl), by repeat (first | (with_reducible first | exact HB.out | apply below_alloc | apply pw_below_drewN | apply below_drew1 | refine below_set ?_ GE133.out | refine below_set ?_ GE134.out) | exact HB.out)⟩
              ·rw [if_neg c42] at H
               have c42b0 : (Op.bytesLess ((rdOf ByteArray.empty l1_1 x5_1).toList) ((rdOf ByteArray.empty l0_1 x5_1).toList)) = false := by simpa using c42
               clear c42
               have H' := Aside0.mk H
               clear H
               have hnb46 := NB133_134.out
               have hnc46 := NB134_133.out
               have hcz47_0 : wc.cell? ⟨gb133, 0, none⟩ = some (.int .i64 a0_0) := (blk_cell BK133.out 0).trans rfl
               have hcz47_1 : wc.cell? ⟨gb133, 1, none⟩ = some (.slice A0_1 l0_1.length c0_1) := (blk_cell BK133.out 1).trans rfl
               have hcz47_2 : wc.cell? ⟨gb133, 2, none⟩ = some (.slice A0_2 l0_2.length c0_2) := (blk_cell BK133.out 2).trans rfl
               have hfz47_0 := blk_frozen BK133.out 0
               have hfz47_1 := blk_frozen BK133.out 1
               have hfz47_2 := blk_frozen BK133.out 2
               have hcz48_0 : wc.cell? ⟨gb134, 0, none⟩ = some (.int .i64 a1_0) := (blk_cell BK134.out 0).trans rfl
               have hcz48_1 : wc.cell? ⟨gb134, 1, none⟩ = some (.slice A1_1 l1_1.length c1_1) := (blk_cell BK134.out 1).trans rfl
               have hcz48_2 : wc.cell? ⟨gb134, 2, none⟩ = some (.slice A1_2 l1_2.length c1_2) := (blk_cell BK134.out 2).trans rfl
               have hfz48_0 := blk_frozen BK134.out 0
               have hfz48_1 := blk_frozen BK134.out 1
               have hfz48_2 := blk_frozen BK134.out 2
               have p135 : 0 ≤ (x5_1 : Int) := of_decide_eq_true (by assumption)
               have q135 : x5_1 < (l0_1.length : Int) := of_decide_eq_true (by assumption)
               obtain ⟨ad135, e135, hx135_0⟩ := Kd.at_string HR0_1.out x5_1 p135 q135
               cases e135
               replace hx135_0 := pw_cell_below HB.out hx135_0
               replace p135 := eq_true p135
               replace q135 := eq_true q135
               have p136 : 0 ≤ (x5_1 : Int) := of_decide_eq_true (by assumption)
               have q136 : x5_1 < (l1_1.length : Int) := of_decide_eq_true (by assumption)
               obtain ⟨ad136, e136, hx136_0⟩ := Kd.at_string HR1_1.out x5_1 p136 q136
               cases e136
               replace hx136_0 := pw_cell_below HB.out hx136_0
               replace p136 := eq_true p136
               replace q136 := eq_true q136
               have p137 : 0 ≤ (x5_1 : Int) := of_decide_eq_true (by assumption)
               have q137 : x5_1 < (l0_1.length : Int) := of_decide_eq_true (by assumption)
               obtain ⟨ad137, e137, hx137_0⟩ := Kd.at_string HR0_1.out x5_1 p137 q137
               obtain rfl : ad135 = ad137 := (by injection e137)
               replace hx137_0 := pw_cell_below HB.out hx137_0
               replace p137 := eq_true p137
               replace q137 := eq_true q137
               have p138 : 0 ≤ (x5_1 : Int) := of_decide_eq_true (by assumption)
               have q138 : x5_1 < (l1_1.length : Int) := of_decide_eq_true (by assumption)
               obtain ⟨ad138, e138, hx138_0⟩ := Kd.at_string HR1_1.out x5_1 p138 q138
               obtain rfl : ad136 = ad138 := (by injection e138)
               replace hx138_0 := pw_cell_below HB.out hx138_0
               replace p138 := eq_true p138
               replace q138 := eq_true q138
               go_wp2
               repeat (go_quiet (fail); try go_wp2)
               go_roundg kj19
               case measure => have := HK1.out; have := HJ19.out; omega
               case rel => exact ⟨(wrap64 (x5_1 + 1)), (by first | rfl | (simp; done) | (simp [*]; done)), H', ⟨by have := HK1.out; have := HJ19.out; omega⟩, ⟨by (with_reducible repeat (first | refine blk_drewN ?_ _ | refine blk_drew ?_ | refine blk_alloc ?_ _)); exact BK133.out⟩, ⟨by (with_reducible repeat (first | refine blk_drewN ?_ _ | refine blk_drew ?_ | refine blk_alloc ?_ _)); exact BK134.out⟩, ⟨by repeat (first | (with_reducible first | exact HB.out | apply below_alloc | apply pw_below_drewN | apply below_drew1 | refine below_set ?_ GE133.out | refine below_set ?_ GE134.out) | exact HB.out)⟩⟩
            ·rw [if_neg c37] at H
             exact absurd H (by simp)
           ·rw [if_neg c36] at H
            exact absurd H (by simp)
          ·rw [if_neg c35] at H
           exact absurd H (by simp)
       ·replace c27 := Bool.eq_false_iff.mpr c27
        subst c27
        have H1 : (gristmillref04_Compare.l1 kj19 0 a0_0 l0_1 l0_2 a1_0 l1_1 l1_2) = some r := by rw [if_neg (show ¬ (false = true) by decide)] at H; exact H
        clear H
        have H := H1
        clear H1
        have H' := Aside0.mk H
        clear H
        go_wp2
        repeat (go_quiet (fail); try go_wp2)
        go_loopg [6] kj19 (fun kq v6 w' => ∃ (x6_3 : Int), v6 = .int .i64 x6_3 ∧ Aside0 (gristmillref04_Compare.l1 kq x6_3 a0_0 l0_1 l0_2 a1_0 l1_1 l1_2 = some r) ∧ Aside0 (kq ≤ kj19) ∧ Aside0 (w'.heap[gb133]? = some (.cells #[.int .i64 a0_0, (.slice A0_1 l0_1.length c0_1), (.slice A0_2 l0_2.length c0_2)] 27 (0, 0))) ∧ Aside0 (w'.heap[gb134]? = some (.cells #[.int .i64 a1_0, (.slice A1_1 l1_1.length c1_1), (.slice A1_2 l1_2.length c1_2)] 27 (0, 0))) ∧ Aside0 (Below w.heap.size w w'))
        case atStart => exact ⟨(0), (by first | rfl | (simp; done) | (simp [*]; done)), H', ⟨Nat.le_refl _⟩, ⟨by (with_reducible repeat (first | refine blk_drewN ?_ _ | refine blk_drew ?_ | refine blk_alloc ?_ _)); exact BK133.out⟩, ⟨by (with_reducible repeat (first | refine blk_drewN ?_ _ | refine blk_drew ?_ | refine blk_alloc ?_ _)); exact BK134.out⟩, ⟨by repeat (first | (with_reducible first | exact HB.out | apply below_alloc | apply pw_below_drewN | apply below_drew1 | refine below_set ?_ GE133.out | refine below_set ?_ GE134.out) | exact HB.out)⟩⟩
        case round =>
         clear H'
         try clear c1
         try clear p1
         try clear q1
         try clear hx1
         try clear c2
         try clear p2
         try clear c3
         try clear c3b0
         try clear c4
         try clear c6
         try clear p6
         try clear c9
         try clear c9b0
         try clear c12
         try clear p13
         try clear q13
         try clear hx13
         try clear c15
         try clear c17
         try clear c21
         try clear c21b0
         try clear c22
         try clear c24
         try clear c27
         try clear c28
         try clear c28b0
         try clear c29
         try clear c31
         try clear c31b0
         try clear c32
         try clear c35
         try clear c35b0
         try clear c36
         try clear c36b0
         try clear c37
         try clear c37b0
         try clear c38
         try clear c38b0
         try clear c39
         try clear c42
         try clear c42b0
         try clear c43
         try clear c46
         try clear hcz13_0
         try clear hcz13_1
         try clear hcz13_2
         try clear hcz14_0
         try clear hcz14_1
         try clear hcz14_2
         try clear hcz18_0
         try clear hcz18_1
         try clear hcz18_2
         try clear hcz19_0
         try clear hcz19_1
         try clear hcz19_2
         try clear hcz23_0
         try clear hcz23_1
         try clear hcz23_2
         try clear hcz25_0
         try clear hcz25_1
         try clear hcz25_2
         try clear hcz26_0
         try clear hcz26_1
         try clear hcz26_2
         try clear hcz30_0
         try clear hcz30_1
         try clear hcz30_2
         try clear hcz33_0
         try clear hcz33_1
         try clear hcz33_2
         try clear hcz34_0
         try clear hcz34_1
         try clear hcz34_2
         try clear hcz40_0
         try clear hcz40_1
         try clear hcz40_2
         try clear hcz41_0
         try clear hcz41_1
         try clear hcz41_2
         try clear hcz44_0
         try clear hcz44_1
         try clear hcz44_2
         try clear hcz45_0
         try clear hcz45_1
         try clear hcz45_2
         try clear hcz47_0
         try clear hcz47_1
         try clear hcz47_2
         try clear hcz48_0
         try clear hcz48_1
         try clear hcz48_2
         try clear hcz7_0
         try clear hcz7_1
         try clear hcz7_2
         try clear hcz8_0
         try clear hcz8_1
         try clear hcz8_2
         try clear hfz13_0
         try clear hfz13_1
         try clear hfz13_2
         try clear hfz14_0
         try clear hfz14_1
         try clear hfz14_2
         try clear hfz18_0
         try clear hfz18_1
         try clear hfz18_2
         try clear hfz19_0
         try clear hfz19_1
         try clear hfz19_2
         try clear hfz23_0
         try clear hfz23_1
         try clear hfz23_2
         try clear hfz25_0
         try clear hfz25_1
         try clear hfz25_2
         try clear hfz26_0
         try clear hfz26_1
         try clear hfz26_2
         try clear hfz30_0
         try clear hfz30_1
         try clear hfz30_2
         try clear hfz33_0
         try clear hfz33_1
         try clear hfz33_2
         try clear hfz34_0
         try clear hfz34_1
         try clear hfz34_2
         try clear hfz40_0
         try clear hfz40_1
         try clear hfz40_2
         try clear hfz41_0
         try clear hfz41_1
         try clear hfz41_2
         try clear hfz44_0
         try clear hfz44_1
         try clear hfz44_2
         try clear hfz45_0
         try clear hfz45_1
         try clear hfz45_2
         try clear hfz47_0
         try clear hfz47_1
         try clear hfz47_2
         try clear hfz48_0
         try clear hfz48_1
         try clear hfz48_2
         try clear hfz7_0
         try clear hfz7_1
         try clear hfz7_2
         try clear hfz8_0
         try clear hfz8_1
         try clear hfz8_2
         try clear hx135_0
         try clear hx136_0
         try clear hx137_0
         try clear hx138_0
         try clear p135
         try clear p136
         try clear p137
         try clear p138
         try clear p2
         try clear q135
         try clear q136
         try clear q137
         try clear q138
         obtain ⟨x6_3, rfl, HA, HK3, BK133, BK134, HB⟩ := hrel
         cases gk with
         | zero => exact absurd HA.out (by simp [gristmillref04_Compare.l1])
         | succ k3 =>
          have H := HA.out
          clear HA
          simp only [gristmillref04_Compare.l1] at H
          have HC49 := Aside0.mk H
          clear H
          go_upto_region 17 with (fail)
          repeat (go_quiet (fail); go_upto_region 17 with (fail))
          go_cut [74] (fun v74 wc => ∃ (kq : Nat) (x74_48 : Bool), v74 = .bool x74_48 ∧ Aside0 (gristmillref04_Compare.j3 kq x6_3 x74_48 a0_0 l0_1 l0_2 a1_0 l1_1 l1_2 = some r) ∧ Aside0 (kq ≤ k3) ∧ Aside0 (wc.heap[gb133]? = some (.cells #[.int .i64 a0_0, (.slice A0_1 l0_1.length c0_1), (.slice A0_2 l0_2.length c0_2)] 27 (0, 0))) ∧ Aside0 (wc.heap[gb134]? = some (.cells #[.int .i64 a1_0, (.slice A1_1 l1_1.length c1_1), (.slice A1_2 l1_2.length c1_2)] 27 (0, 0))) ∧ Aside0 (Below w.heap.size w wc))
          case first =>
           have H := HC49.out
           clear HC49
           by_cases c50 : x6_3 < (l0_2.length : Int)
           ·rw [if_pos c50] at H
            have c50b0 : decide (x6_3 < (l0_2.length : Int)) = true := decide_eq_true c50
            clear c50
            (first | rw [c50b0] | (simp only [i64_w, i32_w]; rw [c50b0]) | skip)
            have H' := Aside0.mk H
            clear H
            have hnb51 := NB133_134.out
            have hnc51 := NB134_133.out
            have hcz52_0 : wr.cell? ⟨gb133, 0, none⟩ = some (.int .i64 a0_0) := (blk_cell BK133.out 0).trans rfl
            have hcz52_1 : wr.cell? ⟨gb133, 1, none⟩ = some (.slice A0_1 l0_1.length c0_1) := (blk_cell BK133.out 1).trans rfl
            have hcz52_2 : wr.cell? ⟨gb133, 2, none⟩ = some (.slice A0_2 l0_2.length c0_2) := (blk_cell BK133.out 2).trans rfl
            have hfz52_0 := blk_frozen BK133.out 0
            have hfz52_1 := blk_frozen BK133.out 1
            have hfz52_2 := blk_frozen BK133.out 2
            go_wp2
            repeat (go_quiet (fail); try go_wp2)
            go_meet
            case rel => exact ⟨_, (true), (by first | rfl | (simp; done) | (simp [*]; done)), H', ⟨by have := HK1.out; have := HJ19.out; have := HK3.out; first | omega | exact Nat.le_refl _⟩, ⟨by (with_reducible repeat (first | refine blk_drewN ?_ _ | refine blk_drew ?_ | refine blk_alloc ?_ _)); exact BK133.out⟩, ⟨by (with_reducible repeat (first | refine blk_drewN ?_ _ | refine blk_drew ?_ | refine blk_alloc ?_ _)); exact BK134.out⟩, ⟨by repeat (first | (with_reducible first | exact HB.out | apply below_alloc | apply pw_below_drewN | apply below_drew1 | refine below_set ?_ GE133.out | refine below_set ?_ GE134.out) | exact HB.out)⟩⟩
           ·rw [if_neg c50] at H
            have c50b0 : decide (x6_3 < (l0_2.length : Int)) = false := decide_eq_false c50
            clear c50
            (first | rw [c50b0] | (simp only [i64_w, i32_w]; rw [c50b0]) | skip)
            have H' := Aside0.mk H
            clear H
            have hnb53 := NB133_134.out
            have hnc53 := NB134_133.out
            have hcz54_0 : wr.cell? ⟨gb133, 0, none⟩ = some (.int .i64 a0_0) := (blk_cell BK133.out 0).trans rfl
            have hcz54_1 : wr.cell? ⟨gb133, 1, none⟩ = some (.slice A0_1 l0_1.length c0_1) := (blk_cell BK133.out 1).trans rfl
            have hcz54_2 : wr.cell? ⟨gb133, 2, none⟩ = some (.slice A0_2 l0_2.length c0_2) := (blk_cell BK133.out 2).trans rfl
            have hfz54_0 := blk_frozen BK133.out 0
            have hfz54_1 := blk_frozen BK133.out 1
            have hfz54_2 := blk_frozen BK133.out 2
            have hcz55_0 : wr.cell? ⟨gb134, 0, none⟩ = some (.int .i64 a1_0) := (blk_cell BK134.out 0).trans rfl
            have hcz55_1 : wr.cell? ⟨gb134, 1, none⟩ = some (.slice A1_1 l1_1.length c1_1) := (blk_cell BK134.out 1).trans rfl
            have hcz55_2 : wr.cell? ⟨gb134, 2, none⟩ = some (.slice A1_2 l1_2.length c1_2) := (blk_cell BK134.out 2).trans rfl
            have hfz55_0 := blk_frozen BK134.out 0
            have hfz55_1 := blk_frozen BK134.out 1
            have hfz55_2 := blk_frozen BK134.out 2
            go_wp2
            repeat (go_quiet (fail); try go_wp2)
            go_meet
            case rel => exact ⟨_, (decide (x6_3 < (l1_2.length : Int))), (by first | rfl | (simp; done) | (simp [*]; done)), H', ⟨by have := HK1.out; have := HJ19.out; have := HK3.out; first | omega | exact Nat.le_refl _⟩, ⟨by (with_reducible repeat (first | refine blk_drewN ?_ _ | refine blk_drew ?_ | refine blk_alloc ?_ _)); exact BK133.out⟩, ⟨by (with_reducible repeat (first | refine blk_drewN ?_ _ | refine blk_drew ?_ | refine blk_alloc ?_ _)); exact BK134.out⟩, ⟨by repeat (first | (with_reducible first | exact HB.out | apply below_alloc | apply pw_below_drewN | apply below_drew1 | refine below_set ?_ GE133.out | refine below_set ?_ GE134.out) | exact HB.out)⟩⟩
          case rest =>
           clear HC49
           try clear c1
           try clear p1
           try clear q1
           try clear hx1
           try clear c2
           try clear p2
           try clear c3
           try clear c3b0
           try clear c4
           try clear c5
           try clear c6
           try clear p6
           try clear c9
           try clear c9b0
           try clear c12
           try clear p13
           try clear q13
           try clear hx13
           try clear c15
           try clear c17
           try clear c21
           try clear c21b0
           try clear c22
           try clear c24
           try clear c27
           try clear c28
           try clear c28b0
           try clear c29
           try clear c31
           try clear c31b0
           try clear c32
           try clear c35
           try clear c35b0
           try clear c36
           try clear c36b0
           try clear c37
           try clear c37b0
           try clear c38
           try clear c38b0
           try clear c39
           try clear c42
           try clear c42b0
           try clear c43
           try clear c46
           try clear c50
           try clear c50b0
           try clear c51
           try clear c53
           try clear hcz13_0
           try clear hcz13_1
           try clear hcz13_2
           try clear hcz14_0
           try clear hcz14_1
           try clear hcz14_2
           try clear hcz18_0
           try clear hcz18_1
           try clear hcz18_2
           try clear hcz19_0
           try clear hcz19_1
           try clear hcz19_2
           try clear hcz23_0
           try clear hcz23_1
           try clear hcz23_2
           try clear hcz25_0
           try clear hcz25_1
           try clear hcz25_2
           try clear hcz26_0
           try clear hcz26_1
           try clear hcz26_2
           try clear hcz30_0
           try clear hcz30_1
           try clear hcz30_2
           try clear hcz33_0
           try clear hcz33_1
           try clear hcz33_2
           try clear hcz34_0
           try clear hcz34_1
           try clear hcz34_2
           try clear hcz40_0
           try clear hcz40_1
           try clear hcz40_2
           try clear hcz41_0
           try clear hcz41_1
           try clear hcz41_2
           try clear hcz44_0
           try clear hcz44_1
           try clear hcz44_2
           try clear hcz45_0
           try clear hcz45_1
           try clear hcz45_2
           try clear hcz47_0
           try clear hcz47_1
           try clear hcz47_2
           try clear hcz48_0
           try clear hcz48_1
           try clear hcz48_2
           try clear hcz52_0
           try clear hcz52_1
           try clear hcz52_2
           try clear hcz54_0
           try clear hcz54_1
           try clear hcz54_2
           try clear hcz55_0
           try clear hcz55_1
           try clear hcz55_2
           try clear hcz7_0
           try clear hcz7_1
           try clear hcz7_2
           try clear hcz8_0
           try clear hcz8_1
           try clear hcz8_2
           try clear hfz13_0
           try clear hfz13_1
           try clear hfz13_2
           try clear hfz14_0
           try clear hfz14_1
           try clear hfz14_2
           try clear hfz18_0
           try clear hfz18_1
           try clear hfz18_2
           try clear hfz19_0
           try clear hfz19_1
           try clear hfz19_2
           try clear hfz23_0
           try clear hfz23_1
           try clear hfz23_2
           try clear hfz25_0
           try clear hfz25_1
           try clear hfz25_2
           try clear hfz26_0
           try clear hfz26_1
           try clear hfz26_2
           try clear hfz30_0
           try clear hfz30_1
           try clear hfz30_2
           try clear hfz33_0
           try clear hfz33_1
           try clear hfz33_2
           try clear hfz34_0
           try clear hfz34_1
           try clear hfz34_2
           try clear hfz40_0
           try clear hfz40_1
           try clear hfz40_2
           try clear hfz41_0
           try clear hfz41_1
           try clear hfz41_2
           try clear hfz44_0
           try clear hfz44_1
           try clear hfz44_2
           try clear hfz45_0
           try clear hfz45_1
           try clear hfz45_2
           try clear hfz47_0
           try clear hfz47_1
           try clear hfz47_2
           try clear hfz48_0
           try clear hfz48_1
           try clear hfz48_2
           try clear hfz52_0
           try clear hfz52_1
           try clear hfz52_2
           try clear hfz54_0
           try clear hfz54_1
           try clear hfz54_2
           try clear hfz55_0
           try clear hfz55_1
           try clear hfz55_2
           try clear hfz7_0
           try clear hfz7_1
           try clear hfz7_2
           try clear hfz8_0
           try clear hfz8_1
           try clear hfz8_2
           try clear hx135_0
           try clear hx136_0
           try clear hx137_0
           try clear hx138_0
           try clear p1
           try clear p13
           try clear p135
           try clear p136
           try clear p137
           try clear p138
           try clear p2
           try clear p6
           try clear q1
           try clear q13
           try clear q135
           try clear q136
           try clear q137
           try clear q138
           obtain ⟨kq, x74_48, rfl, HA, HJ48, BK133, BK134, HB⟩ := hcut
           cases kq with
           | zero => exact absurd HA.out (by simp [gristmillref04_Compare.j3])
           | succ kj48 =>
            have H := HA.out
            clear HA
            simp only [gristmillref04_Compare.j3] at H
            by_cases c56 : x74_48 = true
            ·subst c56
             have H1 : (if x6_3 ≥ (l0_2.length : Int) then (some (-1)) else (if x6_3 ≥ (l1_2.length : Int) then (some 1) else (if 0 ≤ x6_3 then (if x6_3 < (l0_2.length : Int) then (if x6_3 < (l1_2.length : Int) then (if (rd l0_2 x6_3) < (rd l1_2 x6_3) then (some (-1)) else (if (rd l0_2 x6_3) > (rd l1_2 x6_3) then (some 1) else (gristmillref04_Compare.l1 kj48 (wrap64 (x6_3 + 1)) a0_0 l0_1 l0_2 a1_0 l1_1 l1_2))) else (none)) else (none)) else (none)))) = some r := by rw [if_pos rfl] at H; exact H
             clear H
             have H := H1
             clear H1
             by_cases c57 : x6_3 ≥ (l0_2.length : Int)
             ·rw [if_pos c57] at H
              have c57b0 : decide ((l0_2.length : Int) ≤ x6_3) = true := decide_eq_true c57
              clear c57
              obtain rfl := Option.some.inj H
              have hnb58 := NB133_134.out
              have hnc58 := NB134_133.out
              have hcz59_0 : wc.cell? ⟨gb133, 0, none⟩ = some (.int .i64 a0_0) := (blk_cell BK133.out 0).trans rfl
              have hcz59_1 : wc.cell? ⟨gb133, 1, none⟩ = some (.slice A0_1 l0_1.length c0_1) := (blk_cell BK133.out 1).trans rfl
              have hcz59_2 : wc.cell? ⟨gb133, 2, none⟩ = some (.slice A0_2 l0_2.length c0_2) := (blk_cell BK133.out 2).trans rfl
              have hfz59_0 := blk_frozen BK133.out 0
              have hfz59_1 := blk_frozen BK133.out 1
              have hfz59_2 := blk_frozen BK133.out 2
              go_wp2
              repeat (go_quiet (fail); try go_wp2)
              go_ret
              exact ⟨by first | rfl | (simp [errW_none, errW_some] <;> rfl) | (simp [*, errW_none, errW_some] <;> rfl), by repeat (first | (with_reducible first | exact HB.out | apply below_alloc | apply pw_below_drewN | apply below_drew1 | refine below_set ?_ GE133.out | refine below_set ?_ GE134.out) | exact HB.out)⟩
             ·rw [if_neg c57] at H
              have c57b0 : decide ((l0_2.length : Int) ≤ x6_3) = false := decide_eq_false c57
              clear c57
              by_cases c60 : x6_3 ≥ (l1_2.length : Int)
              ·rw [if_pos c60] at H
               have c60b0 : decide ((l1_2.length : Int) ≤ x6_3) = true := decide_eq_true c60
               clear c60
               obtain rfl := Option.some.inj H
               have hnb61 := NB133_134.out
               have hnc61 := NB134_133.out
               have hcz62_0 : wc.cell? ⟨gb133, 0, none⟩ = some (.int .i64 a0_0) := (blk_cell BK133.out 0).trans rfl
               have hcz62_1 : wc.cell? ⟨gb133, 1, none⟩ = some (.slice A0_1 l0_1.length c0_1) := (blk_cell BK133.out 1).trans rfl
               have hcz62_2 : wc.cell? ⟨gb133, 2, none⟩ = some (.slice A0_2 l0_2.length c0_2) := (blk_cell BK133.out 2).trans rfl
               have hfz62_0 := blk_frozen BK133.out 0
               have hfz62_1 := blk_frozen BK133.out 1
               have hfz62_2 := blk_frozen BK133.out 2
               have hcz63_0 : wc.cell? ⟨gb134, 0, none⟩ = some (.int .i64 a1_0) := (blk_cell BK134.out 0).trans rfl
               have hcz63_1 : wc.cell? ⟨gb134, 1, none⟩ = some (.slice A1_1 l1_1.length c1_1) := (blk_cell BK134.out 1).trans rfl
               have hcz63_2 : wc.cell? ⟨gb134, 2, none⟩ = some (.slice A1_2 l1_2.length c1_2) := (blk_cell BK134.out 2).trans rfl
               have hfz63_0 := blk_frozen BK134.out 0
               have hfz63_1 := blk_frozen BK134.out 1
               have hfz63_2 := blk_frozen BK134.out 2
               go_wp2
               repeat (go_quiet (fail); try go_wp2)
               go_ret
               exact ⟨by first | rfl | (simp [errW_none, errW_some] <;> rfl) | (simp [*, errW_none, errW_some] <;> rfl), by repeat (first | (with_reducible first | exact HB.out | apply below_alloc | apply pw_below_drewN | apply below_drew1 | refine below_set ?_ GE133.out | refine below_set ?_ GE134.out) | exact HB.out)⟩
              ·rw [if_neg c60] at H
               have c60b0 : decide ((l1_2.length : Int) ≤ x6_3) = false := decide_eq_false c60
               clear c60
               by_cases c64 : 0 ≤ x6_3
               ·rw [if_pos c64] at H
                have c64b0 : decide (0 ≤ x6_3) = true := decide_eq_true c64
                clear c64
                by_cases c65 : x6_3 < (l0_2.length : Int)
                ·rw [if_pos c65] at H
                 have c65b0 : decide (x6_3 < (l0_2.length : Int)) = true := decide_eq_true c65
                 clear c65
                 by_cases c66 : x6_3 < (l1_2.length : Int)
                 ·rw [if_pos c66] at H
                  have c66b0 : decide (x6_3 < (l1_2.length : Int)) = true := decide_eq_true c66
                  clear c66
                  by_cases c67 : (rd l0_2 x6_3) < (rd l1_2 x6_3)
                  ·rw [if_pos c67] at H
                   have c67b0 : decide ((rd l0_2 x6_3) < (rd l1_2 x6_3)) = true := decide_eq_true c67
                   clear c67
                   obtain rfl := Option.some.inj H
                   have hnb68 := NB133_134.out
                   have hnc68 := NB134_133.out
                   have hcz69_0 : wc.cell? ⟨gb133, 0, none⟩ = some (.int .i64 a0_0) := (blk_cell BK133.out 0).trans rfl
                   have hcz69_1 : wc.cell? ⟨gb133, 1, none⟩ = some (.slice A0_1 l0_1.length c0_1) := (blk_cell BK133.out 1).trans rfl
                   have hcz69_2 : wc.cell? ⟨gb133, 2, none⟩ = some (.slice A0_2 l0_2.length c0_2) := (blk_cell BK133.out 2).trans rfl
                   have hfz69_0 := blk_frozen BK133.out 0
                   have hfz69_1 := blk_frozen BK133.out 1
                   have hfz69_2 := blk_frozen BK133.out 2
                   have hcz70_0 : wc.cell? ⟨gb134, 0, none⟩ = some (.int .i64 a1_0) := (blk_cell BK134.out 0).trans rfl
                   have hcz70_1 : wc.cell? ⟨gb134, 1, none⟩ = some (.slice A1_1 l1_1.length c1_1) := (blk_cell BK134.out 1).trans rfl
                   have hcz70_2 : wc.cell? ⟨gb134, 2, none⟩ = some (.slice A1_2 l1_2.length c1_2) := (blk_cell BK134.out 2).trans rfl
                   have hfz70_0 := blk_frozen BK134.out 0
                   have hfz70_1 := blk_frozen BK134.out 1
                   have hfz70_2 := blk_frozen BK134.out 2
                   have p139 : 0 ≤ (x6_3 : Int) := of_decide_eq_true (by assumption)
                   have q139 : x6_3 < (l0_2.length : Int) := of_decide_eq_true (by assumption)
                   obtain ⟨ad139, e139, hx139_0⟩ := Kd.at_int HR0_2.out x6_3 p139 q139
                   cases e139
                   replace hx139_0 := pw_cell_below HB.out hx139_0
                   replace p139 := eq_true p139
                   replace q139 := eq_true q139
                   have p140 : 0 ≤ (x6_3 : Int) := of_decide_eq_true (by assumption)
                   have q140 : x6_3 < (l1_2.length : Int) := of_decide_eq_true (by assumption)
                   obtain ⟨ad140, e140, hx140_0⟩ := Kd.at_int HR1_2.out x6_3 p140 q140
                   cases e140
                   replace hx140_0 := pw_cell_below HB.out hx140_0
                   replace p140 := eq_true p140
                   replace q140 := eq_true q140
                   go_wp2
                   repeat (go_quiet (fail); try go_wp2)
                   go_ret
                   exact ⟨by first | rfl | (simp [errW_none, errW_some] <;> rfl) | (simp [*, errW_none, errW_some] <;> rfl), by repeat (first | (with_reducible first | exact HB.out | apply below_alloc | apply pw_below_drewN | apply below_drew1 | refine below_set ?_ GE133.out | refine below_set ?_ GE134.out) | exact HB.out)⟩
                  ·rw [if_neg c67] at H
                   have c67b0 : decide ((rd l0_2 x6_3) < (rd l1_2 x6_3)) = false := decide_eq_false c67
                   clear c67
                   by_cases c71 : (rd l0_2 x6_3) > (rd l1_2 x6_3)
                   ·rw [if_pos c71] at H
                    have c71b0 : decide ((rd l1_2 x6_3) < (rd l0_2 x6_3)) = true := decide_eq_true c71
                    clear c71
                    obtain rfl := Option.some.inj H
                    have hnb72 := NB133_134.out
                    have hnc72 := NB134_133.out
                    have hcz73_0 : wc.cell? ⟨gb133, 0, none⟩ = some (.int .i64 a0_0) := (blk_cell BK133.out 0).trans rfl
                    have hcz73_1 : wc.cell? ⟨gb133, 1, none⟩ = some (.slice A0_1 l0_1.length c0_1) := (blk_cell BK133.out 1).trans rfl
                    have hcz73_2 : wc.cell? ⟨gb133, 2, none⟩ = some (.slice A0_2 l0_2.length c0_2) := (blk_cell BK133.out 2).trans rfl
                    have hfz73_0 := blk_frozen BK133.out 0
                    have hfz73_1 := blk_frozen BK133.out 1
                    have hfz73_2 := blk_frozen BK133.out 2
                    have hcz74_0 : wc.cell? ⟨gb134, 0, none⟩ = some (.int .i64 a1_0) := (blk_cell BK134.out 0).trans rfl
                    have hcz74_1 : wc.cell? ⟨gb134, 1, none⟩ = some (.slice A1_1 l1_1.length c1_1) := (blk_cell BK134.out 1).trans rfl
                    have hcz74_2 : wc.cell? ⟨gb134, 2, none⟩ = some (.slice A1_2 l1_2.length c1_2) := (blk_cell BK134.out 2).trans rfl
                    have hfz74_0 := blk_frozen BK134.out 0
                    have hfz74_1 := blk_frozen BK134.out 1
                    have hfz74_2 := blk_frozen BK134.out 2
                    have p139 : 0 ≤ (x6_3 : Int) := of_decide_eq_true (by assumption)
                    have q139 : x6_3 < (l0_2.length : Int) := of_decide_eq_true (by assumption)
                    obtain ⟨ad139, e139, hx139_0⟩ := Kd.at_int HR0_2.out x6_3 p139 q139
                    cases e139
                    replace hx139_0 := pw_cell_below HB.out hx139_0
                    replace p139 := eq_true p139
                    replace q139 := eq_true q139
                    have p140 : 0 ≤ (x6_3 : Int) := of_decide_eq_true (by assumption)
                    have q140 : x6_3 < (l1_2.length : Int) := of_decide_eq_true (by assumption)
                    obtain ⟨ad140, e140, hx140_0⟩ := Kd.at_int HR1_2.out x6_3 p140 q140
                    cases e140
                    replace hx140_0 := pw_cell_below HB.out hx140_0
                    replace p140 := eq_true p140
                    replace q140 := eq_true q140
                    have p141 : 0 ≤ (x6_3 : Int) := of_decide_eq_true (by assumption)
                    have q141 : x6_3 < (l0_2.length : Int) := of_decide_eq_true (by assumption)
                    obtain ⟨ad141, e141, hx141_0⟩ := Kd.at_int HR0_2.out x6_3 p141 q141
                    obtain rfl : ad139 = ad141 := (by injection e141)
                    replace hx141_0 := pw_cell_below HB.out hx141_0
                    replace p141 := eq_true p141
                    replace q141 := eq_true q141
                    have p142 : 0 ≤ (x6_3 : Int) := of_decide_eq_true (by assumption)
                    have q142 : x6_3 < (l1_2.length : Int) := of_decide_eq_true (by assumption)
                    obtain ⟨ad142, e142, hx142_0⟩ := Kd.at_int HR1_2.out x6_3 p142 q142
                    obtain rfl : ad140 = ad142 := (by injection e142)
                    replace hx142_0 := pw_cell_below HB.out hx142_0
                    replace p142 := eq_true p142
                    replace q142 := eq_true q142
                    go_wp2
                    repeat (go_quiet (fail); try go_wp2)
                    go_ret
                    exact ⟨by first | rfl | (simp [errW_none, errW_some] <;> rfl) | (simp [*, errW_none, errW_some] <;> rfl), by repeat (first | (with_reducible first | exact HB.out | apply below_alloc | apply pw_below_drewN | apply below_drew1 | refine below_set ?_ GE133.out | refine below_set ?_ GE134.out) | exact HB.out)⟩
                   ·rw [if_neg c71] at H
                    have c71b0 : decide ((rd l1_2 x6_3) < (rd l0_2 x6_3)) = false := decide_eq_false c71
                    clear c71
                    have H' := Aside0.mk H
                    clear H
                    have hnb75 := NB133_134.out
                    have hnc75 := NB134_133.out
                    have hcz76_0 : wc.cell? ⟨gb133, 0, none⟩ = some (.int .i64 a0_0) := (blk_cell BK133.out 0).trans rfl
                    have hcz76_1 : wc.cell? ⟨gb133, 1, none⟩ = some (.slice A0_1 l0_1.length c0_1) := (blk_cell BK133.out 1).trans rfl
                    have hcz76_2 : wc.cell? ⟨gb133, 2, none⟩ = some (.slice A0_2 l0_2.length c0_2) := (blk_cell BK133.out 2).trans rfl
                    have hfz76_0 := blk_frozen BK133.out 0
                    have hfz76_1 := blk_frozen BK133.out 1
                    have hfz76_2 := blk_frozen BK133.out 2
                    have hcz77_0 : wc.cell? ⟨gb134, 0, none⟩ = some (.int .i64 a1_0) := (blk_cell BK134.out 0).trans rfl
                    have hcz77_1 : wc.cell? ⟨gb134, 1, none⟩ = some (.slice A1_1 l1_1.length c1_1) := (blk_cell BK134.out 1).trans rfl
                    have hcz77_2 : wc.cell? ⟨gb134, 2, none⟩ = some (.slice A1_2 l1_2.length c1_2) := (blk_cell BK134.out 2).trans rfl
                    have hfz77_0 := blk_frozen BK134.out 0
                    have hfz77_1 := blk_frozen BK134.out 1
                    have hfz77_2 := blk_frozen BK134.out 2
                    have p139 : 0 ≤ (x6_3 : Int) := of_decide_eq_true (by assumption)
                    have q139 : x6_3 < (l0_2.length : Int) := of_decide_eq_true (by assumption)
                    obtain ⟨ad139, e139, hx139_0⟩ := Kd.at_int HR0_2.out x6_3 p139 q139
                    cases e139
                    replace hx139_0 := pw_cell_below HB.out hx139_0
                    replace p139 := eq_true p139
                    replace q139 := eq_true q139
                    have p140 : 0 ≤ (x6_3 : Int) := of_decide_eq_true (by assumption)
                    have q140 : x6_3 < (l1_2.length : Int) := of_decide_eq_true (by assumption)
                    obtain ⟨ad140, e140, hx140_0⟩ := Kd.at_int HR1_2.out x6_3 p140 q140
                    cases e140
                    replace hx140_0 := pw_cell_below HB.out hx140_0
                    replace p140 := eq_true p140
                    replace q140 := eq_true q140
                    have p141 : 0 ≤ (x6_3 : Int) := of_decide_eq_true (by assumption)
                    have q141 : x6_3 < (l0_2.length : Int) := of_decide_eq_true (by assumption)
                    obtain ⟨ad141, e141, hx141_0⟩ := Kd.at_int HR0_2.out x6_3 p141 q141
                    obtain rfl : ad139 = ad141 := (by injection e141)
                    replace hx141_0 := pw_cell_below HB.out hx141_0
                    replace p141 := eq_true p141
                    replace q141 := eq_true q141
                    have p142 : 0 ≤ (x6_3 : Int) := of_decide_eq_true (by assumption)
                    have q142 : x6_3 < (l1_2.length : Int) := of_decide_eq_true (by assumption)
                    obtain ⟨ad142, e142, hx142_0⟩ := Kd.at_int HR1_2.out x6_3 p142 q142
                    obtain rfl : ad140 = ad142 := (by injection e142)
                    replace hx142_0 := pw_cell_below HB.out hx142_0
                    replace p142 := eq_true p142
                    replace q142 := eq_true q142
                    go_wp2
                    repeat (go_quiet (fail); try go_wp2)
                    go_roundg kj48
                    case measure => have := HK1.out; have := HJ19.out; have := HK3.out; have := HJ48.out; omega
                    case rel => exact ⟨(wrap64 (x6_3 + 1)), (by first | rfl | (simp; done) | (simp [*]; done)), H', ⟨by have := HK1.out; have := HJ19.out; have := HK3.out; have := HJ48.out; omega⟩, ⟨by (with_reducible repeat (first | refine blk_drewN ?_ _ | refine blk_drew ?_ | refine blk_alloc ?_ _)); exact BK133.out⟩, ⟨by (with_reducible repeat (first | refine blk_drewN ?_ _ | refine blk_drew ?_ | refine blk_alloc ?_ _)); exact BK134.out⟩, ⟨by repeat (first | (with_reducible first | exact HB.out | apply below_alloc | apply pw_below_drewN | apply below_drew1 | refine below_set ?_ GE133.out | refine below_set ?_ GE134.out) | exact HB.out)⟩⟩
                 ·rw [if_neg c66] at H
                  exact absurd H (by simp)
                ·rw [if_neg c65] at H
                 exact absurd H (by simp)
               ·rw [if_neg c64] at H
                exact absurd H (by simp)
            ·replace c56 := Bool.eq_false_iff.mpr c56
             subst c56
             have H1 : (some 0) = some r := by rw [if_neg (show ¬ (false = true) by decide)] at H; exact H
             clear H
             have H := H1
             clear H1
             obtain rfl := Option.some.inj H
             go_wp2
             repeat (go_quiet (fail); try go_wp2)
             go_ret
             exact ⟨by first | rfl | (simp [errW_none, errW_some] <;> rfl) | (simp [*, errW_none, errW_some] <;> rfl), by repeat (first | (with_reducible first | exact HB.out | apply below_alloc | apply pw_below_drewN | apply below_drew1 | refine below_set ?_ GE133.out | refine below_set ?_ GE134.out) | exact HB.out)⟩
end Go.Proofs.Ytfeeahjaeapkoaa.P
end

section
namespace Go.Proofs.Ytfeeahjaeapkoaa.P
open Go.RowKit Go.Proofs.YtfeeahjaeapkoaaW.PrintWords Go.Proofs.YtfeeahjaeapkoaaW.PrintLast Go.Proofs.YtfeeahjaeapkoaaW.PrintMore
attribute [local go_sem] max2_int min2_int max_two min_two max_three min_three max_four min_four   -- for this text's walks alone
set_option linter.unusedVariables false
set_option linter.unusedSimpArgs false
open Go.Proofs.Ytfeeahjaeapkoaa.Ext (q1_ q2_ q3_ bk_ bw_ sz_ ne_ bx_)
attribute [local go_sem high] Go.Proofs.Ytfeeahjaeapkoaa.Ext.gtr_str Go.Proofs.Ytfeeahjaeapkoaa.Ext.leq_str Go.Proofs.Ytfeeahjaeapkoaa.Ext.geq_str
def gristmillref04_Is.l0 : Nat → List (S40) → List (S40) → Int → Option (Bool)
 | 0, _, _, _ => none
 | k + 1, x0, x1, x5 => if x5 < (x0.length : Int) then (if 0 ≤ x5 then (if x5 < (x1.length : Int) then (if ((rd_T40 x0 x5).f1) = ((rd_T40 x1 x5).f1) then ((gristmillref04_Compare.f k ((rd_T40 x0 x5).f0.f0) ((rd_T40 x0 x5).f0.f1) ((rd_T40 x0 x5).f0.f2) ((rd_T40 x1 x5).f0.f0) ((rd_T40 x1 x5).f0.f1) ((rd_T40 x1 x5).f0.f2)).bind fun t181 => (if t181 = 0 then (gristmillref04_Is.l0 k x0 x1 (wrap64 (x5 + 1))) else (some false))) else (some false)) else (none)) else (none)) else (some true)
def gristmillref04_Is.f (k : Nat) (l0 : List (S40)) (l1 : List (S40)) : Option (Bool) := if (l0.length : Int) = (l1.length : Int) then (gristmillref04_Is.l0 k l0 l1 0) else (some false)
def gristmillref04_Is.T6 : Bool × List (List Nat × List Nat) := (true, [([], []), ([], []), ([0, 1], [0, 1]), ([2], [2]), ([3], [3]), ([], []), ([], []), ([5, 6], [5, 6]), ([7], [7]), ([8], [8]), ([4, 9], [4, 9]), ([10], [10]), ([11], [11]), ([11], [11]), ([12, 13, 11], [11, 12, 13]), ([14, 11], [11, 14]), ([15, 11], [11, 15]), ([11], [11]), ([11], [11]), ([17, 18, 11], [11, 17, 18]), ([19, 11], [11, 19]), ([20, 11], [11, 20]), ([16, 21, 11, 11], [11, 16, 21]), ([22, 11], [11, 22]), ([11, 23], [11, 23])])
def gristmillref04_Is.B6 : List Nat := [0, 0, 3, 7, 15, 0, 0, 96, 224, 480, 1023, 2047, 4095, 4095, 16383, 32767, 65535, 4095, 4095, 397311, 921599, 1970175, 4194303, 8388607, 16777215]
theorem gristmillref04_Is.tab6 : rtab .any (opsOf Try.f18 6) = gristmillref04_Is.T6 := by kernel_rfl
theorem gristmillref04_Is.bits6 : waitsOk gristmillref04_Is.T6.2 gristmillref04_Is.B6 = true := by kernel_rfl
set_option maxHeartbeats 8000000 in
set_option maxRecDepth 100000 in
theorem gristmillref04_Is.calls (k : Nat) (A0 : Option Addr) (c0 : Nat) (l0 : List (S40)) (A1 : Option Addr) (c1 : Nat) (l1 : List (S40)) (r : Bool) (w : World) (hr0 : Kd.C k40 w A0 l0.length l0) (hc0 : l0.length ≤ c0) (hr1 : Kd.C k40 w A1 l1.length l1) (hc1 : l1.length ≤ c1) (h : gristmillref04_Is.f k l0 l1 = some r) :
  Calls Try.prog 18 #[.slice A0 l0.length c0, .slice A1 l1.length c1] w fun e w' => e = .returned (.bool r) ∧ Below w.heap.size w w' := by
 have hu27 := Try.underlying27
 have HR0 := Aside0.mk hr0
 have HC0 := Aside0.mk hc0
 clear hr0 hc0
 have HR1 := Aside0.mk hr1
 have HC1 := Aside0.mk hc1
 clear hr1 hc1
 have HB := Aside0.mk (Below.refl w.heap.size w)
 have H : (if (l0.length : Int) = (l1.length : Int) then (gristmillref04_Is.l0 k l0 l1 0) else (some false)) = some r := h
 clear h
 by_cases c3 : (l0.length : Int) = (l1.length : Int)
 ·rw [if_pos c3] at H
  have c3b0 : ((l0.length : Int) == (l1.length : Int)) = true := beq_iff_eq.mpr c3
  have c3b1 : ((l0.length : Int) != (l1.length : Int)) = false := bne_eq_false_iff_eq.mpr c3
  have c3b2 : (l0.length == l1.length) = true := by first | simpa using c3 | (simp at c3 ⊢; omega)
  clear c3
  have H' := Aside0.mk H
  clear H
  go_enter Try.func18, Try.ntmps18
  go_wp2
  go_loopg [5] k (fun kq v5 w' => ∃ (x5_1 : Int), v5 = .int .i64 x5_1 ∧ Aside0 (gristmillref04_Is.l0 kq l0 l1 x5_1 = some r) ∧ Aside0 (kq ≤ k) ∧ Aside0 (Below w.heap.size w w'))
  case atStart => exact ⟨(0), (by first | rfl | (simp; done) | (simp [*]; done)), H', ⟨Nat.le_refl _⟩, ⟨by repeat (first | (with_reducible first | exact HB.out | apply below_alloc | apply pw_below_drewN | apply below_drew1) | exact HB.out)⟩⟩
  case round =>
   clear H'
   try clear c1
   try clear p2
   try clear c3
   try clear c3b0
   try clear c3b1
   try clear c3b2
   obtain ⟨x5_1, rfl, HA, HK1, HB⟩ := hrel
   cases gk with
   | zero => exact absurd HA.out (by simp [gristmillref04_Is.l0])
   | succ k1 =>
    have H := HA.out
    clear HA
    simp only [gristmillref04_Is.l0] at H
    by_cases c4 : x5_1 < (l0.length : Int)
    ·rw [if_pos c4] at H
     have c4b0 : decide (x5_1 < (l0.length : Int)) = true := decide_eq_true c4
     clear c4
     by_cases c5 : 0 ≤ x5_1
     ·rw [if_pos c5] at H
      have c5b0 : decide (0 ≤ x5_1) = true := decide_eq_true c5
      clear c5
      by_cases c6 : x5_1 < (l1.length : Int)
      ·rw [if_pos c6] at H
       have c6b0 : decide (x5_1 < (l1.length : Int)) = true := decide_eq_true c6
       clear c6
       by_cases c7 : ((rd_T40 l0 x5_1).f1) = ((rd_T40 l1 x5_1).f1)
       ·rw [if_pos c7] at H
        have c7b0 : (((rd_T40 l0 x5_1).f1) == ((rd_T40 l1 x5_1).f1)) = true := beq_iff_eq.mpr c7
        have c7b1 : (((rd_T40 l0 x5_1).f1) != ((rd_T40 l1 x5_1).f1)) = false := bne_eq_false_iff_eq.mpr c7
        clear c7
        replace H := Option.bind_eq_some_iff.mp H
        obtain ⟨t181, A80, H⟩ := H
        replace H : (if t181 = 0 then (gristmillref04_Is.l0 k1 l0 l1 (wrap64 (x5_1 + 1))) else (some false)) = some r := H
        have A8 := Aside0.mk A80
        clear A80
        by_cases c9 : t181 = 0
        ·rw [if_pos c9] at H
         have c9b0 : (t181 == 0) = true := beq_iff_eq.mpr c9
         have c9b1 : (t181 != 0) = false := bne_eq_false_iff_eq.mpr c9
         clear c9
         have H' := Aside0.mk H
         clear H
         try go_wp2
         have n0_ := Aside0.mk (below_drew1 HB.out)
         clear HB
         have HB := n0_
         clear n0_
         have p177 : 0 ≤ (x5_1 : Int) := of_decide_eq_true (by assumption)
         have q177 : x5_1 < (l0.length : Int) := of_decide_eq_true (by assumption)
         obtain ⟨ad177, A177_1, c177_1, A177_2, c177_2, e177, hx177_0, hx177_1, hx177_2, hx177_3, hl177_1, hi177_1, hl177_2, hi177_2⟩ := at_T40 HR0.out x5_1 p177 q177
         have hw177_3 := hx177_3
         have hw177_2 := hx177_2
         have hw177_1 := hx177_1
         have hw177_0 := hx177_0
         cases e177
         replace hx177_0 := pw_cell_below HB.out hx177_0
         replace hx177_1 := pw_cell_below HB.out hx177_1
         replace hx177_2 := pw_cell_below HB.out hx177_2
         replace hx177_3 := pw_cell_below HB.out hx177_3
         have HR177_1 := Aside0.mk hi177_1
         have HC177_1 := Aside0.mk hl177_1
         clear hi177_1 hl177_1
         have HR177_2 := Aside0.mk hi177_2
         have HC177_2 := Aside0.mk hl177_2
         clear hi177_2 hl177_2
         replace p177 := eq_true p177
         replace q177 := eq_true q177
         have p178 : 0 ≤ (x5_1 : Int) := of_decide_eq_true (by assumption)
         have q178 : x5_1 < (l1.length : Int) := of_decide_eq_true (by assumption)
         obtain ⟨ad178, A178_1, c178_1, A178_2, c178_2, e178, hx178_0, hx178_1, hx178_2, hx178_3, hl178_1, hi178_1, hl178_2, hi178_2⟩ := at_T40 HR1.out x5_1 p178 q178
         have hw178_3 := hx178_3
         have hw178_2 := hx178_2
         have hw178_1 := hx178_1
         have hw178_0 := hx178_0
         cases e178
         replace hx178_0 := pw_cell_below HB.out hx178_0
         replace hx178_1 := pw_cell_below HB.out hx178_1
         replace hx178_2 := pw_cell_below HB.out hx178_2
         replace hx178_3 := pw_cell_below HB.out hx178_3
         have HR178_1 := Aside0.mk hi178_1
         have HC178_1 := Aside0.mk hl178_1
         clear hi178_1 hl178_1
         have HR178_2 := Aside0.mk hi178_2
         have HC178_2 := Aside0.mk hl178_2
         clear hi178_2 hl178_2
         replace p178 := eq_true p178
         replace q178 := eq_true q178
         have p179 : 0 ≤ (x5_1 : Int) := of_decide_eq_true (by assumption)
         have q179 : x5_1 < (l0.length : Int) := of_decide_eq_true (by assumption)
         obtain ⟨ad179, A179_1, c179_1, A179_2, c179_2, e179, hx179_0, hx179_1, hx179_2, hx179_3, hl179_1, hi179_1, hl179_2, hi179_2⟩ := at_T40 HR0.out x5_1 p179 q179
         have hw179_3 := hx179_3
         have hw179_2 := hx179_2
         have hw179_1 := hx179_1
         have hw179_0 := hx179_0
         obtain rfl : ad177 = ad179 := (by injection e179)
         replace hx179_0 := pw_cell_below HB.out hx179_0
         replace hx179_1 := pw_cell_below HB.out hx179_1
         replace hx179_2 := pw_cell_below HB.out hx179_2
         replace hx179_3 := pw_cell_below HB.out hx179_3
         have HR179_1 := Aside0.mk hi179_1
         have HC179_1 := Aside0.mk hl179_1
         clear hi179_1 hl179_1
         have HR179_2 := Aside0.mk hi179_2
         have HC179_2 := Aside0.mk hl179_2
         clear hi179_2 hl179_2
         replace p179 := eq_true p179
         replace q179 := eq_true q179
         have ea_ := Option.some.inj (hx177_1.symm.trans hx179_1)
         injection ea_ with ea_ en_ ec_
         subst ea_
         subst ec_
         clear en_
         have ea_ := Option.some.inj (hx177_2.symm.trans hx179_2)
         injection ea_ with ea_ en_ ec_
         subst ea_
         subst ec_
         clear en_
         have p180 : 0 ≤ (x5_1 : Int) := of_decide_eq_true (by assumption)
         have q180 : x5_1 < (l1.length : Int) := of_decide_eq_true (by assumption)
         obtain ⟨ad180, A180_1, c180_1, A180_2, c180_2, e180, hx180_0, hx180_1, hx180_2, hx180_3, hl180_1, hi180_1, hl180_2, hi180_2⟩ := at_T40 HR1.out x5_1 p180 q180
         have hw180_3 := hx180_3
         have hw180_2 := hx180_2
         have hw180_1 := hx180_1
         have hw180_0 := hx180_0
         obtain rfl : ad178 = ad180 := (by injection e180)
         replace hx180_0 := pw_cell_below HB.out hx180_0
         replace hx180_1 := pw_cell_below HB.out hx180_1
         replace hx180_2 := pw_cell_below HB.out hx180_2
         replace hx180_3 := pw_cell_below HB.out hx180_3
         have HR180_1 := Aside0.mk hi180_1
         have HC180_1 := Aside0.mk hl180_1
         clear hi180_1 hl180_1
         have HR180_2 := Aside0.mk hi180_2
         have HC180_2 := Aside0.mk hl180_2
         clear hi180_2 hl180_2
         replace p180 := eq_true p180
         replace q180 := eq_true q180
         have ea_ := Option.some.inj (hx178_1.symm.trans hx180_1)
         injection ea_ with ea_ en_ ec_
         subst ea_
         subst ec_
         clear en_
         have ea_ := Option.some.inj (hx178_2.symm.trans hx180_2)
         injection ea_ with ea_ en_ ec_
         subst ea_
         subst ec_
         clear en_
         refine start_ (n := 25) (S := fun w' => w'.cell? (ad177.add ((x5_1).toNat * 4)) = some (.int .i64 ((rd_T40 l0 x5_1).f0.f0)) ∧ w'.cell? ⟨(ad177.add ((x5_1).toNat * 4)).block, (ad177.add ((x5_1).toNat * 4)).off + 1, none⟩ = some (.slice A177_1 ((rd_T40 l0 x5_1).f0.f1).length c177_1) ∧ w'.cell? ⟨(ad177.add ((x5_1).toNat * 4)).block, (ad177.add ((x5_1).toNat * 4)).off + 2, none⟩ = some (.slice A177_2 ((rd_T40 l0 x5_1).f0.f2).length c177_2) ∧ w'.cell? ⟨(ad177.add ((x5_1).toNat * 4)).block, (ad177.add ((x5_1).toNat * 4)).off + 3, none⟩ = some (.int .u64 ((rd_T40 l0 x5_1).f1)) ∧ w'.cell? (ad178.add ((x5_1).toNat * 4)) = some (.int .i64 ((rd_T40 l1 x5_1).f0.f0)) ∧ w'.cell? ⟨(ad178.add ((x5_1).toNat * 4)).block, (ad178.add ((x5_1).toNat * 4)).off + 1, none⟩ = some (.slice A178_1 ((rd_T40 l1 x5_1).f0.f1).length c178_1) ∧ w'.cell? ⟨(ad178.add ((x5_1).toNat * 4)).block, (ad178.add ((x5_1).toNat * 4)).off + 2, none⟩ = some (.slice A178_2 ((rd_T40 l1 x5_1).f0.f2).length c178_2) ∧ w'.cell? ⟨(ad178.add ((x5_1).toNat * 4)).block, (ad178.add ((x5_1).toNat * 4)).off + 3, none⟩ = some (.int .u64 ((rd_T40 l1 x5_1).f1)) ∧ w'.cell? (ad177.add ((x5_1).toNat * 4)) = some (.int .i64 ((rd_T40 l0 x5_1).f0.f0)) ∧ w'.cell? ⟨(ad177.add ((x5_1).toNat * 4)).block, (ad177.add ((x5_1).toNat * 4)).off + 1, none⟩ = some (.slice A177_1 ((rd_T40 l0 x5_1).f0.f1).length c177_1) ∧ w'.cell? ⟨(ad177.add ((x5_1).toNat * 4)).block, (ad177.add ((x5_1).toNat * 4)).off + 2, none⟩ = some (.slice A177_2 ((rd_T40 l0 x5_1).f0.f2).length c177_2) ∧ w'.cell? ⟨(ad177.add ((x5_1).toNat * 4)).block, (ad177.add ((x5_1).toNat * 4)).off + 3, none⟩ = some (.int .u64 ((rd_T40 l0 x5_1).f1)) ∧ w'.cell? (ad178.add ((x5_1).toNat * 4)) = some (.int .i64 ((rd_T40 l1 x5_1).f0.f0)) ∧ w'.cell? ⟨(ad178.add ((x5_1).toNat * 4)).block, (ad178.add ((x5_1).toNat * 4)).off + 1, none⟩ = some (.slice A178_1 ((rd_T40 l1 x5_1).f0.f1).length c178_1) ∧ w'.cell? ⟨(ad178.add ((x5_1).toNat * 4)).block, (ad178.add ((x5_1).toNat * 4)).off + 2, none⟩ = some (.slice A178_2 ((rd_T40 l1 x5_1).f0.f2).length c178_2) ∧ w'.cell? ⟨(ad178.add ((x5_1).toNat * 4)).block, (ad178.add ((x5_1).toNat * 4)).off + 3, none⟩ = some (.int .u64 ((rd_T40 l1 x5_1).f1))) (ds := []) #[false, false, false, false, false, false, false, false, false, false, false, false, false, false, false, false, false, false, false, false, false, false, false, false, false] (by kernel_rfl) rfl rfl ⟨(pw_cell_below HB.out hw177_0), (pw_cell_below HB.out hw177_1), (pw_cell_below HB.out hw177_2), (pw_cell_below HB.out hw177_3), (pw_cell_below HB.out hw178_0), (pw_cell_below HB.out hw178_1), (pw_cell_below HB.out hw178_2), (pw_cell_below HB.out hw178_3), (pw_cell_below HB.out hw179_0), (pw_cell_below HB.out hw179_1), (pw_cell_below HB.out hw179_2), (pw_cell_below HB.out hw179_3), (pw_cell_below HB.out hw180_0), (pw_cell_below HB.out hw180_1), (pw_cell_below HB.out hw180_2), (pw_cell_below HB.out hw180_3)⟩ (fun hHeld => ?_); refine with_tabW gristmillref04_Is.tab6 gristmillref04_Is.bits6 (fun HT_ HW_ => ?_)
         generalize wr.drew = w10 at HB HR177_1 HR177_2 HR178_1 HR178_2 HR179_1 HR179_2 HR180_1 HR180_2 hx177_0 hx177_1 hx177_2 hx177_3 hx178_0 hx178_1 hx178_2 hx178_3 hx179_0 hx179_1 hx179_2 hx179_3 hx180_0 hx180_1 hx180_2 hx180_3 hHeld ⊢
         refine pure_ (i := 0) (N := some 17) (v := ?_) (a' := ?_) #[true, false, false, false, false, false, false, false, false, false, false, false, false, false, false, false, false, false, false, false, false, false, false, false, false] rfl rfl (any_of HT_.out (by kernel_rfl)) (fun _ _ _ h => h) (Or.inl ⟨by rfl, ?_⟩) ?_ ?_
         rotate_left
         ·intro w'
          go_simp
          with_reducible rfl
         rotate_left
         ·simp only [Act.put, q1_, q2_, q3_, i64_w, i32_w]
          rfl
         refine pure_ (i := 1) (N := some 18) (v := ?_) (a' := ?_) #[true, true, false, false, false, false, false, false, false, false, false, false, false, false, false, false, false, false, false, false, false, false, false, false, false] rfl rfl (any_of HT_.out (by kernel_rfl)) (fun _ _ _ h => h) (Or.inl ⟨by rfl, ?_⟩) ?_ ?_
         rotate_left
         ·intro w'
          go_simp
          with_reducible rfl
         rotate_left
         ·simp only [Act.put, q1_, q2_, q3_, i64_w, i32_w]
          rfl
         refine pure_ (i := 2) (N := some 19) (v := ?_) (a' := ?_) #[true, true, true, false, false, false, false, false, false, false, false, false, false, false, false, false, false, false, false, false, false, false, false, false, false] rfl rfl (any_of HT_.out (by kernel_rfl)) (fun _ _ _ h => h) (Or.inl ⟨by rfl, ?_⟩) ?_ ?_
         rotate_left
         ·intro w'
          go_simp
          with_reducible rfl
         rotate_left
         ·simp only [Act.put, q1_, q2_, q3_, i64_w, i32_w]
          rfl
         refine pure_ (i := 3) (N := some 20) (v := ?_) (a' := ?_) #[true, true, true, true, false, false, false, false, false, false, false, false, false, false, false, false, false, false, false, false, false, false, false, false, false] rfl rfl (any_of HT_.out (by kernel_rfl)) (fun _ _ _ h => h) (Or.inl ⟨by rfl, ?_⟩) ?_ ?_
         rotate_left
         ·intro w'
          go_simp
          with_reducible rfl
         rotate_left
         ·simp only [Act.put, q1_, q2_, q3_, i64_w, i32_w]
          rfl
         refine pure_ (i := 5) (N := some 22) (v := ?_) (a' := ?_) #[true, true, true, true, false, true, false, false, false, false, false, false, false, false, false, false, false, false, false, false, false, false, false, false, false] rfl rfl (any_of HT_.out (by kernel_rfl)) (fun _ _ _ h => h) (Or.inl ⟨by rfl, ?_⟩) ?_ ?_
         rotate_left
         ·intro w'
          go_simp
          with_reducible rfl
         rotate_left
         ·simp only [Act.put, q1_, q2_, q3_, i64_w, i32_w]
          rfl
         refine pure_ (i := 6) (N := some 23) (v := ?_) (a' := ?_) #[true, true, true, true, false, true, true, false, false, false, false, false, false, false, false, false, false, false, false, false, false, false, false, false, false] rfl rfl (any_of HT_.out (by kernel_rfl)) (fun _ _ _ h => h) (Or.inl ⟨by rfl, ?_⟩) ?_ ?_
         rotate_left
         ·intro w'
          go_simp
          with_reducible rfl
         rotate_left
         ·simp only [Act.put, q1_, q2_, q3_, i64_w, i32_w]
          rfl
         refine pure_ (i := 7) (N := some 24) (v := ?_) (a' := ?_) #[true, true, true, true, false, true, true, true, false, false, false, false, false, false, false, false, false, false, false, false, false, false, false, false, false] rfl rfl (any_of HT_.out (by kernel_rfl)) (fun _ _ _ h => h) (Or.inl ⟨by rfl, ?_⟩) ?_ ?_
         rotate_left
         ·intro w'
          go_simp
          with_reducible rfl
         rotate_left
         ·simp only [Act.put, q1_, q2_, q3_, i64_w, i32_w]
          rfl
         refine pure_ (i := 8) (N := some 25) (v := ?_) (a' := ?_) #[true, true, true, true, false, true, true, true, true, false, false, false, false, false, false, false, false, false, false, false, false, false, false, false, false] rfl rfl (any_of HT_.out (by kernel_rfl)) (fun _ _ _ h => h) (Or.inl ⟨by rfl, ?_⟩) ?_ ?_
         rotate_left
         ·intro w'
          go_simp
          with_reducible rfl
         rotate_left
         ·simp only [Act.put, q1_, q2_, q3_, i64_w, i32_w]
          rfl
         refine take_ (i := 4) (N := some 21) (v := ?_) (a' := ?_) #[true, true, true, true, true, true, true, true, true, false, false, false, false, false, false, false, false, false, false, false, false, false, false, false, false] rfl rfl (take_ofW HT_.out HW_.out (by kernel_rfl)) (fun _ _ _ h => h) (Or.inl ⟨by rfl, ?_⟩) hHeld ?_ ?_
         rotate_left
         ·rintro w' ⟨s0, s1, s2, s3, s4, s5, s6, s7, s8, s9, s10, s11, s12, s13, s14, s15⟩
          go_simp
          with_reducible rfl
         rotate_left
         ·simp only [Act.put, q1_, q2_, q3_, i64_w, i32_w]
          rfl
         refine take_ (i := 9) (N := some 26) (v := ?_) (a' := ?_) #[true, true, true, true, true, true, true, true, true, true, false, false, false, false, false, false, false, false, false, false, false, false, false, false, false] rfl rfl (take_ofW HT_.out HW_.out (by kernel_rfl)) (fun _ _ _ h => h) (Or.inl ⟨by rfl, ?_⟩) hHeld ?_ ?_
         rotate_left
         ·rintro w' ⟨s0, s1, s2, s3, s4, s5, s6, s7, s8, s9, s10, s11, s12, s13, s14, s15⟩
          go_simp
          with_reducible rfl
         rotate_left
         ·simp only [Act.put, q1_, q2_, q3_, i64_w, i32_w]
          rfl
         refine pure_ (i := 10) (N := some 27) (v := ?_) (a' := ?_) #[true, true, true, true, true, true, true, true, true, true, true, false, false, false, false, false, false, false, false, false, false, false, false, false, false] rfl rfl (any_of HT_.out (by kernel_rfl)) (fun _ _ _ h => h) (Or.inl ⟨by rfl, ?_⟩) ?_ ?_
         rotate_left
         ·intro w'
          go_simp
          with_reducible rfl
         rotate_left
         ·simp only [Act.put, q1_, q2_, q3_, i64_w, i32_w]
          rfl
         refine pure_ (i := 11) (N := some 28) (v := ?_) (a' := ?_) #[true, true, true, true, true, true, true, true, true, true, true, true, false, false, false, false, false, false, false, false, false, false, false, false, false] rfl rfl (any_of HT_.out (by kernel_rfl)) (fun _ _ _ h => h) (Or.inl ⟨by rfl, ?_⟩) ?_ ?_
         rotate_left
         ·intro w'
          go_simp
          with_reducible rfl
         rotate_left
         ·simp only [Act.put, q1_, q2_, q3_, i64_w, i32_w]
          rfl
         refine pure_ (i := 12) (N := some 29) (v := ?_) (a' := ?_) #[true, true, true, true, true, true, true, true, true, true, true, true, true, false, false, false, false, false, false, false, false, false, false, false, false] rfl rfl (any_of HT_.out (by kernel_rfl)) (fun _ _ _ h => h) (Or.inl ⟨by rfl, ?_⟩) ?_ ?_
         rotate_left
         ·intro w'
          go_simp
          with_reducible rfl
         rotate_left
         ·simp only [Act.put, q1_, q2_, q3_, i64_w, i32_w]
          rfl
         refine pure_ (i := 13) (N := some 30) (v := ?_) (a' := ?_) #[true, true, true, true, true, true, true, true, true, true, true, true, true, true, false, false, false, false, false, false, false, false, false, false, false] rfl rfl (any_of HT_.out (by kernel_rfl)) (fun _ _ _ h => h) (Or.inl ⟨by rfl, ?_⟩) ?_ ?_
         rotate_left
         ·intro w'
          go_simp
          with_reducible rfl
         rotate_left
         ·simp only [Act.put, q1_, q2_, q3_, i64_w, i32_w]
          rfl
         refine pure_ (i := 14) (N := some 31) (v := ?_) (a' := ?_) #[true, true, true, true, true, true, true, true, true, true, true, true, true, true, true, false, false, false, false, false, false, false, false, false, false] rfl rfl (any_of HT_.out (by kernel_rfl)) (fun _ _ _ h => h) (Or.inl ⟨by rfl, ?_⟩) ?_ ?_
         rotate_left
         ·intro w'
          go_simp
          with_reducible rfl
         rotate_left
         ·simp only [Act.put, q1_, q2_, q3_, i64_w, i32_w]
          rfl
         refine pure_ (i := 15) (N := some 32) (v := ?_) (a' := ?_) #[true, true, true, true, true, true, true, true, true, true, true, true, true, true, true, true, false, false, false, false, false, false, false, false, false] rfl rfl (any_of HT_.out (by kernel_rfl)) (fun _ _ _ h => h) (Or.inl ⟨by rfl, ?_⟩) ?_ ?_
         rotate_left
         ·intro w'
          go_simp
          with_reducible rfl
         rotate_left
         ·simp only [Act.put, q1_, q2_, q3_, i64_w, i32_w]
          rfl
         refine pure_ (i := 17) (N := some 34) (v := ?_) (a' := ?_) #[true, true, true, true, true, true, true, true, true, true, true, true, true, true, true, true, false, true, false, false, false, false, false, false, false] rfl rfl (any_of HT_.out (by kernel_rfl)) (fun _ _ _ h => h) (Or.inl ⟨by rfl, ?_⟩) ?_ ?_
         rotate_left
         ·intro w'
          go_simp
          with_reducible rfl
         rotate_left
         ·simp only [Act.put, q1_, q2_, q3_, i64_w, i32_w]
          rfl
         refine pure_ (i := 18) (N := some 35) (v := ?_) (a' := ?_) #[true, true, true, true, true, true, true, true, true, true, true, true, true, true, true, true, false, true, true, false, false, false, false, false, false] rfl rfl (any_of HT_.out (by kernel_rfl)) (fun _ _ _ h => h) (Or.inl ⟨by rfl, ?_⟩) ?_ ?_
         rotate_left
         ·intro w'
          go_simp
          with_reducible rfl
         rotate_left
         ·simp only [Act.put, q1_, q2_, q3_, i64_w, i32_w]
          rfl
         refine pure_ (i := 19) (N := some 36) (v := ?_) (a' := ?_) #[true, true, true, true, true, true, true, true, true, true, true, true, true, true, true, true, false, true, true, true, false, false, false, false, false] rfl rfl (any_of HT_.out (by kernel_rfl)) (fun _ _ _ h => h) (Or.inl ⟨by rfl, ?_⟩) ?_ ?_
         rotate_left
         ·intro w'
          go_simp
          with_reducible rfl
         rotate_left
         ·simp only [Act.put, q1_, q2_, q3_, i64_w, i32_w]
          rfl
         refine pure_ (i := 20) (N := some 37) (v := ?_) (a' := ?_) #[true, true, true, true, true, true, true, true, true, true, true, true, true, true, true, true, false, true, true, true, true, false, false, false, false] rfl rfl (any_of HT_.out (by kernel_rfl)) (fun _ _ _ h => h) (Or.inl ⟨by rfl, ?_⟩) ?_ ?_
         rotate_left
         ·intro w'
          go_simp
          with_reducible rfl
         rotate_left
         ·simp only [Act.put, q1_, q2_, q3_, i64_w, i32_w]
          rfl
         refine take_ (i := 16) (N := some 33) (v := ?_) (a' := ?_) #[true, true, true, true, true, true, true, true, true, true, true, true, true, true, true, true, true, true, true, true, true, false, false, false, false] rfl rfl (take_ofW HT_.out HW_.out (by kernel_rfl)) (fun _ _ _ h => h) (Or.inl ⟨by rfl, ?_⟩) hHeld ?_ ?_
         rotate_left
         ·rintro w' ⟨s0, s1, s2, s3, s4, s5, s6, s7, s8, s9, s10, s11, s12, s13, s14, s15⟩
          go_simp
          with_reducible rfl
         rotate_left
         ·simp only [Act.put, q1_, q2_, q3_, i64_w, i32_w]
          rfl
         refine take_ (i := 21) (N := some 38) (v := ?_) (a' := ?_) #[true, true, true, true, true, true, true, true, true, true, true, true, true, true, true, true, true, true, true, true, true, true, false, false, false] rfl rfl (take_ofW HT_.out HW_.out (by kernel_rfl)) (fun _ _ _ h => h) (Or.inl ⟨by rfl, ?_⟩) hHeld ?_ ?_
         rotate_left
         ·rintro w' ⟨s0, s1, s2, s3, s4, s5, s6, s7, s8, s9, s10, s11, s12, s13, s14, s15⟩
          go_simp
          with_reducible rfl
         rotate_left
         ·simp only [Act.put, q1_, q2_, q3_, i64_w, i32_w]
          rfl
         refine one_ (i := 22) (N := some 39) #[true, true, true, true, true, true, true, true, true, true, true, true, true, true, true, true, true, true, true, true, true, true, true, false, false] rfl rfl (one_of HT_.out (by kernel_rfl)) (by decide) (fun K hK => ?_)
         refine goes_ Try.func15 (by kernel_rfl) rfl #[.agg #[.int .i64 ((rd_T40 l0 x5_1).f0.f0), .slice A177_1 ((rd_T40 l0 x5_1).f0.f1).length c177_1, .slice A177_2 ((rd_T40 l0 x5_1).f0.f2).length c177_2], .agg #[.int .i64 ((rd_T40 l1 x5_1).f0.f0), .slice A178_1 ((rd_T40 l1 x5_1).f0.f1).length c178_1, .slice A178_2 ((rd_T40 l1 x5_1).f0.f2).length c178_2]] (by rfl) rfl rfl (by (try simp only [List.map_toArray, List.map_cons, List.map_nil]); first | done | rfl | (simp only [List.length_drop, List.length_take]; rfl)) ?_
         with_reducible refine (gristmillref04_Compare.calls k1 ((rd_T40 l0 x5_1).f0.f0) _ _ ((rd_T40 l0 x5_1).f0.f1) _ _ ((rd_T40 l0 x5_1).f0.f2) ((rd_T40 l1 x5_1).f0.f0) _ _ ((rd_T40 l1 x5_1).f0.f1) _ _ ((rd_T40 l1 x5_1).f0.f2) t181 _ ?side1 ?side2 ?side3 ?side4 ?side5 ?side6 ?side7 ?side8 A8.out).mono ?_
         (case side1 => repeat (first | exact (Kd.C_below HR179_1.out HB.out) | (with_reducible refine Kd.C_alloc ?_ _) | (with_reducible refine Kd.C_drewN ?_ _) | (with_reducible refine Kd.C_drew ?_)))
         (case side2 => exact HC179_1.out)
         (case side3 => repeat (first | exact (Kd.C_below HR179_2.out HB.out) | (with_reducible refine Kd.C_alloc ?_ _) | (with_reducible refine Kd.C_drewN ?_ _) | (with_reducible refine Kd.C_drew ?_)))
         (case side4 => exact HC179_2.out)
         (case side5 => repeat (first | exact (Kd.C_below HR180_1.out HB.out) | (with_reducible refine Kd.C_alloc ?_ _) | (with_reducible refine Kd.C_drewN ?_ _) | (with_reducible refine Kd.C_drew ?_)))
         (case side6 => exact HC180_1.out)
         (case side7 => repeat (first | exact (Kd.C_below HR180_2.out HB.out) | (with_reducible refine Kd.C_alloc ?_ _) | (with_reducible refine Kd.C_drewN ?_ _) | (with_reducible refine Kd.C_drew ?_)))
         (case side8 => exact HC180_2.out)
         rintro e w11 ⟨rfl, hb⟩
         refine ⟨_, rfl, ?_⟩
         have n0_ := Aside0.mk (below_step (bw_ HB.out) hb)
         clear HB
         have HB := n0_
         clear n0_
         (try clear hb)
         (try clear hb2)
         (try clear hk)
         (try clear hi)
         refine hK.out _ _ ⟨(pw_cell_below HB.out hw177_0), (pw_cell_below HB.out hw177_1), (pw_cell_below HB.out hw177_2), (pw_cell_below HB.out hw177_3), (pw_cell_below HB.out hw178_0), (pw_cell_below HB.out hw178_1), (pw_cell_below HB.out hw178_2), (pw_cell_below HB.out hw178_3), (pw_cell_below HB.out hw179_0), (pw_cell_below HB.out hw179_1), (pw_cell_below HB.out hw179_2), (pw_cell_below HB.out hw179_3), (pw_cell_below HB.out hw180_0), (pw_cell_below HB.out hw180_1), (pw_cell_below HB.out hw180_2), (pw_cell_below HB.out hw180_3)⟩ (fun hHeld => ?_)
         clear hK K
         refine norm_ (a' := ?_) ?_ ?_
         rotate_left
         ·show Act.put _ (some 39) _ = _
          simp only [Act.put, q1_, q2_, q3_, i64_w, i32_w]
          rfl
         refine pure_ (i := 23) (N := some 40) (v := ?_) (a' := ?_) #[true, true, true, true, true, true, true, true, true, true, true, true, true, true, true, true, true, true, true, true, true, true, true, true, false] rfl rfl (any_of HT_.out (by kernel_rfl)) (fun _ _ _ h => h) (Or.inl ⟨by rfl, ?_⟩) ?_ ?_
         rotate_left
         ·intro w'
          go_simp
          with_reducible rfl
         rotate_left
         ·simp only [Act.put, q1_, q2_, q3_, i64_w, i32_w]
          rfl
         refine pure_ (i := 24) (N := some 41) (v := ?_) (a' := ?_) #[true, true, true, true, true, true, true, true, true, true, true, true, true, true, true, true, true, true, true, true, true, true, true, true, true] rfl rfl (any_of HT_.out (by kernel_rfl)) (fun _ _ _ h => h) (Or.inl ⟨by rfl, ?_⟩) ?_ ?_
         rotate_left
         ·intro w'
          go_simp
          with_reducible rfl
         rotate_left
         ·simp only [Act.put, q1_, q2_, q3_, i64_w, i32_w]
          rfl
         refine done_ (done_of HT_.out (by kernel_rfl)) ?_
         try go_wp2
         go_roundg k1
         case measure => have := HK1.out; omega
         case rel => exact ⟨(wrap64 (x5_1 + 1)), (by first | rfl | (simp; done) | (simp [*]; done)), H', ⟨by have := HK1.out; omega⟩, ⟨by repeat (first | (with_reducible first | exact HB.out | apply below_alloc | apply pw_below_drewN | apply below_drew1) | exact HB.out)⟩⟩
        ·rw [if_neg c9] at H
         have c9b0 : (t181 == 0) = false := beq_eq_false_iff_ne.mpr c9
         have c9b1 : (t181 != 0) = true := bne_iff_ne.mpr c9
         obtain rfl := Option.some.inj H
         try go_wp2
         have n0_ := Aside0.mk (below_drew1 HB.out)
         clear HB
         have HB := n0_
         clear n0_
         have p177 : 0 ≤ (x5_1 : Int) := of_decide_eq_true (by assumption)
         have q177 : x5_1 < (l0.length : Int) := of_decide_eq_true (by assumption)
         obtain ⟨ad177, A177_1, c177_1, A177_2, c177_2, e177, hx177_0, hx177_1, hx177_2, hx177_3, hl177_1, hi177_1, hl177_2, hi177_2⟩ := at_T40 HR0.out x5_1 p177 q177
         have hw177_3 := hx177_3
         have hw177_2 := hx177_2
         have hw177_1 := hx177_1
         have hw177_0 := hx177_0
         cases e177
         replace hx177_0 := pw_cell_below HB.out hx177_0
         replace hx177_1 := pw_cell_below HB.out hx177_1
         replace hx177_2 := pw_cell_below HB.out hx177_2
         replace hx177_3 := pw_cell_below HB.out hx177_3
         have HR177_1 := Aside0.mk hi177_1
         have HC177_1 := Aside0.mk hl177_1
         clear hi177_1 hl177_1
         have HR177_2 := Aside0.mk hi177_2
         have HC177_2 := Aside0.mk hl177_2
         clear hi177_2 hl177_2
         replace p177 := eq_true p177
         replace q177 := eq_true q177
         have p178 : 0 ≤ (x5_1 : Int) := of_decide_eq_true (by assumption)
         have q178 : x5_1 < (l1.length : Int) := of_decide_eq_true (by assumption)
         obtain ⟨ad178, A178_1, c178_1, A178_2, c178_2, e178, hx178_0, hx178_1, hx178_2, hx178_3, hl178_1, hi178_1, hl178_2, hi178_2⟩ := at_T40 HR1.out x5_1 p178 q178
         have hw178_3 := hx178_3
         have hw178_2 := hx178_2
         have hw178_1 := hx178_1
         have hw178_0 := hx178_0
         cases e178
         replace hx178_0 := pw_cell_below HB.out hx178_0
         replace hx178_1 := pw_cell_below HB.out hx178_1
         replace hx178_2 := pw_cell_below HB.out hx178_2
         replace hx178_3 := pw_cell_below HB.out hx178_3
         have HR178_1 := Aside0.mk hi178_1
         have HC178_1 := Aside0.mk hl178_1
         clear hi178_1 hl178_1
         have HR178_2 := Aside0.mk hi178_2
         have HC178_2 := Aside0.mk hl178_2
         clear hi178_2 hl178_2
         replace p178 := eq_true p178
         replace q178 := eq_true q178
         have p179 : 0 ≤ (x5_1 : Int) := of_decide_eq_true (by assumption)
         have q179 : x5_1 < (l0.length : Int) := of_decide_eq_true (by assumption)
         obtain ⟨ad179, A179_1, c179_1, A179_2, c179_2, e179, hx179_0, hx179_1, hx179_2, hx179_3, hl179_1, hi179_1, hl179_2, hi179_2⟩ := at_T40 HR0.out x5_1 p179 q179
         have hw179_3 := hx179_3
         have hw179_2 := hx179_2
         have hw179_1 := hx179_1
         have hw179_0 := hx179_0
         obtain rfl : ad177 = ad179 := (by injection e179)
         replace hx179_0 := pw_cell_below HB.out hx179_0
         replace hx179_1 := pw_cell_below HB.out hx179_1
         replace hx179_2 := pw_cell_below HB.out hx179_2
         replace hx179_3 := pw_cell_below HB.out hx179_3
         have HR179_1 := Aside0.mk hi179_1
         have HC179_1 := Aside0.mk hl179_1
         clear hi179_1 hl179_1
         have HR179_2 := Aside0.mk hi179_2
         have HC179_2 := Aside0.mk hl179_2
         clear hi179_2 hl179_2
         replace p179 := eq_true p179
         replace q179 := eq_true q179
         have ea_ := Option.some.inj (hx177_1.symm.trans hx179_1)
         injection ea_ with ea_ en_ ec_
         subst ea_
         subst ec_
         clear en_
         have ea_ := Option.some.inj (hx177_2.symm.trans hx179_2)
         injection ea_ with ea_ en_ ec_
         subst ea_
         subst ec_
         clear en_
         have p180 : 0 ≤ (x5_1 : Int) := of_decide_eq_true (by assumption)
         have q180 : x5_1 < (l1.length : Int) := of_decide_eq_true (by assumption)
         obtain ⟨ad180, A180_1, c180_1, A180_2, c180_2, e180, hx180_0, hx180_1, hx180_2, hx180_3, hl180_1, hi180_1, hl180_2, hi180_2⟩ := at_T40 HR1.out x5_1 p180 q180
         have hw180_3 := hx180_3
         have hw180_2 := hx180_2
         have hw180_1 := hx180_1
         have hw180_0 := hx180_0
         obtain rfl : ad178 = ad180 := (by injection e180)
         replace hx180_0 := pw_cell_below HB.out hx180_0
         replace hx180_1 := pw_cell_below HB.out hx180_1
         replace hx180_2 := pw_cell_below HB.out hx180_2
         replace hx180_3 := pw_cell_below HB.out hx180_3
         have HR180_1 := Aside0.mk hi180_1
         have HC180_1 := Aside0.mk hl180_1
         clear hi180_1 hl180_1
         have HR180_2 := Aside0.mk hi180_2
         have HC180_2 := Aside0.mk hl180_2
         clear hi180_2 hl180_2
         replace p180 := eq_true p180
         replace q180 := eq_true q180
         have ea_ := Option.some.inj (hx178_1.symm.trans hx180_1)
         injection ea_ with ea_ en_ ec_
         subst ea_
         subst ec_
         clear en_
         have ea_ := Option.some.inj (hx178_2.symm.trans hx180_2)
         injection ea_ with ea_ en_ ec_
         subst ea_
         subst ec_
         clear en_
         refine start_ (n := 25) (S := fun w' => w'.cell? (ad177.add ((x5_1).toNat * 4)) = some (.int .i64 ((rd_T40 l0 x5_1).f0.f0)) ∧ w'.cell? ⟨(ad177.add ((x5_1).toNat * 4)).block, (ad177.add ((x5_1).toNat * 4)).off + 1, none⟩ = some (.slice A177_1 ((rd_T40 l0 x5_1).f0.f1).length c177_1) ∧ w'.cell? ⟨(ad177.add ((x5_1).toNat * 4)).block, (ad177.add ((x5_1).toNat * 4)).off + 2, none⟩ = some (.slice A177_2 ((rd_T40 l0 x5_1).f0.f2).length c177_2) ∧ w'.cell? ⟨(ad177.add ((x5_1).toNat * 4)).block, (ad177.add ((x5_1).toNat * 4)).off + 3, none⟩ = some (.int .u64 ((rd_T40 l0 x5_1).f1)) ∧ w'.cell? (ad178.add ((x5_1).toNat * 4)) = some (.int .i64 ((rd_T40 l1 x5_1).f0.f0)) ∧ w'.cell? ⟨(ad178.add ((x5_1).toNat * 4)).block, (ad178.add ((x5_1).toNat * 4)).off + 1, none⟩ = some (.slice A178_1 ((rd_T40 l1 x5_1).f0.f1).length c178_1) ∧ w'.cell? ⟨(ad178.add ((x5_1).toNat * 4)).block, (ad178.add ((x5_1).toNat * 4)).off + 2, none⟩ = some (.slice A178_2 ((rd_T40 l1 x5_1).f0.f2).length c178_2) ∧ w'.cell? ⟨(ad178.add ((x5_1).toNat * 4)).block, (ad178.add ((x5_1).toNat * 4)).off + 3, none⟩ = some (.int .u64 ((rd_T40 l1 x5_1).f1)) ∧ w'.cell? (ad177.add ((x5_1).toNat * 4)) = some (.int .i64 ((rd_T40 l0 x5_1).f0.f0)) ∧ w'.cell? ⟨(ad177.add ((x5_1).toNat * 4)).block, (ad177.add ((x5_1).toNat * 4)).off + 1, none⟩ = some (.slice A177_1 ((rd_T40 l0 x5_1).f0.f1).length c177_1) ∧ w'.cell? ⟨(ad177.add ((x5_1).toNat * 4)).block, (ad177.add ((x5_1).toNat * 4)).off + 2, none⟩ = some (.slice A177_2 ((rd_T40 l0 x5_1).f0.f2).length c177_2) ∧ w'.cell? ⟨(ad177.add ((x5_1).toNat * 4)).block, (ad177.add ((x5_1).toNat * 4)).off + 3, none⟩ = some (.int .u64 ((rd_T40 l0 x5_1).f1)) ∧ w'.cell? (ad178.add ((x5_1).toNat * 4)) = some (.int .i64 ((rd_T40 l1 x5_1).f0.f0)) ∧ w'.cell? ⟨(ad178.add ((x5_1).toNat * 4)).block, (ad178.add ((x5_1).toNat * 4)).off + 1, none⟩ = some (.slice A178_1 ((rd_T40 l1 x5_1).f0.f1).length c178_1) ∧ w'.cell? ⟨(ad178.add ((x5_1).toNat * 4)).block, (ad178.add ((x5_1).toNat * 4)).off + 2, none⟩ = some (.slice A178_2 ((rd_T40 l1 x5_1).f0.f2).length c178_2) ∧ w'.cell? ⟨(ad178.add ((x5_1).toNat * 4)).block, (ad178.add ((x5_1).toNat * 4)).off + 3, none⟩ = some (.int .u64 ((rd_T40 l1 x5_1).f1))) (ds := []) #[false, false, false, false, false, false, false, false, false, false, false, false, false, false, false, false, false, false, false, false, false, false, false, false, false] (by kernel_rfl) rfl rfl ⟨(pw_cell_below HB.out hw177_0), (pw_cell_below HB.out hw177_1), (pw_cell_below HB.out hw177_2), (pw_cell_below HB.out hw177_3), (pw_cell_below HB.out hw178_0), (pw_cell_below HB.out hw178_1), (pw_cell_below HB.out hw178_2), (pw_cell_below HB.out hw178_3), (pw_cell_below HB.out hw179_0), (pw_cell_below HB.out hw179_1), (pw_cell_below HB.out hw179_2), (pw_cell_below HB.out hw179_3), (pw_cell_below HB.out hw180_0), (pw_cell_below HB.out hw180_1), (pw_cell_below HB.out hw180_2), (pw_cell_below HB.out hw180_3)⟩ (fun hHeld => ?_); refine with_tabW gristmillref04_Is.tab6 gristmillref04_Is.bits6 (fun HT_ HW_ => ?_)
         generalize wr.drew = w12 at HB HR177_1 HR177_2 HR178_1 HR178_2 HR179_1 HR179_2 HR180_1 HR180_2 hx177_0 hx177_1 hx177_2 hx177_3 hx178_0 hx178_1 hx178_2 hx178_3 hx179_0 hx179_1 hx179_2 hx179_3 hx180_0 hx180_1 hx180_2 hx180_3 hHeld ⊢
         refine pure_ (i := 0) (N := some 17) (v := ?_) (a' := ?_) #[true, false, false, false, false, false, false, false, false, false, false, false, false, false, false, false, false, false, false, false, false, false, false, false, false] rfl rfl (any_of HT_.out (by kernel_rfl)) (fun _ _ _ h => h) (Or.inl ⟨by rfl, ?_⟩) ?_ ?_
         rotate_left
         ·intro w'
          go_simp
          with_reducible rfl
         rotate_left
         ·simp only [Act.put, q1_, q2_, q3_, i64_w, i32_w]
          rfl
         refine pure_ (i := 1) (N := some 18) (v := ?_) (a' := ?_) #[true, true, false, false, false, false, false, false, false, false, false, false, false, false, false, false, false, false, false, false, false, false, false, false, false] rfl rfl (any_of HT_.out (by kernel_rfl)) (fun _ _ _ h => h) (Or.inl ⟨by rfl, ?_⟩) ?_ ?_
         rotate_left
         ·intro w'
          go_simp
          with_reducible rfl
         rotate_left
         ·simp only [Act.put, q1_, q2_, q3_, i64_w, i32_w]
          rfl
         refine pure_ (i := 2) (N := some 19) (v := ?_) (a' := ?_) #[true, true, true, false, false, false, false, false, false, false, false, false, false, false, false, false, false, false, false, false, false, false, false, false, false] rfl rfl (any_of HT_.out (by kernel_rfl)) (fun _ _ _ h => h) (Or.inl ⟨by rfl, ?_⟩) ?_ ?_
         rotate_left
         ·intro w'
          go_simp
          with_reducible rfl
         rotate_left
         ·simp only [Act.put, q1_, q2_, q3_, i64_w, i32_w]
          rfl
         refine pure_ (i := 3) (N := some 20) (v := ?_) (a' := ?_) #[true, true, true, true, false, false, false, false, false, false, false, false, false, false, false, false, false, false, false, false, false, false, false, false, false] rfl rfl (any_of HT_.out (by kernel_rfl)) (fun _ _ _ h => h) (Or.inl ⟨by rfl, ?_⟩) ?_ ?_
         rotate_left
         ·intro w'
          go_simp
          with_reducible rfl
         rotate_left
         ·simp only [Act.put, q1_, q2_, q3_, i64_w, i32_w]
          rfl
         refine pure_ (i := 5) (N := some 22) (v := ?_) (a' := ?_) #[true, true, true, true, false, true, false, false, false, false, false, false, false, false, false, false, false, false, false, false, false, false, false, false, false] rfl rfl (any_of HT_.out (by kernel_rfl)) (fun _ _ _ h => h) (Or.inl ⟨by rfl, ?_⟩) ?_ ?_
         rotate_left
         ·intro w'
          go_simp
          with_reducible rfl
         rotate_left
         ·simp only [Act.put, q1_, q2_, q3_, i64_w, i32_w]
          rfl
         refine pure_ (i := 6) (N := some 23) (v := ?_) (a' := ?_) #[true, true, true, true, false, true, true, false, false, false, false, false, false, false, false, false, false, false, false, false, false, false, false, false, false] rfl rfl (any_of HT_.out (by kernel_rfl)) (fun _ _ _ h => h) (Or.inl ⟨by rfl, ?_⟩) ?_ ?_
         rotate_left
         ·intro w'
          go_simp
          with_reducible rfl
         rotate_left
         ·simp only [Act.put, q1_, q2_, q3_, i64_w, i32_w]
          rfl
         refine pure_ (i := 7) (N := some 24) (v := ?_) (a' := ?_) #[true, true, true, true, false, true, true, true, false, false, false, false, false, false, false, false, false, false, false, false, false, false, false, false, false] rfl rfl (any_of HT_.out (by kernel_rfl)) (fun _ _ _ h => h) (Or.inl ⟨by rfl, ?_⟩) ?_ ?_
         rotate_left
         ·intro w'
          go_simp
          with_reducible rfl
         rotate_left
         ·simp only [Act.put, q1_, q2_, q3_, i64_w, i32_w]
          rfl
         refine pure_ (i := 8) (N := some 25) (v := ?_) (a' := ?_) #[true, true, true, true, false, true, true, true, true, false, false, false, false, false, false, false, false, false, false, false, false, false, false, false, false] rfl rfl (any_of HT_.out (by kernel_rfl)) (fun _ _ _ h => h) (Or.inl ⟨by rfl, ?_⟩) ?_ ?_
         rotate_left
         ·intro w'
          go_simp
          with_reducible rfl
         rotate_left
         ·simp only [Act.put, q1_, q2_, q3_, i64_w, i32_w]
          rfl
         refine take_ (i := 4) (N := some 21) (v := ?_) (a' := ?_) #[true, true, true, true, true, true, true, true, true, false, false, false, false, false, false, false, false, false, false, false, false, false, false, false, false] rfl rfl (take_ofW HT_.out HW_.out (by kernel_rfl)) (fun _ _ _ h => h) (Or.inl ⟨by rfl, ?_⟩) hHeld ?_ ?_
         rotate_left
         ·rintro w' ⟨s0, s1, s2, s3, s4, s5, s6, s7, s8, s9, s10, s11, s12, s13, s14, s15⟩
          go_simp
          with_reducible rfl
         rotate_left
         ·simp only [Act.put, q1_, q2_, q3_, i64_w, i32_w]
          rfl
         refine take_ (i := 9) (N := some 26) (v := ?_) (a' := ?_) #[true, true, true, true, true, true, true, true, true, true, false, false, false, false, false, false, false, false, false, false, false, false, false, false, false] rfl rfl (take_ofW HT_.out HW_.out (by kernel_rfl)) (fun _ _ _ h => h) (Or.inl ⟨by rfl, ?_⟩) hHeld ?_ ?_
         rotate_left
         ·rintro w' ⟨s0, s1, s2, s3, s4, s5, s6, s7, s8, s9, s10, s11, s12, s13, s14, s15⟩
          go_simp
          with_reducible rfl
         rotate_left
         ·simp only [Act.put, q1_, q2_, q3_, i64_w, i32_w]
          rfl
         refine pure_ (i := 10) (N := some 27) (v := ?_) (a' := ?_) #[true, true, true, true, true, true, true, true, true, true, true, false, false, false, false, false, false, false, false, false, false, false, false, false, false] rfl rfl (any_of HT_.out (by kernel_rfl)) (fun _ _ _ h => h) (Or.inl ⟨by rfl, ?_⟩) ?_ ?_
         rotate_left
         ·intro w'
          go_simp
          with_reducible rfl
         rotate_left
         ·simp only [Act.put, q1_, q2_, q3_, i64_w, i32_w]
          rfl
         refine pure_ (i := 11) (N := some 28) (v := ?_) (a' := ?_) #[true, true, true, true, true, true, true, true, true, true, true, true, false, false, false, false, false, false, false, false, false, false, false, false, false] rfl rfl (any_of HT_.out (by kernel_rfl)) (fun _ _ _ h => h) (Or.inl ⟨by rfl, ?_⟩) ?_ ?_
         rotate_left
         ·intro w'
          go_simp
          with_reducible rfl
         rotate_left
         ·simp only [Act.put, q1_, q2_, q3_, i64_w, i32_w]
          rfl
         refine pure_ (i := 12) (N := some 29) (v := ?_) (a' := ?_) #[true, true, true, true, true, true, true, true, true, true, true, true, true, false, false, false, false, false, false, false, false, false, false, false, false] rfl rfl (any_of HT_.out (by kernel_rfl)) (fun _ _ _ h => h) (Or.inl ⟨by rfl, ?_⟩) ?_ ?_
         rotate_left
         ·intro w'
          go_simp
          with_reducible rfl
         rotate_left
         ·simp only [Act.put, q1_, q2_, q3_, i64_w, i32_w]
          rfl
         refine pure_ (i := 13) (N := some 30) (v := ?_) (a' := ?_) #[true, true, true, true, true, true, true, true, true, true, true, true, true, true, false, false, false, false, false, false, false, false, false, false, false] rfl rfl (any_of HT_.out (by kernel_rfl)) (fun _ _ _ h => h) (Or.inl ⟨by rfl, ?_⟩) ?_ ?_
         rotate_left
         ·intro w'
          go_simp
          with_reducible rfl
         rotate_left
         ·simp only [Act.put, q1_, q2_, q3_, i64_w, i32_w]
          rfl
         refine pure_ (i := 14) (N := some 31) (v := ?_) (a' := ?_) #[true, true, true, true, true, true, true, true, true, true, true, true, true, true, true, false, false, false, false, false, false, false, false, false, false] rfl rfl (any_of HT_.out (by kernel_rfl)) (fun _ _ _ h => h) (Or.inl ⟨by rfl, ?_⟩) ?_ ?_
         rotate_left
         ·intro w'
          go_simp
          with_reducible rfl
         rotate_left
         ·simp only [Act.put, q1_, q2_, q3_, i64_w, i32_w]
          rfl
         refine pure_ (i := 15) (N := some 32) (v := ?_) (a' := ?_) #[true, true, true, true, true, true, true, true, true, true, true, true, true, true, true, true, false, false, false, false, false, false, false, false, false] rfl rfl (any_of HT_.out (by kernel_rfl)) (fun _ _ _ h => h) (Or.inl ⟨by rfl, ?_⟩) ?_ ?_
         rotate_left
         ·intro w'
          go_simp
          with_reducible rfl
         rotate_left
         ·simp only [Act.put, q1_, q2_, q3_, i64_w, i32_w]
          rfl
         refine pure_ (i := 17) (N := some 34) (v := ?_) (a' := ?_) #[true, true, true, true, true, true, true, true, true, true, true, true, true, true, true, true, false, true, false, false, false, false, false, false, false] rfl rfl (any_of HT_.out (by kernel_rfl)) (fun _ _ _ h => h) (Or.inl ⟨by rfl, ?_⟩) ?_ ?_
         rotate_left
         ·intro w'
          go_simp
          with_reducible rfl
         rotate_left
         ·simp only [Act.put, q1_, q2_, q3_, i64_w, i32_w]
          rfl
         refine pure_ (i := 18) (N := some 35) (v := ?_) (a' := ?_) #[true, true, true, true, true, true, true, true, true, true, true, true, true, true, true, true, false, true, true, false, false, false, false, false, false] rfl rfl (any_of HT_.out (by kernel_rfl)) (fun _ _ _ h => h) (Or.inl ⟨by rfl, ?_⟩) ?_ ?_
         rotate_left
         ·intro w'
          go_simp
          with_reducible rfl
         rotate_left
         ·simp only [Act.put, q1_, q2_, q3_, i64_w, i32_w]
          rfl
         refine pure_ (i := 19) (N := some 36) (v := ?_) (a' := ?_) #[true, true, true, true, true, true, true, true, true, true, true, true, true, true, true, true, false, true, true, true, false, false, false, false, false] rfl rfl (any_of HT_.out (by kernel_rfl)) (fun _ _ _ h => h) (Or.inl ⟨by rfl, ?_⟩) ?_ ?_
         rotate_left
         ·intro w'
          go_simp
          with_reducible rfl
         rotate_left
         ·simp only [Act.put, q1_, q2_, q3_, i64_w, i32_w]
          rfl
         refine pure_ (i := 20) (N := some 37) (v := ?_) (a' := ?_) #[true, true, true, true, true, true, true, true, true, true, true, true, true, true, true, true, false, true, true, true, true, false, false, false, false] rfl rfl (any_of HT_.out (by kernel_rfl)) (fun _ _ _ h => h) (Or.inl ⟨by rfl, ?_⟩) ?_ ?_
         rotate_left
         ·intro w'
          go_simp
          with_reducible rfl
         rotate_left
         ·simp only [Act.put, q1_, q2_, q3_, i64_w, i32_w]
          rfl
         refine take_ (i := 16) (N := some 33) (v := ?_) (a' := ?_) #[true, true, true, true, true, true, true, true, true, true, true, true, true, true, true, true, true, true, true, true, true, false, false, false, false] rfl rfl (take_ofW HT_.out HW_.out (by kernel_rfl)) (fun _ _ _ h => h) (Or.inl ⟨by rfl, ?_⟩) hHeld ?_ ?_
         rotate_left
         ·rintro w' ⟨s0, s1, s2, s3, s4, s5, s6, s7, s8, s9, s10, s11, s12, s13, s14, s15⟩
          go_simp
          with_reducible rfl
         rotate_left
         ·simp only [Act.put, q1_, q2_, q3_, i64_w, i32_w]
          rfl
         refine take_ (i := 21) (N := some 38) (v := ?_) (a' := ?_) #[true, true, true, true, true, true, true, true, true, true, true, true, true, true, true, true, true, true, true, true, true, true, false, false, false] rfl rfl (take_ofW HT_.out HW_.out (by kernel_rfl)) (fun _ _ _ h => h) (Or.inl ⟨by rfl, ?_⟩) hHeld ?_ ?_
         rotate_left
         ·rintro w' ⟨s0, s1, s2, s3, s4, s5, s6, s7, s8, s9, s10, s11, s12, s13, s14, s15⟩
          go_simp
          with_reducible rfl
         rotate_left
         ·simp only [Act.put, q1_, q2_, q3_, i64_w, i32_w]
          rfl
         refine one_ (i := 22) (N := some 39) #[true, true, true, true, true, true, true, true, true, true, true, true, true, true, true, true, true, true, true, true, true, true, true, false, false] rfl rfl (one_of HT_.out (by kernel_rfl)) (by decide) (fun K hK => ?_)
         refine goes_ Try.func15 (by kernel_rfl) rfl #[.agg #[.int .i64 ((rd_T40 l0 x5_1).f0.f0), .slice A177_1 ((rd_T40 l0 x5_1).f0.f1).length c177_1, .slice A177_2 ((rd_T40 l0 x5_1).f0.f2).length c177_2], .agg #[.int .i64 ((rd_T40 l1 x5_1).f0.f0), .slice A178_1 ((rd_T40 l1 x5_1).f0.f1).length c178_1, .slice A178_2 ((rd_T40 l1 x5_1).f0.f2).length c178_2]] (by rfl) rfl rfl (by (try simp only [List.map_toArray, List.map_cons, List.map_nil]); first | done | rfl | (simp only [List.length_drop, List.length_take]; rfl)) ?_
         with_reducible refine (gristmillref04_Compare.calls k1 ((rd_T40 l0 x5_1).f0.f0) _ _ ((rd_T40 l0 x5_1).f0.f1) _ _ ((rd_T40 l0 x5_1).f0.f2) ((rd_T40 l1 x5_1).f0.f0) _ _ ((rd_T40 l1 x5_1).f0.f1) _ _ ((rd_T40 l1 x5_1).f0.f2) t181 _ ?side1 ?side2 ?side3 ?side4 ?side5 ?side6 ?side7 ?side8 A8.out).mono ?_
         (case side1 => repeat (first | exact (Kd.C_below HR179_1.out HB.out) | (with_reducible refine Kd.C_alloc ?_ _) | (with_reducible refine Kd.C_drewN ?_ _) | (with_reducible refine Kd.C_drew ?_)))
         (case side2 => exact HC179_1.out)
         (case side3 => repeat (first | exact (Kd.C_below HR179_2.out HB.out) | (with_reducible refine Kd.C_alloc ?_ _) | (with_reducible refine Kd.C_drewN ?_ _) | (with_reducible refine Kd.C_drew ?_)))
         (case side4 => exact HC179_2.out)
         (case side5 => repeat (first | exact (Kd.C_below HR180_1.out HB.out) | (with_reducible refine Kd.C_alloc ?_ _) | (with_reducible refine Kd.C_drewN ?_ _) | (with_reducible refine Kd.C_drew ?_)))
         (case side6 => exact HC180_1.out)
         (case side7 => repeat (first | exact (Kd.C_below HR180_2.out HB.out) | (with_reducible refine Kd.C_alloc ?_ _) | (with_reducible refine Kd.C_drewN ?_ _) | (with_reducible refine Kd.C_drew ?_)))
         (case side8 => exact HC180_2.out)
         rintro e w13 ⟨rfl, hb⟩
         refine ⟨_, rfl, ?_⟩
         have n0_ := Aside0.mk (below_step (bw_ HB.out) hb)
         clear HB
         have HB := n0_
         clear n0_
         (try clear hb)
         (try clear hb2)
         (try clear hk)
         (try clear hi)
         refine hK.out _ _ ⟨(pw_cell_below HB.out hw177_0), (pw_cell_below HB.out hw177_1), (pw_cell_below HB.out hw177_2), (pw_cell_below HB.out hw177_3), (pw_cell_below HB.out hw178_0), (pw_cell_below HB.out hw178_1), (pw_cell_below HB.out hw178_2), (pw_cell_below HB.out hw178_3), (pw_cell_below HB.out hw179_0), (pw_cell_below HB.out hw179_1), (pw_cell_below HB.out hw179_2), (pw_cell_below HB.out hw179_3), (pw_cell_below HB.out hw180_0), (pw_cell_below HB.out hw180_1), (pw_cell_below HB.out hw180_2), (pw_cell_below HB.out hw180_3)⟩ (fun hHeld => ?_)
         clear hK K
         refine norm_ (a' := ?_) ?_ ?_
         rotate_left
         ·show Act.put _ (some 39) _ = _
          simp only [Act.put, q1_, q2_, q3_, i64_w, i32_w]
          rfl
         refine pure_ (i := 23) (N := some 40) (v := ?_) (a' := ?_) #[true, true, true, true, true, true, true, true, true, true, true, true, true, true, true, true, true, true, true, true, true, true, true, true, false] rfl rfl (any_of HT_.out (by kernel_rfl)) (fun _ _ _ h => h) (Or.inl ⟨by rfl, ?_⟩) ?_ ?_
         rotate_left
         ·intro w'
          go_simp
          with_reducible rfl
         rotate_left
         ·simp only [Act.put, q1_, q2_, q3_, i64_w, i32_w]
          rfl
         refine pure_ (i := 24) (N := some 41) (v := ?_) (a' := ?_) #[true, true, true, true, true, true, true, true, true, true, true, true, true, true, true, true, true, true, true, true, true, true, true, true, true] rfl rfl (any_of HT_.out (by kernel_rfl)) (fun _ _ _ h => h) (Or.inl ⟨by rfl, ?_⟩) ?_ ?_
         rotate_left
         ·intro w'
          go_simp
          with_reducible rfl
         rotate_left
         ·simp only [Act.put, q1_, q2_, q3_, i64_w, i32_w]
          rfl
         refine done_ (done_of HT_.out (by kernel_rfl)) ?_
         try go_wp2
         go_ret
         exact ⟨by first | rfl | (simp [errW_none, errW_some] <;> rfl) | (simp [*, errW_none, errW_some] <;> rfl), by repeat (first | (with_reducible first | exact HB.out | apply below_alloc | apply pw_below_drewN | apply below_drew1) | exact HB.out)⟩
       ·rw [if_neg c7] at H
        have c7b0 : (((rd_T40 l0 x5_1).f1) == ((rd_T40 l1 x5_1).f1)) = false := beq_eq_false_iff_ne.mpr c7
        have c7b1 : (((rd_T40 l0 x5_1).f1) != ((rd_T40 l1 x5_1).f1)) = true := bne_iff_ne.mpr c7
        obtain rfl := Option.some.inj H
        try go_wp2
        have n0_ := Aside0.mk (below_drew1 HB.out)
        clear HB
        have HB := n0_
        clear n0_
        have p177 : 0 ≤ (x5_1 : Int) := of_decide_eq_true (by assumption)
        have q177 : x5_1 < (l0.length : Int) := of_decide_eq_true (by assumption)
        obtain ⟨ad177, A177_1, c177_1, A177_2, c177_2, e177, hx177_0, hx177_1, hx177_2, hx177_3, hl177_1, hi177_1, hl177_2, hi177_2⟩ := at_T40 HR0.out x5_1 p177 q177
        have hw177_3 := hx177_3
        have hw177_2 := hx177_2
        have hw177_1 := hx177_1
        have hw177_0 := hx177_0
        cases e177
        replace hx177_0 := pw_cell_below HB.out hx177_0
        replace hx177_1 := pw_cell_below HB.out hx177_1
        replace hx177_2 := pw_cell_below HB.out hx177_2
        replace hx177_3 := pw_cell_below HB.out hx177_3
        have HR177_1 := Aside0.mk hi177_1
        have HC177_1 := Aside0.mk hl177_1
        clear hi177_1 hl177_1
        have HR177_2 := Aside0.mk hi177_2
        have HC177_2 := Aside0.mk hl177_2
        clear hi177_2 hl177_2
        replace p177 := eq_true p177
        replace q177 := eq_true q177
        have p178 : 0 ≤ (x5_1 : Int) := of_decide_eq_true (by assumption)
        have q178 : x5_1 < (l1.length : Int) := of_decide_eq_true (by assumption)
        obtain ⟨ad178, A178_1, c178_1, A178_2, c178_2, e178, hx178_0, hx178_1, hx178_2, hx178_3, hl178_1, hi178_1, hl178_2, hi178_2⟩ := at_T40 HR1.out x5_1 p178 q178
        have hw178_3 := hx178_3
        have hw178_2 := hx178_2
        have hw178_1 := hx178_1
        have hw178_0 := hx178_0
        cases e178
        replace hx178_0 := pw_cell_below HB.out hx178_0
        replace hx178_1 := pw_cell_below HB.out hx178_1
        replace hx178_2 := pw_cell_below HB.out hx178_2
        replace hx178_3 := pw_cell_below HB.out hx178_3
        have HR178_1 := Aside0.mk hi178_1
        have HC178_1 := Aside0.mk hl178_1
        clear hi178_1 hl178_1
        have HR178_2 := Aside0.mk hi178_2
        have HC178_2 := Aside0.mk hl178_2
        clear hi178_2 hl178_2
        replace p178 := eq_true p178
        replace q178 := eq_true q178
        refine start_ (n := 25) (S := fun w' => w'.cell? (ad177.add ((x5_1).toNat * 4)) = some (.int .i64 ((rd_T40 l0 x5_1).f0.f0)) ∧ w'.cell? ⟨(ad177.add ((x5_1).toNat * 4)).block, (ad177.add ((x5_1).toNat * 4)).off + 1, none⟩ = some (.slice A177_1 ((rd_T40 l0 x5_1).f0.f1).length c177_1) ∧ w'.cell? ⟨(ad177.add ((x5_1).toNat * 4)).block, (ad177.add ((x5_1).toNat * 4)).off + 2, none⟩ = some (.slice A177_2 ((rd_T40 l0 x5_1).f0.f2).length c177_2) ∧ w'.cell? ⟨(ad177.add ((x5_1).toNat * 4)).block, (ad177.add ((x5_1).toNat * 4)).off + 3, none⟩ = some (.int .u64 ((rd_T40 l0 x5_1).f1)) ∧ w'.cell? (ad178.add ((x5_1).toNat * 4)) = some (.int .i64 ((rd_T40 l1 x5_1).f0.f0)) ∧ w'.cell? ⟨(ad178.add ((x5_1).toNat * 4)).block, (ad178.add ((x5_1).toNat * 4)).off + 1, none⟩ = some (.slice A178_1 ((rd_T40 l1 x5_1).f0.f1).length c178_1) ∧ w'.cell? ⟨(ad178.add ((x5_1).toNat * 4)).block, (ad178.add ((x5_1).toNat * 4)).off + 2, none⟩ = some (.slice A178_2 ((rd_T40 l1 x5_1).f0.f2).length c178_2) ∧ w'.cell? ⟨(ad178.add ((x5_1).toNat * 4)).block, (ad178.add ((x5_1).toNat * 4)).off + 3, none⟩ = some (.int .u64 ((rd_T40 l1 x5_1).f1))) (ds := []) #[false, false, false, false, false, false, false, false, false, false, false, false, false, false, false, false, false, false, false, false, false, false, false, false, false] (by kernel_rfl) rfl rfl ⟨(pw_cell_below HB.out hw177_0), (pw_cell_below HB.out hw177_1), (pw_cell_below HB.out hw177_2), (pw_cell_below HB.out hw177_3), (pw_cell_below HB.out hw178_0), (pw_cell_below HB.out hw178_1), (pw_cell_below HB.out hw178_2), (pw_cell_below HB.out hw178_3)⟩ (fun hHeld => ?_); refine with_tabW gristmillref04_Is.tab6 gristmillref04_Is.bits6 (fun HT_ HW_ => ?_)
        generalize wr.drew = w14 at HB HR177_1 HR177_2 HR178_1 HR178_2 hx177_0 hx177_1 hx177_2 hx177_3 hx178_0 hx178_1 hx178_2 hx178_3 hHeld ⊢
        refine pure_ (i := 0) (N := some 17) (v := ?_) (a' := ?_) #[true, false, false, false, false, false, false, false, false, false, false, false, false, false, false, false, false, false, false, false, false, false, false, false, false] rfl rfl (any_of HT_.out (by kernel_rfl)) (fun _ _ _ h => h) (Or.inl ⟨by rfl, ?_⟩) ?_ ?_
        rotate_left
        ·intro w'
         go_simp
         with_reducible rfl
        rotate_left
        ·simp only [Act.put, q1_, q2_, q3_, i64_w, i32_w]
         rfl
        refine pure_ (i := 1) (N := some 18) (v := ?_) (a' := ?_) #[true, true, false, false, false, false, false, false, false, false, false, false, false, false, false, false, false, false, false, false, false, false, false, false, false] rfl rfl (any_of HT_.out (by kernel_rfl)) (fun _ _ _ h => h) (Or.inl ⟨by rfl, ?_⟩) ?_ ?_
        rotate_left
        ·intro w'
         go_simp
         with_reducible rfl
        rotate_left
        ·simp only [Act.put, q1_, q2_, q3_, i64_w, i32_w]
         rfl
        refine pure_ (i := 2) (N := some 19) (v := ?_) (a' := ?_) #[true, true, true, false, false, false, false, false, false, false, false, false, false, false, false, false, false, false, false, false, false, false, false, false, false] rfl rfl (any_of HT_.out (by kernel_rfl)) (fun _ _ _ h => h) (Or.inl ⟨by rfl, ?_⟩) ?_ ?_
        rotate_left
        ·intro w'
         go_simp
         with_reducible rfl
        rotate_left
        ·simp only [Act.put, q1_, q2_, q3_, i64_w, i32_w]
         rfl
        refine pure_ (i := 3) (N := some 20) (v := ?_) (a' := ?_) #[true, true, true, true, false, false, false, false, false, false, false, false, false, false, false, false, false, false, false, false, false, false, false, false, false] rfl rfl (any_of HT_.out (by kernel_rfl)) (fun _ _ _ h => h) (Or.inl ⟨by rfl, ?_⟩) ?_ ?_
        rotate_left
        ·intro w'
         go_simp
         with_reducible rfl
        rotate_left
        ·simp only [Act.put, q1_, q2_, q3_, i64_w, i32_w]
         rfl
        refine pure_ (i := 5) (N := some 22) (v := ?_) (a' := ?_) #[true, true, true, true, false, true, false, false, false, false, false, false, false, false, false, false, false, false, false, false, false, false, false, false, false] rfl rfl (any_of HT_.out (by kernel_rfl)) (fun _ _ _ h => h) (Or.inl ⟨by rfl, ?_⟩) ?_ ?_
        rotate_left
        ·intro w'
         go_simp
         with_reducible rfl
        rotate_left
        ·simp only [Act.put, q1_, q2_, q3_, i64_w, i32_w]
         rfl
        refine pure_ (i := 6) (N := some 23) (v := ?_) (a' := ?_) #[true, true, true, true, false, true, true, false, false, false, false, false, false, false, false, false, false, false, false, false, false, false, false, false, false] rfl rfl (any_of HT_.out (by kernel_rfl)) (fun _ _ _ h => h) (Or.inl ⟨by rfl, ?_⟩) ?_ ?_
        rotate_left
        ·intro w'
         go_simp
         with_reducible rfl
        rotate_left
        ·simp only [Act.put, q1_, q2_, q3_, i64_w, i32_w]
         rfl
        refine pure_ (i := 7) (N := some 24) (v := ?_) (a' := ?_) #[true, true, true, true, false, true, true, true, false, false, false, false, false, false, false, false, false, false, false, false, false, false, false, false, false] rfl rfl (any_of HT_.out (by kernel_rfl)) (fun _ _ _ h => h) (Or.inl ⟨by rfl, ?_⟩) ?_ ?_
        rotate_left
        ·intro w'
         go_simp
         with_reducible rfl
        rotate_left
        ·simp only [Act.put, q1_, q2_, q3_, i64_w, i32_w]
         rfl
        refine pure_ (i := 8) (N := some 25) (v := ?_) (a' := ?_) #[true, true, true, true, false, true, true, true, true, false, false, false, false, false, false, false, false, false, false, false, false, false, false, false, false] rfl rfl (any_of HT_.out (by kernel_rfl)) (fun _ _ _ h => h) (Or.inl ⟨by rfl, ?_⟩) ?_ ?_
        rotate_left
        ·intro w'
         go_simp
         with_reducible rfl
        rotate_left
        ·simp only [Act.put, q1_, q2_, q3_, i64_w, i32_w]
         rfl
        refine take_ (i := 4) (N := some 21) (v := ?_) (a' := ?_) #[true, true, true, true, true, true, true, true, true, false, false, false, false, false, false, false, false, false, false, false, false, false, false, false, false] rfl rfl (take_ofW HT_.out HW_.out (by kernel_rfl)) (fun _ _ _ h => h) (Or.inl ⟨by rfl, ?_⟩) hHeld ?_ ?_
        rotate_left
        ·rintro w' ⟨s0, s1, s2, s3, s4, s5, s6, s7⟩
         go_simp
         with_reducible rfl
        rotate_left
        ·simp only [Act.put, q1_, q2_, q3_, i64_w, i32_w]
         rfl
        refine take_ (i := 9) (N := some 26) (v := ?_) (a' := ?_) #[true, true, true, true, true, true, true, true, true, true, false, false, false, false, false, false, false, false, false, false, false, false, false, false, false] rfl rfl (take_ofW HT_.out HW_.out (by kernel_rfl)) (fun _ _ _ h => h) (Or.inl ⟨by rfl, ?_⟩) hHeld ?_ ?_
        rotate_left
        ·rintro w' ⟨s0, s1, s2, s3, s4, s5, s6, s7⟩
         go_simp
         with_reducible rfl
        rotate_left
        ·simp only [Act.put, q1_, q2_, q3_, i64_w, i32_w]
         rfl
        refine pure_ (i := 10) (N := some 27) (v := ?_) (a' := ?_) #[true, true, true, true, true, true, true, true, true, true, true, false, false, false, false, false, false, false, false, false, false, false, false, false, false] rfl rfl (any_of HT_.out (by kernel_rfl)) (fun _ _ _ h => h) (Or.inl ⟨by rfl, ?_⟩) ?_ ?_
        rotate_left
        ·intro w'
         go_simp
         with_reducible rfl
        rotate_left
        ·simp only [Act.put, q1_, q2_, q3_, i64_w, i32_w]
         rfl
        refine pure_ (i := 11) (N := some 28) (v := ?_) (a' := ?_) #[true, true, true, true, true, true, true, true, true, true, true, true, false, false, false, false, false, false, false, false, false, false, false, false, false] rfl rfl (any_of HT_.out (by kernel_rfl)) (fun _ _ _ h => h) (Or.inl ⟨by rfl, ?_⟩) ?_ ?_
        rotate_left
        ·intro w'
         go_simp
         with_reducible rfl
        rotate_left
        ·simp only [Act.put, q1_, q2_, q3_, i64_w, i32_w]
         rfl
        refine pure_ (i := 12) (N := some 29) (v := undef) (a' := ?_) #[true, true, true, true, true, true, true, true, true, true, true, true, true, false, false, false, false, false, false, false, false, false, false, false, false] rfl rfl (any_of HT_.out (by kernel_rfl)) (fun _ _ _ h => h) (Or.inr ⟨by rfl, rfl⟩) ?_ ?_
        rotate_left
        ·simp only [Act.put, q1_, q2_, q3_, i64_w, i32_w]
         rfl
        refine pure_ (i := 13) (N := some 30) (v := undef) (a' := ?_) #[true, true, true, true, true, true, true, true, true, true, true, true, true, true, false, false, false, false, false, false, false, false, false, false, false] rfl rfl (any_of HT_.out (by kernel_rfl)) (fun _ _ _ h => h) (Or.inr ⟨by rfl, rfl⟩) ?_ ?_
        rotate_left
        ·simp only [Act.put, q1_, q2_, q3_, i64_w, i32_w]
         rfl
        refine pure_ (i := 14) (N := some 31) (v := undef) (a' := ?_) #[true, true, true, true, true, true, true, true, true, true, true, true, true, true, true, false, false, false, false, false, false, false, false, false, false] rfl rfl (any_of HT_.out (by kernel_rfl)) (fun _ _ _ h => h) (Or.inr ⟨by rfl, rfl⟩) ?_ ?_
        rotate_left
        ·simp only [Act.put, q1_, q2_, q3_, i64_w, i32_w]
         rfl
        refine pure_ (i := 15) (N := some 32) (v := undef) (a' := ?_) #[true, true, true, true, true, true, true, true, true, true, true, true, true, true, true, true, false, false, false, false, false, false, false, false, false] rfl rfl (any_of HT_.out (by kernel_rfl)) (fun _ _ _ h => h) (Or.inr ⟨by rfl, rfl⟩) ?_ ?_
        rotate_left
        ·simp only [Act.put, q1_, q2_, q3_, i64_w, i32_w]
         rfl
        refine pure_ (i := 16) (N := some 33) (v := undef) (a' := ?_) #[true, true, true, true, true, true, true, true, true, true, true, true, true, true, true, true, true, false, false, false, false, false, false, false, false] rfl rfl (any_of HT_.out (by kernel_rfl)) (fun _ _ _ h => h) (Or.inr ⟨by rfl, rfl⟩) ?_ ?_
        rotate_left
        ·simp only [Act.put, q1_, q2_, q3_, i64_w, i32_w]
         rfl
        refine pure_ (i := 17) (N := some 34) (v := undef) (a' := ?_) #[true, true, true, true, true, true, true, true, true, true, true, true, true, true, true, true, true, true, false, false, false, false, false, false, false] rfl rfl (any_of HT_.out (by kernel_rfl)) (fun _ _ _ h => h) (Or.inr ⟨by rfl, rfl⟩) ?_ ?_
        rotate_left
        ·simp only [Act.put, q1_, q2_, q3_, i64_w, i32_w]
         rfl
        refine pure_ (i := 18) (N := some 35) (v := undef) (a' := ?_) #[true, true, true, true, true, true, true, true, true, true, true, true, true, true, true, true, true, true, true, false, false, false, false, false, false] rfl rfl (any_of HT_.out (by kernel_rfl)) (fun _ _ _ h => h) (Or.inr ⟨by rfl, rfl⟩) ?_ ?_
        rotate_left
        ·simp only [Act.put, q1_, q2_, q3_, i64_w, i32_w]
         rfl
        refine pure_ (i := 19) (N := some 36) (v := undef) (a' := ?_) #[true, true, true, true, true, true, true, true, true, true, true, true, true, true, true, true, true, true, true, true, false, false, false, false, false] rfl rfl (any_of HT_.out (by kernel_rfl)) (fun _ _ _ h => h) (Or.inr ⟨by rfl, rfl⟩) ?_ ?_
        rotate_left
        ·simp only [Act.put, q1_, q2_, q3_, i64_w, i32_w]
         rfl
        refine pure_ (i := 20) (N := some 37) (v := undef) (a' := ?_) #[true, true, true, true, true, true, true, true, true, true, true, true, true, true, true, true, true, true, true, true, true, false, false, false, false] rfl rfl (any_of HT_.out (by kernel_rfl)) (fun _ _ _ h => h) (Or.inr ⟨by rfl, rfl⟩) ?_ ?_
        rotate_left
        ·simp only [Act.put, q1_, q2_, q3_, i64_w, i32_w]
         rfl
        refine pure_ (i := 21) (N := some 38) (v := undef) (a' := ?_) #[true, true, true, true, true, true, true, true, true, true, true, true, true, true, true, true, true, true, true, true, true, true, false, false, false] rfl rfl (any_of HT_.out (by kernel_rfl)) (fun _ _ _ h => h) (Or.inr ⟨by rfl, rfl⟩) ?_ ?_
        rotate_left
        ·simp only [Act.put, q1_, q2_, q3_, i64_w, i32_w]
         rfl
        refine pure_ (i := 22) (N := some 39) (v := undef) (a' := ?_) #[true, true, true, true, true, true, true, true, true, true, true, true, true, true, true, true, true, true, true, true, true, true, true, false, false] rfl rfl (any_of HT_.out (by kernel_rfl)) (fun _ _ _ h => h) (Or.inr ⟨by rfl, rfl⟩) ?_ ?_
        rotate_left
        ·simp only [Act.put, q1_, q2_, q3_, i64_w, i32_w]
         rfl
        refine pure_ (i := 23) (N := some 40) (v := undef) (a' := ?_) #[true, true, true, true, true, true, true, true, true, true, true, true, true, true, true, true, true, true, true, true, true, true, true, true, false] rfl rfl (any_of HT_.out (by kernel_rfl)) (fun _ _ _ h => h) (Or.inr ⟨by rfl, rfl⟩) ?_ ?_
        rotate_left
        ·simp only [Act.put, q1_, q2_, q3_, i64_w, i32_w]
         rfl
        refine pure_ (i := 24) (N := some 41) (v := ?_) (a' := ?_) #[true, true, true, true, true, true, true, true, true, true, true, true, true, true, true, true, true, true, true, true, true, true, true, true, true] rfl rfl (any_of HT_.out (by kernel_rfl)) (fun _ _ _ h => h) (Or.inl ⟨by rfl, ?_⟩) ?_ ?_
        rotate_left
        ·intro w'
         go_simp
         with_reducible rfl
        rotate_left
        ·simp only [Act.put, q1_, q2_, q3_, i64_w, i32_w]
         rfl
        refine done_ (done_of HT_.out (by kernel_rfl)) ?_
        try go_wp2
        go_ret
        exact ⟨by first | rfl | (simp [errW_none, errW_some] <;> rfl) | (simp [*, errW_none, errW_some] <;> rfl), by repeat (first | (with_reducible first | exact HB.out | apply below_alloc | apply pw_below_drewN | apply below_drew1) | exact HB.out)⟩
      ·rw [if_neg c6] at H
       exact absurd H (by simp)
     ·rw [if_neg c5] at H
      exact absurd H (by simp)
    ·rw [if_neg c4] at H
     have c4b0 : decide (x5_1 < (l0.length : Int)) = false := decide_eq_false c4
     clear c4
     obtain rfl := Option.some.inj H
     go_wp2
     go_ret
     exact ⟨by first | rfl | (simp [errW_none, errW_some] <;> rfl) | (simp [*, errW_none, errW_some] <;> rfl), by repeat (first | (with_reducible first | exact HB.out | apply below_alloc | apply pw_below_drewN | apply below_drew1) | exact HB.out)⟩
 ·rw [if_neg c3] at H
  have c3b0 : ((l0.length : Int) == (l1.length : Int)) = false := beq_eq_false_iff_ne.mpr c3
  have c3b1 : ((l0.length : Int) != (l1.length : Int)) = true := bne_iff_ne.mpr c3
  have c3b2 : (l0.length == l1.length) = false := by first | simpa using c3 | (simp at c3 ⊢; omega)
  obtain rfl := Option.some.inj H
  go_enter Try.func18, Try.ntmps18
  go_wp2
  go_ret
  exact ⟨by first | rfl | (simp [errW_none, errW_some] <;> rfl) | (simp [*, errW_none, errW_some] <;> rfl), by repeat (first | (with_reducible first | exact HB.out | apply below_alloc | apply pw_below_drewN | apply below_drew1) | exact HB.out)⟩
end Go.Proofs.Ytfeeahjaeapkoaa.P
end
