/- Texts of this repo, joined, without what this claim does not use: P17, P18. -/
import Derived.Test.YtmjhgeinhhhodaaDAggBags1
import Derived.Test.YtmjhgeinhhhodaaDAggBags2
import Derived.Test.YtmjhgeinhhhodaaDAggBags3
section
namespace Go.Proofs.Ytmjhgeinhhhodaa.P
open Go.RowKit Go.Proofs.YtmjhgeinhhhodaaW.PrintWords Go.Proofs.YtmjhgeinhhhodaaW.PrintLast Go.Proofs.YtmjhgeinhhhodaaW.PrintMore
attribute [local go_sem] max2_int min2_int max_two min_two max_three min_three max_four min_four   -- for this text's walks alone
set_option linter.unusedVariables false
set_option linter.unusedSimpArgs false
open Go.Proofs.Ytmjhgeinhhhodaa.Ext (q1_ q2_ q3_ bk_ bw_ sz_ ne_ bx_)
attribute [local go_sem high] Go.Proofs.Ytmjhgeinhhhodaa.Ext.gtr_str Go.Proofs.Ytmjhgeinhhhodaa.Ext.leq_str Go.Proofs.Ytmjhgeinhhhodaa.Ext.geq_str
mutual
def gristmillref04_Compare.l0 : Nat → Int → Int → List ByteArray → List Int → Int → List ByteArray → List Int → Option (Int)
 | 0, _, _, _, _, _, _, _ => none
 | k + 1, x5, x447000, x447001, x447002, x448000, x448001, x448002 => if x5 < (x447001.length : Int) then (gristmillref04_Compare.j1 k x5 true x447000 x447001 x447002 x448000 x448001 x448002) else (gristmillref04_Compare.j1 k x5 (decide (x5 < (x448001.length : Int))) x447000 x447001 x447002 x448000 x448001 x448002)
def gristmillref04_Compare.j1 : Nat → Int → Bool → Int → List ByteArray → List Int → Int → List ByteArray → List Int → Option (Int)
 | 0, _, _, _, _, _, _, _, _ => none
 | k + 1, x5, x28, x447000, x447001, x447002, x448000, x448001, x448002 => if x28 = true then (if x5 ≥ (x447001.length : Int) then (some (-1)) else (if x5 ≥ (x448001.length : Int) then (some 1) else (if 0 ≤ x5 then (if x5 < (x447001.length : Int) then (if x5 < (x448001.length : Int) then (if (Op.bytesLess ((rdOf ByteArray.empty x447001 x5).toList) ((rdOf ByteArray.empty x448001 x5).toList)) = true then (some (-1)) else (if (Op.bytesLess ((rdOf ByteArray.empty x448001 x5).toList) ((rdOf ByteArray.empty x447001 x5).toList)) = true then (some 1) else (gristmillref04_Compare.l0 k (wrap64 (x5 + 1)) x447000 x447001 x447002 x448000 x448001 x448002))) else (none)) else (none)) else (none)))) else (gristmillref04_Compare.l1 k 0 x447000 x447001 x447002 x448000 x448001 x448002)
def gristmillref04_Compare.l1 : Nat → Int → Int → List ByteArray → List Int → Int → List ByteArray → List Int → Option (Int)
 | 0, _, _, _, _, _, _, _ => none
 | k + 1, x6, x447000, x447001, x447002, x448000, x448001, x448002 => if x6 < (x447002.length : Int) then (gristmillref04_Compare.j3 k x6 true x447000 x447001 x447002 x448000 x448001 x448002) else (gristmillref04_Compare.j3 k x6 (decide (x6 < (x448002.length : Int))) x447000 x447001 x447002 x448000 x448001 x448002)
def gristmillref04_Compare.j3 : Nat → Int → Bool → Int → List ByteArray → List Int → Int → List ByteArray → List Int → Option (Int)
 | 0, _, _, _, _, _, _, _, _ => none
 | k + 1, x6, x74, x447000, x447001, x447002, x448000, x448001, x448002 => if x74 = true then (if x6 ≥ (x447002.length : Int) then (some (-1)) else (if x6 ≥ (x448002.length : Int) then (some 1) else (if 0 ≤ x6 then (if x6 < (x447002.length : Int) then (if x6 < (x448002.length : Int) then (if (rd x447002 x6) < (rd x448002 x6) then (some (-1)) else (if (rd x447002 x6) > (rd x448002 x6) then (some 1) else (gristmillref04_Compare.l1 k (wrap64 (x6 + 1)) x447000 x447001 x447002 x448000 x448001 x448002))) else (none)) else (none)) else (none)))) else (some 0)
end
def gristmillref04_Compare.f (k : Nat) (a0_0 : Int) (l0_1 : List ByteArray) (l0_2 : List Int) (a1_0 : Int) (l1_1 : List ByteArray) (l1_2 : List Int) : Option (Int) := if a0_0 < a1_0 then (some (-1)) else (if a0_0 > a1_0 then (some 1) else (gristmillref04_Compare.l0 k 0 a0_0 l0_1 l0_2 a1_0 l1_1 l1_2))
set_option maxHeartbeats 8000000 in
set_option maxRecDepth 100000 in
theorem gristmillref04_Compare.calls (k : Nat) (a0_0 : Int) (A0_1 : Option Addr) (c0_1 : Nat) (l0_1 : List ByteArray) (A0_2 : Option Addr) (c0_2 : Nat) (l0_2 : List Int) (a1_0 : Int) (A1_1 : Option Addr) (c1_1 : Nat) (l1_1 : List ByteArray) (A1_2 : Option Addr) (c1_2 : Nat) (l1_2 : List Int) (r : Int) (w : World) (hr0_1 : Kd.C Kd.string w A0_1 l0_1.length l0_1) (hc0_1 : l0_1.length ≤ c0_1) (hr0_2 : Kd.C (Kd.int .i64) w A0_2 l0_2.length l0_2) (hc0_2 : l0_2.length ≤ c0_2) (hr1_1 : Kd.C Kd.string w A1_1 l1_1.length l1_1) (hc1_1 : l1_1.length ≤ c1_1) (hr1_2 : Kd.C (Kd.int .i64) w A1_2 l1_2.length l1_2) (hc1_2 : l1_2.length ≤ c1_2) (h : gristmillref04_Compare.f k a0_0 l0_1 l0_2 a1_0 l1_1 l1_2 = some r) :
  Calls Try.prog 43 #[.agg #[.int .i64 a0_0, .slice A0_1 l0_1.length c0_1, .slice A0_2 l0_2.length c0_2], .agg #[.int .i64 a1_0, .slice A1_1 l1_1.length c1_1, .slice A1_2 l1_2.length c1_2]] w fun e w' => e = .returned (.int .i64 r) ∧ Below w.heap.size w w' := by
 have hu42 := Try.underlying42
 have HR0_1 := Aside0.mk hr0_1
 have HC0_1 := Aside0.mk hc0_1
 clear hr0_1 hc0_1
 have HR0_2 := Aside0.mk hr0_2
 have HC0_2 := Aside0.mk hc0_2
 clear hr0_2 hc0_2
 have HR1_1 := Aside0.mk hr1_1
 have HC1_1 := Aside0.mk hc1_1
 clear hr1_1 hc1_1
 have HR1_2 := Aside0.mk hr1_2
 have HC1_2 := Aside0.mk hc1_2
 clear hr1_2 hc1_2
 have HB := Aside0.mk (Below.refl w.heap.size w)
 have H : (if a0_0 < a1_0 then (some (-1)) else (if a0_0 > a1_0 then (some 1) else (gristmillref04_Compare.l0 k 0 a0_0 l0_1 l0_2 a1_0 l1_1 l1_2))) = some r := h
 clear h
 by_cases c3 : a0_0 < a1_0
 ·rw [if_pos c3] at H
  have c3b0 : decide (a0_0 < a1_0) = true := decide_eq_true c3
  clear c3
  obtain rfl := Option.some.inj H
  go_enter Try.func43, Try.ntmps43
  go_wp2_with (first | ((with_reducible refine gate_dst (N := 2) rfl ?_); (try (refine gate_guard (by rfl) ?_; dsimp only)); refine bx_ (N := 2) (cs := #[.int .i64 a0_0, .slice A0_1 l0_1.length c0_1, .slice A0_2 l0_2.length c0_2]) (t := 42) ?_; intro gb446 hg w4 hbox hb; have n0_ := Aside0.mk (below_step (bw_ HB.out) hb); have n1_ := Aside0.mk (hbox); have n2_ := Aside0.mk (sz_ hg (bw_ HB.out)); have n3_ := n2_; clear HB; have HB := n0_; have BK446 := n1_; have GW446 := n2_; have GE446 := n3_; clear n0_ n1_ n2_ n3_; clear hb hbox hg) | ((with_reducible refine gate_dst (N := 3) rfl ?_); (try (refine gate_guard (by rfl) ?_; dsimp only)); refine bx_ (N := 3) (cs := #[.int .i64 a1_0, .slice A1_1 l1_1.length c1_1, .slice A1_2 l1_2.length c1_2]) (t := 42) ?_; intro gb447 hg w5 hbox hb; have n0_ := Aside0.mk (blk_below (bk_ BK446.out) hb); have n1_ := Aside0.mk (below_step (bw_ HB.out) hb); have n2_ := Aside0.mk (hbox); have n3_ := Aside0.mk (sz_ hg (bw_ HB.out)); have n4_ := n3_; have n5_ := Aside0.mk (ne_ hg (blk_lt (bk_ BK446.out))); have n6_ := Aside0.mk n5_.out.symm; clear BK446 HB; have BK446 := n0_; have HB := n1_; have BK447 := n2_; have GW447 := n3_; have GE447 := n4_; have NB446_447 := n5_; have NB447_446 := n6_; clear n0_ n1_ n2_ n3_ n4_ n5_ n6_; clear hb hbox hg; have hnb6 := NB446_447.out; have hnc6 := NB447_446.out; have hcz7_0 : w5.cell? ⟨gb446, 0, none⟩ = some (.int .i64 a0_0) := (blk_cell BK446.out 0).trans rfl; have hcz7_1 : w5.cell? ⟨gb446, 1, none⟩ = some (.slice A0_1 l0_1.length c0_1) := (blk_cell BK446.out 1).trans rfl; have hcz7_2 : w5.cell? ⟨gb446, 2, none⟩ = some (.slice A0_2 l0_2.length c0_2) := (blk_cell BK446.out 2).trans rfl; have hfz7_0 := blk_frozen BK446.out 0; have hfz7_1 := blk_frozen BK446.out 1; have hfz7_2 := blk_frozen BK446.out 2; have hcz8_0 : w5.cell? ⟨gb447, 0, none⟩ = some (.int .i64 a1_0) := (blk_cell BK447.out 0).trans rfl; have hcz8_1 : w5.cell? ⟨gb447, 1, none⟩ = some (.slice A1_1 l1_1.length c1_1) := (blk_cell BK447.out 1).trans rfl; have hcz8_2 : w5.cell? ⟨gb447, 2, none⟩ = some (.slice A1_2 l1_2.length c1_2) := (blk_cell BK447.out 2).trans rfl; have hfz8_0 := blk_frozen BK447.out 0; have hfz8_1 := blk_frozen BK447.out 1; have hfz8_2 := blk_frozen BK447.out 2))
  repeat (go_quiet (first | ((with_reducible refine gate_dst (N := 2) rfl ?_); (try (refine gate_guard (by rfl) ?_; dsimp only)); refine bx_ (N := 2) (cs := #[.int .i64 a0_0, .slice A0_1 l0_1.length c0_1, .slice A0_2 l0_2.length c0_2]) (t := 42) ?_; intro gb446 hg w4 hbox hb; have n0_ := Aside0.mk (below_step (bw_ HB.out) hb); have n1_ := Aside0.mk (hbox); have n2_ := Aside0.mk (sz_ hg (bw_ HB.out)); have n3_ := n2_; clear HB; have HB := n0_; have BK446 := n1_; have GW446 := n2_; have GE446 := n3_; clear n0_ n1_ n2_ n3_; clear hb hbox hg) | ((with_reducible refine gate_dst (N := 3) rfl ?_); (try (refine gate_guard (by rfl) ?_; dsimp only)); refine bx_ (N := 3) (cs := #[.int .i64 a1_0, .slice A1_1 l1_1.length c1_1, .slice A1_2 l1_2.length c1_2]) (t := 42) ?_; intro gb447 hg w5 hbox hb; have n0_ := Aside0.mk (blk_below (bk_ BK446.out) hb); have n1_ := Aside0.mk (below_step (bw_ HB.out) hb); have n2_ := Aside0.mk (hbox); have n3_ := Aside0.mk (sz_ hg (bw_ HB.out)); have n4_ := n3_; have n5_ := Aside0.mk (ne_ hg (blk_lt (bk_ BK446.out))); have n6_ := Aside0.mk n5_.out.symm; clear BK446 HB; have BK446 := n0_; have HB := n1_; have BK447 := n2_; have GW447 := n3_; have GE447 := n4_; have NB446_447 := n5_; have NB447_446 := n6_; clear n0_ n1_ n2_ n3_ n4_ n5_ n6_; clear hb hbox hg; have hnb6 := NB446_447.out; have hnc6 := NB447_446.out; have hcz7_0 : w5.cell? ⟨gb446, 0, none⟩ = some (.int .i64 a0_0) := (blk_cell BK446.out 0).trans rfl; have hcz7_1 : w5.cell? ⟨gb446, 1, none⟩ = some (.slice A0_1 l0_1.length c0_1) := (blk_cell BK446.out 1).trans rfl; have hcz7_2 : w5.cell? ⟨gb446, 2, none⟩ = some (.slice A0_2 l0_2.length c0_2) := (blk_cell BK446.out 2).trans rfl; have hfz7_0 := blk_frozen BK446.out 0; have hfz7_1 := blk_frozen BK446.out 1; have hfz7_2 := blk_frozen BK446.out 2; have hcz8_0 : w5.cell? ⟨gb447, 0, none⟩ = some (.int .i64 a1_0) := (blk_cell BK447.out 0).trans rfl; have hcz8_1 : w5.cell? ⟨gb447, 1, none⟩ = some (.slice A1_1 l1_1.length c1_1) := (blk_cell BK447.out 1).trans rfl; have hcz8_2 : w5.cell? ⟨gb447, 2, none⟩ = some (.slice A1_2 l1_2.length c1_2) := (blk_cell BK447.out 2).trans rfl; have hfz8_0 := blk_frozen BK447.out 0; have hfz8_1 := blk_frozen BK447.out 1; have hfz8_2 := blk_frozen BK447.out 2)); try go_wp2_with (first | ((with_reducible refine gate_dst (N := 2) rfl ?_); (try (refine gate_guard (by rfl) ?_; dsimp only)); refine bx_ (N := 2) (cs := #[.int .i64 a0_0, .slice A0_1 l0_1.length c0_1, .slice A0_2 l0_2.length c0_2]) (t := 42) ?_; intro gb446 hg w4 hbox hb; have n0_ := Aside0.mk (below_step (bw_ HB.out) hb); have n1_ := Aside0.mk (hbox); have n2_ := Aside0.mk (sz_ hg (bw_ HB.out)); have n3_ := n2_; clear HB; have HB := n0_; have BK446 := n1_; have GW446 := n2_; have GE446 := n3_; clear n0_ n1_ n2_ n3_; clear hb hbox hg) | ((with_reducible refine gate_dst (N := 3) rfl ?_); (try (refine gate_guard (by rfl) ?_; dsimp only)); refine bx_ (N := 3) (cs := #[.int .i64 a1_0, .slice A1_1 l1_1.length c1_1, .slice A1_2 l1_2.length c1_2]) (t := 42) ?_; intro gb447 hg w5 hbox hb; have n0_ := Aside0.mk (blk_below (bk_ BK446.out) hb); have n1_ := Aside0.mk (below_step (bw_ HB.out) hb); have n2_ := Aside0.mk (hbox); have n3_ := Aside0.mk (sz_ hg (bw_ HB.out)); have n4_ := n3_; have n5_ := Aside0.mk (ne_ hg (blk_lt (bk_ BK446.out))); have n6_ := Aside0.mk n5_.out.symm; clear BK446 HB; have BK446 := n0_; have HB := n1_; have BK447 := n2_; have GW447 := n3_; have GE447 := n4_; have NB446_447 := n5_; have NB447_446 := n6_; clear n0_ n1_ n2_ n3_ n4_ n5_ n6_; clear hb hbox hg; have hnb6 := NB446_447.out; have hnc6 := NB447_446.out; have hcz7_0 : w5.cell? ⟨gb446, 0, none⟩ = some (.int .i64 a0_0) := (blk_cell BK446.out 0).trans rfl; have hcz7_1 : w5.cell? ⟨gb446, 1, none⟩ = some (.slice A0_1 l0_1.length c0_1) := (blk_cell BK446.out 1).trans rfl; have hcz7_2 : w5.cell? ⟨gb446, 2, none⟩ = some (.slice A0_2 l0_2.length c0_2) := (blk_cell BK446.out 2).trans rfl; have hfz7_0 := blk_frozen BK446.out 0; have hfz7_1 := blk_frozen BK446.out 1; have hfz7_2 := blk_frozen BK446.out 2; have hcz8_0 : w5.cell? ⟨gb447, 0, none⟩ = some (.int .i64 a1_0) := (blk_cell BK447.out 0).trans rfl; have hcz8_1 : w5.cell? ⟨gb447, 1, none⟩ = some (.slice A1_1 l1_1.length c1_1) := (blk_cell BK447.out 1).trans rfl; have hcz8_2 : w5.cell? ⟨gb447, 2, none⟩ = some (.slice A1_2 l1_2.length c1_2) := (blk_cell BK447.out 2).trans rfl; have hfz8_0 := blk_frozen BK447.out 0; have hfz8_1 := blk_frozen BK447.out 1; have hfz8_2 := blk_frozen BK447.out 2)))
  go_ret
  exact ⟨by first | rfl | (simp [errW_none, errW_some] <;> rfl) | (simp [*, errW_none, errW_some] <;> rfl), by repeat (first | (with_reducible first | exact HB.out | apply below_alloc | apply pw_below_drewN | apply below_drew1 | refine below_set ?_ GE446.out | refine below_set ?_ GE447.out) | exact HB.out)⟩
 ·rw [if_neg c3] at H
  have c3b0 : decide (a0_0 < a1_0) = false := decide_eq_false c3
  clear c3
  by_cases c9 : a0_0 > a1_0
  ·rw [if_pos c9] at H
   have c9b0 : decide (a1_0 < a0_0) = true := decide_eq_true c9
   clear c9
   obtain rfl := Option.some.inj H
   go_enter Try.func43, Try.ntmps43
   go_wp2_with (first | ((with_reducible refine gate_dst (N := 2) rfl ?_); (try (refine gate_guard (by rfl) ?_; dsimp only)); refine bx_ (N := 2) (cs := #[.int .i64 a0_0, .slice A0_1 l0_1.length c0_1, .slice A0_2 l0_2.length c0_2]) (t := 42) ?_; intro gb446 hg w10 hbox hb; have n0_ := Aside0.mk (below_step (bw_ HB.out) hb); have n1_ := Aside0.mk (hbox); have n2_ := Aside0.mk (sz_ hg (bw_ HB.out)); have n3_ := n2_; clear HB; have HB := n0_; have BK446 := n1_; have GW446 := n2_; have GE446 := n3_; clear n0_ n1_ n2_ n3_; clear hb hbox hg) | ((with_reducible refine gate_dst (N := 3) rfl ?_); (try (refine gate_guard (by rfl) ?_; dsimp only)); refine bx_ (N := 3) (cs := #[.int .i64 a1_0, .slice A1_1 l1_1.length c1_1, .slice A1_2 l1_2.length c1_2]) (t := 42) ?_; intro gb447 hg w11 hbox hb; have n0_ := Aside0.mk (blk_below (bk_ BK446.out) hb); have n1_ := Aside0.mk (below_step (bw_ HB.out) hb); have n2_ := Aside0.mk (hbox); have n3_ := Aside0.mk (sz_ hg (bw_ HB.out)); have n4_ := n3_; have n5_ := Aside0.mk (ne_ hg (blk_lt (bk_ BK446.out))); have n6_ := Aside0.mk n5_.out.symm; clear BK446 HB; have BK446 := n0_; have HB := n1_; have BK447 := n2_; have GW447 := n3_; have GE447 := n4_; have NB446_447 := n5_; have NB447_446 := n6_; clear n0_ n1_ n2_ n3_ n4_ n5_ n6_; clear hb hbox hg; have hnb12 := NB446_447.out; have hnc12 := NB447_446.out; have hcz13_0 : w11.cell? ⟨gb446, 0, none⟩ = some (.int .i64 a0_0) := (blk_cell BK446.out 0).trans rfl; have hcz13_1 : w11.cell? ⟨gb446, 1, none⟩ = some (.slice A0_1 l0_1.length c0_1) := (blk_cell BK446.out 1).trans rfl; have hcz13_2 : w11.cell? ⟨gb446, 2, none⟩ = some (.slice A0_2 l0_2.length c0_2) := (blk_cell BK446.out 2).trans rfl; have hfz13_0 := blk_frozen BK446.out 0; have hfz13_1 := blk_frozen BK446.out 1; have hfz13_2 := blk_frozen BK446.out 2; have hcz14_0 : w11.cell? ⟨gb447, 0, none⟩ = some (.int .i64 a1_0) := (blk_cell BK447.out 0).trans rfl; have hcz14_1 : w11.cell? ⟨gb447, 1, none⟩ = some (.slice A1_1 l1_1.length c1_1) := (blk_cell BK447.out 1).trans rfl; have hcz14_2 : w11.cell? ⟨gb447, 2, none⟩ = some (.slice A1_2 l1_2.length c1_2) := (blk_cell BK447.out 2).trans rfl; have hfz14_0 := blk_frozen BK447.out 0; have hfz14_1 := blk_frozen BK447.out 1; have hfz14_2 := blk_frozen BK447.out 2))
   repeat (go_quiet (first | ((with_reducible refine gate_dst (N := 2) rfl ?_); (try (refine gate_guard (by rfl) ?_; dsimp only)); refine bx_ (N := 2) (cs := #[.int .i64 a0_0, .slice A0_1 l0_1.length c0_1, .slice A0_2 l0_2.length c0_2]) (t := 42) ?_; intro gb446 hg w10 hbox hb; have n0_ := Aside0.mk (below_step (bw_ HB.out) hb); have n1_ := Aside0.mk (hbox); have n2_ := Aside0.mk (sz_ hg (bw_ HB.out)); have n3_ := n2_; clear HB; have HB := n0_; have BK446 := n1_; have GW446 := n2_; have GE446 := n3_; clear n0_ n1_ n2_ n3_; clear hb hbox hg) | ((with_reducible refine gate_dst (N := 3) rfl ?_); (try (refine gate_guard (by rfl) ?_; dsimp only)); refine bx_ (N := 3) (cs := #[.int .i64 a1_0, .slice A1_1 l1_1.length c1_1, .slice A1_2 l1_2.length c1_2]) (t := 42) ?_; intro gb447 hg w11 hbox hb; have n0_ := Aside0.mk (blk_below (bk_ BK446.out) hb); have n1_ := Aside0.mk (below_step (bw_ HB.out) hb); have n2_ := Aside0.mk (hbox); have n3_ := Aside0.mk (sz_ hg (bw_ HB.out)); have n4_ := n3_; have n5_ := Aside0.mk (ne_ hg (blk_lt (bk_ BK446.out))); have n6_ := Aside0.mk n5_.out.symm; clear BK446 HB; have BK446 := n0_; have HB := n1_; have BK447 := n2_; have GW447 := n3_; have GE447 := n4_; have NB446_447 := n5_; have NB447_446 := n6_; clear n0_ n1_ n2_ n3_ n4_ n5_ n6_; clear hb hbox hg; have hnb12 := NB446_447.out; have hnc12 := NB447_446.out; have hcz13_0 : w11.cell? ⟨gb446, 0, none⟩ = some (.int .i64 a0_0) := (blk_cell BK446.out 0).trans rfl; have hcz13_1 : w11.cell? ⟨gb446, 1, none⟩ = some (.slice A0_1 l0_1.length c0_1) := (blk_cell BK446.out 1).trans rfl; have hcz13_2 : w11.cell? ⟨gb446, 2, none⟩ = some (.slice A0_2 l0_2.length c0_2) := (blk_cell BK446.out 2).trans rfl; have hfz13_0 := blk_frozen BK446.out 0; have hfz13_1 := blk_frozen BK446.out 1; have hfz13_2 := blk_frozen BK446.out 2; have hcz14_0 : w11.cell? ⟨gb447, 0, none⟩ = some (.int .i64 a1_0) := (blk_cell BK447.out 0).trans rfl; have hcz14_1 : w11.cell? ⟨gb447, 1, none⟩ = some (.slice A1_1 l1_1.length c1_1) := (blk_cell BK447.out 1).trans rfl; have hcz14_2 : w11.cell? ⟨gb447, 2, none⟩ = some (.slice A1_2 l1_2.length c1_2) := (blk_cell BK447.out 2).trans rfl; have hfz14_0 := blk_frozen BK447.out 0; have hfz14_1 := blk_frozen BK447.out 1; have hfz14_2 := blk_frozen BK447.out 2)); try go_wp2_with (first | ((with_reducible refine gate_dst (N := 2) rfl ?_); (try (refine gate_guard (by rfl) ?_; dsimp only)); refine bx_ (N := 2) (cs := #[.int .i64 a0_0, .slice A0_1 l0_1.length c0_1, .slice A0_2 l0_2.length c0_2]) (t := 42) ?_; intro gb446 hg w10 hbox hb; have n0_ := Aside0.mk (below_step (bw_ HB.out) hb); have n1_ := Aside0.mk (hbox); have n2_ := Aside0.mk (sz_ hg (bw_ HB.out)); have n3_ := n2_; clear HB; have HB := n0_; have BK446 := n1_; have GW446 := n2_; have GE446 := n3_; clear n0_ n1_ n2_ n3_; clear hb hbox hg) | ((with_reducible refine gate_dst (N := 3) rfl ?_); (try (refine gate_guard (by rfl) ?_; dsimp only)); refine bx_ (N := 3) (cs := #[.int .i64 a1_0, .slice A1_1 l1_1.length c1_1, .slice A1_2 l1_2.length c1_2]) (t := 42) ?_; intro gb447 hg w11 hbox hb; have n0_ := Aside0.mk (blk_below (bk_ BK446.out) hb); have n1_ := Aside0.mk (below_step (bw_ HB.out) hb); have n2_ := Aside0.mk (hbox); have n3_ := Aside0.mk (sz_ hg (bw_ HB.out)); have n4_ := n3_; have n5_ := Aside0.mk (ne_ hg (blk_lt (bk_ BK446.out))); have n6_ := Aside0.mk n5_.out.symm; clear BK446 HB; have BK446 := n0_; have HB := n1_; have BK447 := n2_; have GW447 := n3_; have GE447 := n4_; have NB446_447 := n5_; have NB447_446 := n6_; clear n0_ n1_ n2_ n3_ n4_ n5_ n6_; clear hb hbox hg; have hnb12 := NB446_447.out; have hnc12 := NB447_446.out; have hcz13_0 : w11.cell? ⟨gb446, 0, none⟩ = some (.int .i64 a0_0) := (blk_cell BK446.out 0).trans rfl; have hcz13_1 : w11.cell? ⟨gb446, 1, none⟩ = some (.slice A0_1 l0_1.length c0_1) := (blk_cell BK446.out 1).trans rfl; have hcz13_2 : w11.cell? ⟨gb446, 2, none⟩ = some (.slice A0_2 l0_2.length c0_2) := (blk_cell BK446.out 2).trans rfl; have hfz13_0 := blk_frozen BK446.out 0; have hfz13_1 := blk_frozen BK446.out 1; have hfz13_2 := blk_frozen BK446.out 2; have hcz14_0 : w11.cell? ⟨gb447, 0, none⟩ = some (.int .i64 a1_0) := (blk_cell BK447.out 0).trans rfl; have hcz14_1 : w11.cell? ⟨gb447, 1, none⟩ = some (.slice A1_1 l1_1.length c1_1) := (blk_cell BK447.out 1).trans rfl; have hcz14_2 : w11.cell? ⟨gb447, 2, none⟩ = some (.slice A1_2 l1_2.length c1_2) := (blk_cell BK447.out 2).trans rfl; have hfz14_0 := blk_frozen BK447.out 0; have hfz14_1 := blk_frozen BK447.out 1; have hfz14_2 := blk_frozen BK447.out 2)))
   go_ret
   exact ⟨by first | rfl | (simp [errW_none, errW_some] <;> rfl) | (simp [*, errW_none, errW_some] <;> rfl), by repeat (first | (with_reducible first | exact HB.out | apply below_alloc | apply pw_below_drewN | apply below_drew1 | refine below_set ?_ GE446.out | refine below_set ?_ GE447.out) | exact HB.out)⟩
  ·rw [if_neg c9] at H
   have c9b0 : decide (a1_0 < a0_0) = false := decide_eq_false c9
   clear c9
   have H' := Aside0.mk H
   clear H
   go_enter Try.func43, Try.ntmps43
   go_wp2_with (first | ((with_reducible refine gate_dst (N := 2) rfl ?_); (try (refine gate_guard (by rfl) ?_; dsimp only)); refine bx_ (N := 2) (cs := #[.int .i64 a0_0, .slice A0_1 l0_1.length c0_1, .slice A0_2 l0_2.length c0_2]) (t := 42) ?_; intro gb446 hg w15 hbox hb; have n0_ := Aside0.mk (below_step (bw_ HB.out) hb); have n1_ := Aside0.mk (hbox); have n2_ := Aside0.mk (sz_ hg (bw_ HB.out)); have n3_ := n2_; clear HB; have HB := n0_; have BK446 := n1_; have GW446 := n2_; have GE446 := n3_; clear n0_ n1_ n2_ n3_; clear hb hbox hg) | ((with_reducible refine gate_dst (N := 3) rfl ?_); (try (refine gate_guard (by rfl) ?_; dsimp only)); refine bx_ (N := 3) (cs := #[.int .i64 a1_0, .slice A1_1 l1_1.length c1_1, .slice A1_2 l1_2.length c1_2]) (t := 42) ?_; intro gb447 hg w16 hbox hb; have n0_ := Aside0.mk (blk_below (bk_ BK446.out) hb); have n1_ := Aside0.mk (below_step (bw_ HB.out) hb); have n2_ := Aside0.mk (hbox); have n3_ := Aside0.mk (sz_ hg (bw_ HB.out)); have n4_ := n3_; have n5_ := Aside0.mk (ne_ hg (blk_lt (bk_ BK446.out))); have n6_ := Aside0.mk n5_.out.symm; clear BK446 HB; have BK446 := n0_; have HB := n1_; have BK447 := n2_; have GW447 := n3_; have GE447 := n4_; have NB446_447 := n5_; have NB447_446 := n6_; clear n0_ n1_ n2_ n3_ n4_ n5_ n6_; clear hb hbox hg; have hnb17 := NB446_447.out; have hnc17 := NB447_446.out; have hcz18_0 : w16.cell? ⟨gb446, 0, none⟩ = some (.int .i64 a0_0) := (blk_cell BK446.out 0).trans rfl; have hcz18_1 : w16.cell? ⟨gb446, 1, none⟩ = some (.slice A0_1 l0_1.length c0_1) := (blk_cell BK446.out 1).trans rfl; have hcz18_2 : w16.cell? ⟨gb446, 2, none⟩ = some (.slice A0_2 l0_2.length c0_2) := (blk_cell BK446.out 2).trans rfl; have hfz18_0 := blk_frozen BK446.out 0; have hfz18_1 := blk_frozen BK446.out 1; have hfz18_2 := blk_frozen BK446.out 2; have hcz19_0 : w16.cell? ⟨gb447, 0, none⟩ = some (.int .i64 a1_0) := (blk_cell BK447.out 0).trans rfl; have hcz19_1 : w16.cell? ⟨gb447, 1, none⟩ = some (.slice A1_1 l1_1.length c1_1) := (blk_cell BK447.out 1).trans rfl; have hcz19_2 : w16.cell? ⟨gb447, 2, none⟩ = some (.slice A1_2 l1_2.length c1_2) := (blk_cell BK447.out 2).trans rfl; have hfz19_0 := blk_frozen BK447.out 0; have hfz19_1 := blk_frozen BK447.out 1; have hfz19_2 := blk_frozen BK447.out 2))
   repeat (go_quiet (first | ((with_reducible refine gate_dst (N := 2) rfl ?_); (try (refine gate_guard (by rfl) ?_; dsimp only)); refine bx_ (N := 2) (cs := #[.int .i64 a0_0, .slice A0_1 l0_1.length c0_1, .slice A0_2 l0_2.length c0_2]) (t := 42) ?_; intro gb446 hg w15 hbox hb; have n0_ := Aside0.mk (below_step (bw_ HB.out) hb); have n1_ := Aside0.mk (hbox); have n2_ := Aside0.mk (sz_ hg (bw_ HB.out)); have n3_ := n2_; clear HB; have HB := n0_; have BK446 := n1_; have GW446 := n2_; have GE446 := n3_; clear n0_ n1_ n2_ n3_; clear hb hbox hg) | ((with_reducible refine gate_dst (N := 3) rfl ?_); (try (refine gate_guard (by rfl) ?_; dsimp only)); refine bx_ (N := 3) (cs := #[.int .i64 a1_0, .slice A1_1 l1_1.length c1_1, .slice A1_2 l1_2.length c1_2]) (t := 42) ?_; intro gb447 hg w16 hbox hb; have n0_ := Aside0.mk (blk_below (bk_ BK446.out) hb); have n1_ := Aside0.mk (below_step (bw_ HB.out) hb); have n2_ := Aside0.mk (hbox); have n3_ := Aside0.mk (sz_ hg (bw_ HB.out)); have n4_ := n3_; have n5_ := Aside0.mk (ne_ hg (blk_lt (bk_ BK446.out))); have n6_ := Aside0.mk n5_.out.symm; clear BK446 HB; have BK446 := n0_; have HB := n1_; have BK447 := n2_; have GW447 := n3_; have GE447 := n4_; have NB446_447 := n5_; have NB447_446 := n6_; clear n0_ n1_ n2_ n3_ n4_ n5_ n6_; clear hb hbox hg; have hnb17 := NB446_447.out; have hnc17 := NB447_446.out; have hcz18_0 : w16.cell? ⟨gb446, 0, none⟩ = some (.int .i64 a0_0) := (blk_cell BK446.out 0).trans rfl; have hcz18_1 : w16.cell? ⟨gb446, 1, none⟩ = some (.slice A0_1 l0_1.length c0_1) := (blk_cell BK446.out 1).trans rfl; have hcz18_2 : w16.cell? ⟨gb446, 2, none⟩ = some (.slice A0_2 l0_2.length c0_2) := (blk_cell BK446.out 2).trans rfl; have hfz18_0 := blk_frozen BK446.out 0; have hfz18_1 := blk_frozen BK446.out 1; have hfz18_2 := blk_frozen BK446.out 2; have hcz19_0 : w16.cell? ⟨gb447, 0, none⟩ = some (.int .i64 a1_0) := (blk_cell BK447.out 0).trans rfl; have hcz19_1 : w16.cell? ⟨gb447, 1, none⟩ = some (.slice A1_1 l1_1.length c1_1) := (blk_cell BK447.out 1).trans rfl; have hcz19_2 : w16.cell? ⟨gb447, 2, none⟩ = some (.slice A1_2 l1_2.length c1_2) := (blk_cell BK447.out 2).trans rfl; have hfz19_0 := blk_frozen BK447.out 0; have hfz19_1 := blk_frozen BK447.out 1; have hfz19_2 := blk_frozen BK447.out 2)); try go_wp2_with (first | ((with_reducible refine gate_dst (N := 2) rfl ?_); (try (refine gate_guard (by rfl) ?_; dsimp only)); refine bx_ (N := 2) (cs := #[.int .i64 a0_0, .slice A0_1 l0_1.length c0_1, .slice A0_2 l0_2.length c0_2]) (t := 42) ?_; intro gb446 hg w15 hbox hb; have n0_ := Aside0.mk (below_step (bw_ HB.out) hb); have n1_ := Aside0.mk (hbox); have n2_ := Aside0.mk (sz_ hg (bw_ HB.out)); have n3_ := n2_; clear HB; have HB := n0_; have BK446 := n1_; have GW446 := n2_; have GE446 := n3_; clear n0_ n1_ n2_ n3_; clear hb hbox hg) | ((with_reducible refine gate_dst (N := 3) rfl ?_); (try (refine gate_guard (by rfl) ?_; dsimp only)); refine bx_ (N := 3) (cs := #[.int .i64 a1_0, .slice A1_1 l1_1.length c1_1, .slice A1_2 l1_2.length c1_2]) (t := 42) ?_; intro gb447 hg w16 hbox hb; have n0_ := Aside0.mk (blk_below (bk_ BK446.out) hb); have n1_ := Aside0.mk (below_step (bw_ HB.out) hb); have n2_ := Aside0.mk (hbox); have n3_ := Aside0.mk (sz_ hg (bw_ HB.out)); have n4_ := n3_; have n5_ := Aside0.mk (ne_ hg (blk_lt (bk_ BK446.out))); have n6_ := Aside0.mk n5_.out.symm; clear BK446 HB; have BK446 := n0_; have HB := n1_; have BK447 := n2_; have GW447 := n3_; have GE447 := n4_; have NB446_447 := n5_; have NB447_446 := n6_; clear n0_ n1_ n2_ n3_ n4_ n5_ n6_; clear hb hbox hg; have hnb17 := NB446_447.out; have hnc17 := NB447_446.out; have hcz18_0 : w16.cell? ⟨gb446, 0, none⟩ = some (.int .i64 a0_0) := (blk_cell BK446.out 0).trans rfl; have hcz18_1 : w16.cell? ⟨gb446, 1, none⟩ = some (.slice A0_1 l0_1.length c0_1) := (blk_cell BK446.out 1).trans rfl; have hcz18_2 : w16.cell? ⟨gb446, 2, none⟩ = some (.slice A0_2 l0_2.length c0_2) := (blk_cell BK446.out 2).trans rfl; have hfz18_0 := blk_frozen BK446.out 0; have hfz18_1 := blk_frozen BK446.out 1; have hfz18_2 := blk_frozen BK446.out 2; have hcz19_0 : w16.cell? ⟨gb447, 0, none⟩ = some (.int .i64 a1_0) := (blk_cell BK447.out 0).trans rfl; have hcz19_1 : w16.cell? ⟨gb447, 1, none⟩ = some (.slice A1_1 l1_1.length c1_1) := (blk_cell BK447.out 1).trans rfl; have hcz19_2 : w16.cell? ⟨gb447, 2, none⟩ = some (.slice A1_2 l1_2.length c1_2) := (blk_cell BK447.out 2).trans rfl; have hfz19_0 := blk_frozen BK447.out 0; have hfz19_1 := blk_frozen BK447.out 1; have hfz19_2 := blk_frozen BK447.out 2)))
   go_loopg [5] k (fun kq v5 w' => ∃ (x5_1 : Int), v5 = .int .i64 x5_1 ∧ Aside0 (gristmillref04_Compare.l0 kq x5_1 a0_0 l0_1 l0_2 a1_0 l1_1 l1_2 = some r) ∧ Aside0 (kq ≤ k) ∧ Aside0 (w'.heap[gb446]? = some (.cells #[.int .i64 a0_0, (.slice A0_1 l0_1.length c0_1), (.slice A0_2 l0_2.length c0_2)] 42 (0, 0))) ∧ Aside0 (w'.heap[gb447]? = some (.cells #[.int .i64 a1_0, (.slice A1_1 l1_1.length c1_1), (.slice A1_2 l1_2.length c1_2)] 42 (0, 0))) ∧ Aside0 (Below w.heap.size w w'))
   case atStart => exact ⟨(0), (by first | rfl | (simp; done) | (simp [*]; done)), H', ⟨Nat.le_refl _⟩, ⟨by (with_reducible repeat (first | refine blk_drewN ?_ _ | refine blk_drew ?_ | refine blk_alloc ?_ _)); exact BK446.out⟩, ⟨by (with_reducible repeat (first | refine blk_drewN ?_ _ | refine blk_drew ?_ | refine blk_alloc ?_ _)); exact BK447.out⟩, ⟨by repeat (first | (with_reducible first | exact HB.out | apply below_alloc | apply pw_below_drewN | apply below_drew1 | refine below_set ?_ GE446.out | refine below_set ?_ GE447.out) | exact HB.out)⟩⟩
   case round =>
    clear H'
    try clear c1
    try clear p2
    try clear c3
    try clear c3b0
    try clear c4
    try clear c6
    try clear c9
    try clear c9b0
    try clear c12
    try clear c17
    try clear hcz13_0
    try clear hcz13_1
    try clear hcz13_2
    try clear hcz14_0
    try clear hcz14_1
    try clear hcz14_2
    try clear hcz18_0
    try clear hcz18_1
    try clear hcz18_2
    try clear hcz19_0
    try clear hcz19_1
    try clear hcz19_2
    try clear hcz7_0
    try clear hcz7_1
    try clear hcz7_2
    try clear hcz8_0
    try clear hcz8_1
    try clear hcz8_2
    try clear hfz13_0
    try clear hfz13_1
    try clear hfz13_2
    try clear hfz14_0
    try clear hfz14_1
    try clear hfz14_2
    try clear hfz18_0
    try clear hfz18_1
    try clear hfz18_2
    try clear hfz19_0
    try clear hfz19_1
    try clear hfz19_2
    try clear hfz7_0
    try clear hfz7_1
    try clear hfz7_2
    try clear hfz8_0
    try clear hfz8_1
    try clear hfz8_2
    obtain ⟨x5_1, rfl, HA, HK1, BK446, BK447, HB⟩ := hrel
    cases gk with
    | zero => exact absurd HA.out (by simp [gristmillref04_Compare.l0])
    | succ k1 =>
     have H := HA.out
     clear HA
     simp only [gristmillref04_Compare.l0] at H
     have HC20 := Aside0.mk H
     clear H
     go_upto_region 6 with (fail)
     repeat (go_quiet (fail); go_upto_region 6 with (fail))
     go_cut [28] (fun v28 wc => ∃ (kq : Nat) (x28_19 : Bool), v28 = .bool x28_19 ∧ Aside0 (gristmillref04_Compare.j1 kq x5_1 x28_19 a0_0 l0_1 l0_2 a1_0 l1_1 l1_2 = some r) ∧ Aside0 (kq ≤ k1) ∧ Aside0 (wc.heap[gb446]? = some (.cells #[.int .i64 a0_0, (.slice A0_1 l0_1.length c0_1), (.slice A0_2 l0_2.length c0_2)] 42 (0, 0))) ∧ Aside0 (wc.heap[gb447]? = some (.cells #[.int .i64 a1_0, (.slice A1_1 l1_1.length c1_1), (.slice A1_2 l1_2.length c1_2)] 42 (0, 0))) ∧ Aside0 (Below w.heap.size w wc))
     case first =>
      have H := HC20.out
      clear HC20
      by_cases c21 : x5_1 < (l0_1.length : Int)
      ·rw [if_pos c21] at H
       have c21b0 : decide (x5_1 < (l0_1.length : Int)) = true := decide_eq_true c21
       clear c21
       (first | rw [c21b0] | (simp only [i64_w, i32_w]; rw [c21b0]) | skip)
       have H' := Aside0.mk H
       clear H
       have hnb22 := NB446_447.out
       have hnc22 := NB447_446.out
       have hcz23_0 : wr.cell? ⟨gb446, 0, none⟩ = some (.int .i64 a0_0) := (blk_cell BK446.out 0).trans rfl
       have hcz23_1 : wr.cell? ⟨gb446, 1, none⟩ = some (.slice A0_1 l0_1.length c0_1) := (blk_cell BK446.out 1).trans rfl
       have hcz23_2 : wr.cell? ⟨gb446, 2, none⟩ = some (.slice A0_2 l0_2.length c0_2) := (blk_cell BK446.out 2).trans rfl
       have hfz23_0 := blk_frozen BK446.out 0
       have hfz23_1 := blk_frozen BK446.out 1
       have hfz23_2 := blk_frozen BK446.out 2
       go_wp2
       repeat (go_quiet (fail); try go_wp2)
       go_meet
       case rel => exact ⟨_, (true), (by first | rfl | (simp; done) | (simp [*]; done)), H', ⟨by have := HK1.out; first | omega | exact Nat.le_refl _⟩, ⟨by (with_reducible repeat (first | refine blk_drewN ?_ _ | refine blk_drew ?_ | refine blk_alloc ?_ _)); exact BK446.out⟩, ⟨by (with_reducible repeat (first | refine blk_drewN ?_ _ | refine blk_drew ?_ | refine blk_alloc ?_ _)); exact BK447.out⟩, ⟨by repeat (first | (with_reducible first | exact HB.out | apply below_alloc | apply pw_below_drewN | apply below_drew1 | refine below_set ?_ GE446.out | refine below_set ?_ GE447.out) | exact HB.out)⟩⟩
      ·rw [if_neg c21] at H
       have c21b0 : decide (x5_1 < (l0_1.length : Int)) = false := decide_eq_false c21
       clear c21
       (first | rw [c21b0] | (simp only [i64_w, i32_w]; rw [c21b0]) | skip)
       have H' := Aside0.mk H
       clear H
       have hnb24 := NB446_447.out
       have hnc24 := NB447_446.out
       have hcz25_0 : wr.cell? ⟨gb446, 0, none⟩ = some (.int .i64 a0_0) := (blk_cell BK446.out 0).trans rfl
       have hcz25_1 : wr.cell? ⟨gb446, 1, none⟩ = some (.slice A0_1 l0_1.length c0_1) := (blk_cell BK446.out 1).trans rfl
       have hcz25_2 : wr.cell? ⟨gb446, 2, none⟩ = some (.slice A0_2 l0_2.length c0_2) := (blk_cell BK446.out 2).trans rfl
       have hfz25_0 := blk_frozen BK446.out 0
       have hfz25_1 := blk_frozen BK446.out 1
       have hfz25_2 := blk_frozen BK446.out 2
       have hcz26_0 : wr.cell? ⟨gb447, 0, none⟩ = some (.int .i64 a1_0) := (blk_cell BK447.out 0).trans rfl
       have hcz26_1 : wr.cell? ⟨gb447, 1, none⟩ = some (.slice A1_1 l1_1.length c1_1) := (blk_cell BK447.out 1).trans rfl
       have hcz26_2 : wr.cell? ⟨gb447, 2, none⟩ = some (.slice A1_2 l1_2.length c1_2) := (blk_cell BK447.out 2).trans rfl
       have hfz26_0 := blk_frozen BK447.out 0
       have hfz26_1 := blk_frozen BK447.out 1
       have hfz26_2 := blk_frozen BK447.out 2
       go_wp2
       repeat (go_quiet (fail); try go_wp2)
       go_meet
       case rel => exact ⟨_, (decide (x5_1 < (l1_1.length : Int))), (by first | rfl | (simp; done) | (simp [*]; done)), H', ⟨by have := HK1.out; first | omega | exact Nat.le_refl _⟩, ⟨by (with_reducible repeat (first | refine blk_drewN ?_ _ | refine blk_drew ?_ | refine blk_alloc ?_ _)); exact BK446.out⟩, ⟨by (with_reducible repeat (first | refine blk_drewN ?_ _ | refine blk_drew ?_ | refine blk_alloc ?_ _)); exact BK447.out⟩, ⟨by repeat (first | (with_reducible first | exact HB.out | apply below_alloc | apply pw_below_drewN | apply below_drew1 | refine below_set ?_ GE446.out | refine below_set ?_ GE447.out) | exact HB.out)⟩⟩
     case rest =>
      clear HC20
      try clear c1
      try clear c2
      try clear p2
      try clear c3
      try clear c3b0
      try clear c4
      try clear c6
      try clear c9
      try clear c9b0
      try clear c12
      try clear c17
      try clear c21
      try clear c21b0
      try clear c22
      try clear c24
      try clear hcz13_0
      try clear hcz13_1
      try clear hcz13_2
      try clear hcz14_0
      try clear hcz14_1
      try clear hcz14_2
      try clear hcz18_0
      try clear hcz18_1
      try clear hcz18_2
      try clear hcz19_0
      try clear hcz19_1
      try clear hcz19_2
      try clear hcz23_0
      try clear hcz23_1
      try clear hcz23_2
      try clear hcz25_0
      try clear hcz25_1
      try clear hcz25_2
      try clear hcz26_0
      try clear hcz26_1
      try clear hcz26_2
      try clear hcz7_0
      try clear hcz7_1
      try clear hcz7_2
      try clear hcz8_0
      try clear hcz8_1
      try clear hcz8_2
      try clear hfz13_0
      try clear hfz13_1
      try clear hfz13_2
      try clear hfz14_0
      try clear hfz14_1
      try clear hfz14_2
      try clear hfz18_0
      try clear hfz18_1
      try clear hfz18_2
      try clear hfz19_0
      try clear hfz19_1
      try clear hfz19_2
      try clear hfz23_0
      try clear hfz23_1
      try clear hfz23_2
      try clear hfz25_0
      try clear hfz25_1
      try clear hfz25_2
      try clear hfz26_0
      try clear hfz26_1
      try clear hfz26_2
      try clear hfz7_0
      try clear hfz7_1
      try clear hfz7_2
      try clear hfz8_0
      try clear hfz8_1
      try clear hfz8_2
      try clear p2
      obtain ⟨kq, x28_19, rfl, HA, HJ19, BK446, BK447, HB⟩ := hcut
      cases kq with
      | zero => exact absurd HA.out (by simp [gristmillref04_Compare.j1])
      | succ kj19 =>
       have H := HA.out
       clear HA
       simp only [gristmillref04_Compare.j1] at H
       by_cases c27 : x28_19 = true
       ·subst c27
        have H1 : (if x5_1 ≥ (l0_1.length : Int) then (some (-1)) else (if x5_1 ≥ (l1_1.length : Int) then (some 1) else (if 0 ≤ x5_1 then (if x5_1 < (l0_1.length : Int) then (if x5_1 < (l1_1.length : Int) then (if (Op.bytesLess ((rdOf ByteArray.empty l0_1 x5_1).toList) ((rdOf ByteArray.empty l1_1 x5_1).toList)) = true then (some (-1)) else (if (Op.bytesLess ((rdOf ByteArray.empty l1_1 x5_1).toList) ((rdOf ByteArray.empty l0_1 x5_1).toList)) = true then (some 1) else (gristmillref04_Compare.l0 kj19 (wrap64 (x5_1 + 1)) a0_0 l0_1 l0_2 a1_0 l1_1 l1_2))) else (none)) else (none)) else (none)))) = some r := by rw [if_pos rfl] at H; exact H
        clear H
        have H := H1
        clear H1
        by_cases c28 : x5_1 ≥ (l0_1.length : Int)
        ·rw [if_pos c28] at H
         have c28b0 : decide ((l0_1.length : Int) ≤ x5_1) = true := decide_eq_true c28
         clear c28
         obtain rfl := Option.some.inj H
         have hnb29 := NB446_447.out
         have hnc29 := NB447_446.out
         have hcz30_0 : wc.cell? ⟨gb446, 0, none⟩ = some (.int .i64 a0_0) := (blk_cell BK446.out 0).trans rfl
         have hcz30_1 : wc.cell? ⟨gb446, 1, none⟩ = some (.slice A0_1 l0_1.length c0_1) := (blk_cell BK446.out 1).trans rfl
         have hcz30_2 : wc.cell? ⟨gb446, 2, none⟩ = some (.slice A0_2 l0_2.length c0_2) := (blk_cell BK446.out 2).trans rfl
         have hfz30_0 := blk_frozen BK446.out 0
         have hfz30_1 := blk_frozen BK446.out 1
         have hfz30_2 := blk_frozen BK446.out 2
         go_wp2
         repeat (go_quiet (fail); try go_wp2)
         go_ret
         exact ⟨by first | rfl | (simp [errW_none, errW_some] <;> rfl) | (simp [*, errW_none, errW_some] <;> rfl), by repeat (first | (with_reducible first | exact HB.out | apply below_alloc | apply pw_below_drewN | apply below_drew1 | refine below_set ?_ GE446.out | refine below_set ?_ GE447.out) | exact HB.out)⟩
        ·rw [if_neg c28] at H
         have c28b0 : decide ((l0_1.length : Int) ≤ x5_1) = false := decide_eq_false c28
         clear c28
         by_cases c31 : x5_1 ≥ (l1_1.length : Int)
         ·rw [if_pos c31] at H
          have c31b0 : decide ((l1_1.length : Int) ≤ x5_1) = true := decide_eq_true c31
          clear c31
          obtain rfl := Option.some.inj H
          have hnb32 := NB446_447.out
          have hnc32 := NB447_446.out
          have hcz33_0 : wc.cell? ⟨gb446, 0, none⟩ = some (.int .i64 a0_0) := (blk_cell BK446.out 0).trans rfl
          have hcz33_1 : wc.cell? ⟨gb446, 1, none⟩ = some (.slice A0_1 l0_1.length c0_1) := (blk_cell BK446.out 1).trans rfl
          have hcz33_2 : wc.cell? ⟨gb446, 2, none⟩ = some (.slice A0_2 l0_2.length c0_2) := (blk_cell BK446.out 2).trans rfl
          have hfz33_0 := blk_frozen BK446.out 0
          have hfz33_1 := blk_frozen BK446.out 1
          have hfz33_2 := blk_frozen BK446.out 2
          have hcz34_0 : wc.cell? ⟨gb447, 0, none⟩ = some (.int .i64 a1_0) := (blk_cell BK447.out 0).trans rfl
          have hcz34_1 : wc.cell? ⟨gb447, 1, none⟩ = some (.slice A1_1 l1_1.length c1_1) := (blk_cell BK447.out 1).trans rfl
          have hcz34_2 : wc.cell? ⟨gb447, 2, none⟩ = some (.slice A1_2 l1_2.length c1_2) := (blk_cell BK447.out 2).trans rfl
          have hfz34_0 := blk_frozen BK447.out 0
          have hfz34_1 := blk_frozen BK447.out 1
          have hfz34_2 := blk_frozen BK447.out 2
          go_wp2
          repeat (go_quiet (fail); try go_wp2)
          go_ret
          exact ⟨by first | rfl | (simp [errW_none, errW_some] <;> rfl) | (simp [*, errW_none, errW_some] <;> rfl), by repeat (first | (with_reducible first | exact HB.out | apply below_alloc | apply pw_below_drewN | apply below_drew1 | refine below_set ?_ GE446.out | refine below_set ?_ GE447.out) | exact HB.out)⟩
         ·rw [if_neg c31] at H
          have c31b0 : decide ((l1_1.length : Int) ≤ x5_1) = false := decide_eq_false c31
          clear c31
          by_cases c35 : 0 ≤ x5_1
          ·rw [if_pos c35] at H
           have c35b0 : decide (0 ≤ x5_1) = true := decide_eq_true c35
           clear c35
           by_cases c36 : x5_1 < (l0_1.length : Int)
           ·rw [if_pos c36] at H
            have c36b0 : decide (x5_1 < (l0_1.length : Int)) = true := decide_eq_true c36
            clear c36
            by_cases c37 : x5_1 < (l1_1.length : Int)
            ·rw [if_pos c37] at H
             have c37b0 : decide (x5_1 < (l1_1.length : Int)) = true := decide_eq_true c37
             clear c37
             by_cases c38 : (Op.bytesLess ((rdOf ByteArray.empty l0_1 x5_1).toList) ((rdOf ByteArray.empty l1_1 x5_1).toList)) = true
             ·rw [if_pos c38] at H
              have c38b0 : (Op.bytesLess ((rdOf ByteArray.empty l0_1 x5_1).toList) ((rdOf ByteArray.empty l1_1 x5_1).toList)) = true := c38
              clear c38
              obtain rfl := Option.some.inj H
              have hnb39 := NB446_447.out
              have hnc39 := NB447_446.out
              have hcz40_0 : wc.cell? ⟨gb446, 0, none⟩ = some (.int .i64 a0_0) := (blk_cell BK446.out 0).trans rfl
              have hcz40_1 : wc.cell? ⟨gb446, 1, none⟩ = some (.slice A0_1 l0_1.length c0_1) := (blk_cell BK446.out 1).trans rfl
              have hcz40_2 : wc.cell? ⟨gb446, 2, none⟩ = some (.slice A0_2 l0_2.length c0_2) := (blk_cell BK446.out 2).trans rfl
              have hfz40_0 := blk_frozen BK446.out 0
              have hfz40_1 := blk_frozen BK446.out 1
              have hfz40_2 := blk_frozen BK446.out 2
              have hcz41_0 : wc.cell? ⟨gb447, 0, none⟩ = some (.int .i64 a1_0) := (blk_cell BK447.out 0).trans rfl
              have hcz41_1 : wc.cell? ⟨gb447, 1, none⟩ = some (.slice A1_1 l1_1.length c1_1) := (blk_cell BK447.out 1).trans rfl
              have hcz41_2 : wc.cell? ⟨gb447, 2, none⟩ = some (.slice A1_2 l1_2.length c1_2) := (blk_cell BK447.out 2).trans rfl
              have hfz41_0 := blk_frozen BK447.out 0
              have hfz41_1 := blk_frozen BK447.out 1
              have hfz41_2 := blk_frozen BK447.out 2
              have p448 : 0 ≤ (x5_1 : Int) := of_decide_eq_true (by assumption)
              have q448 : x5_1 < (l0_1.length : Int) := of_decide_eq_true (by assumption)
              obtain ⟨ad448, e448, hx448_0⟩ := Kd.at_string HR0_1.out x5_1 p448 q448
              cases e448
              replace hx448_0 := pw_cell_below HB.out hx448_0
              replace p448 := eq_true p448
              replace q448 := eq_true q448
              have p449 : 0 ≤ (x5_1 : Int) := of_decide_eq_true (by assumption)
              have q449 : x5_1 < (l1_1.length : Int) := of_decide_eq_true (by assumption)
              obtain ⟨ad449, e449, hx449_0⟩ := Kd.at_string HR1_1.out x5_1 p449 q449
              cases e449
              replace hx449_0 := pw_cell_below HB.out hx449_0
              replace p449 := eq_true p449
              replace q449 := eq_true q449
              go_wp2
              repeat (go_quiet (fail); try go_wp2)
              go_ret
              exact ⟨by first | rfl | (simp [errW_none, errW_some] <;> rfl) | (simp [*, errW_none, errW_some] <;> rfl), by repeat (first | (with_reducible first | exact HB.out | apply below_alloc | apply pw_below_drewN | apply below_drew1 | refine below_set ?_ GE446.out | refine below_set ?_ GE447.out) | exact HB.out)⟩
             ·rw [if_neg c38] at H
              have c38b0 : (Op.bytesLess ((rdOf ByteArray.empty l0_1 x5_1).toList) ((rdOf ByteArray.empty l1_1 x5_1).toList)) = false := by simpa using c38
              clear c38
              by_cases c42 : (Op.bytesLess ((rdOf ByteArray.empty l1_1 x5_1).toList) ((rdOf ByteArray.empty l0_1 x5_1).toList)) = true
              ·rw [if_pos c42] at H
               have c42b0 : (Op.bytesLess ((rdOf ByteArray.empty l1_1 x5_1).toList) ((rdOf ByteArray.empty l0_1 x5_1).toList)) = true := c42
               clear c42
               obtain rfl := Option.some.inj H
               have hnb43 := NB446_447.out
               have hnc43 := NB447_446.out
               have hcz44_0 : wc.cell? ⟨gb446, 0, none⟩ = some (.int .i64 a0_0) := (blk_cell BK446.out 0).trans rfl
               have hcz44_1 : wc.cell? ⟨gb446, 1, none⟩ = some (.slice A0_1 l0_1.length c0_1) := (blk_cell BK446.out 1).trans rfl
               have hcz44_2 : wc.cell? ⟨gb446, 2, none⟩ = some (.slice A0_2 l0_2.length c0_2) := (blk_cell BK446.out 2).trans rfl
               have hfz44_0 := blk_frozen BK446.out 0
               have hfz44_1 := blk_frozen BK446.out 1
               have hfz44_2 := blk_frozen BK446.out 2
               have hcz45_0 : wc.cell? ⟨gb447, 0, none⟩ = some (.int .i64 a1_0) := (blk_cell BK447.out 0).trans rfl
               have hcz45_1 : wc.cell? ⟨gb447, 1, none⟩ = some (.slice A1_1 l1_1.length c1_1) := (blk_cell BK447.out 1).trans rfl
               have hcz45_2 : wc.cell? ⟨gb447, 2, none⟩ = some (.slice A1_2 l1_2.length c1_2) := (blk_cell BK447.out 2).trans rfl
               have hfz45_0 := blk_frozen BK447.out 0
               have hfz45_1 := blk_frozen BK447.out 1
               have hfz45_2 := blk_frozen BK447.out 2
               have p448 : 0 ≤ (x5_1 : Int) := of_decide_eq_true (by assumption)
               have q448 : x5_1 < (l0_1.length : Int) := of_decide_eq_true (by assumption)
               obtain ⟨ad448, e448, hx448_0⟩ := Kd.at_string HR0_1.out x5_1 p448 q448
               cases e448
               replace hx448_0 := pw_cell_below HB.out hx448_0
               replace p448 := eq_true p448
               replace q448 := eq_true q448
               have p449 : 0 ≤ (x5_1 : Int) := of_decide_eq_true (by assumption)
               have q449 : x5_1 < (l1_1.length : Int) := of_decide_eq_true (by assumption)
               obtain ⟨ad449, e449, hx449_0⟩ := Kd.at_string HR1_1.out x5_1 p449 q449
               cases e449
               replace hx449_0 := pw_cell_below HB.out hx449_0
               replace p449 := eq_true p449
               replace q449 := eq_true q449
               have p450 : 0 ≤ (x5_1 : Int) := of_decide_eq_true (by assumption)
               have q450 : x5_1 < (l0_1.length : Int) := of_decide_eq_true (by assumption)
               obtain ⟨ad450, e450, hx450_0⟩ := Kd.at_string HR0_1.out x5_1 p450 q450
               obtain rfl : ad448 = ad450 := (by injection e450)
               replace hx450_0 := pw_cell_below HB.out hx450_0
               replace p450 := eq_true p450
               replace q450 := eq_true q450
               have p451 : 0 ≤ (x5_1 : Int) := of_decide_eq_true (by assumption)
               have q451 : x5_1 < (l1_1.length : Int) := of_decide_eq_true (by assumption)
               obtain ⟨ad451, e451, hx451_0⟩ := Kd.at_string HR1_1.out x5_1 p451 q451
               obtain rfl : ad449 = ad451 := (by injection e451)
               replace hx451_0 := pw_cell_below HB.out hx451_0
               replace p451 := eq_true p451
               replace q451 := eq_true q451
               go_wp2
               repeat (go_quiet (fail); try go_wp2)
               go_ret
               exact ⟨by first | rfl | (simp [errW_none, errW_some] <;> rfl) | (simp [*, errW_none, errW_some] <;> rfl), by repeat (first | (with_reducible first | exact HB.out | apply below_alloc | apply pw_below_drewN | apply below_drew1 | refine below_set ?_ GE446.out | refine below_set ?_ GE447.out) | exact HB.out)⟩
              ·rw [if_neg c42] at H
               have c42b0 : (Op.bytesLess ((rdOf ByteArray.empty l1_1 x5_1).toList) ((rdOf ByteArray.empty l0_1 x5_1).toList)) = false := by simpa using c42
               clear c42
               have H' := Aside0.mk H
               clear H
               have hnb46 := NB446_447.out
               have hnc46 := NB447_446.out
               have hcz47_0 : wc.cell? ⟨gb446, 0, none⟩ = some (.int .i64 a0_0) := (blk_cell BK446.out 0).trans rfl
               have hcz47_1 : wc.cell? ⟨gb446, 1, none⟩ = some (.slice A0_1 l0_1.length c0_1) := (blk_cell BK446.out 1).trans rfl
               have hcz47_2 : wc.cell? ⟨gb446, 2, none⟩ = some (.slice A0_2 l0_2.length c0_2) := (blk_cell BK446.out 2).trans rfl
               have hfz47_0 := blk_frozen BK446.out 0
               have hfz47_1 := blk_frozen BK446.out 1
               have hfz47_2 := blk_frozen BK446.out 2
               have hcz48_0 : wc.cell? ⟨gb447, 0, none⟩ = some (.int .i64 a1_0) := (blk_cell BK447.out 0).trans rfl
               have hcz48_1 : wc.cell? ⟨gb447, 1, none⟩ = some (.slice A1_1 l1_1.length c1_1) := (blk_cell BK447.out 1).trans rfl
               have hcz48_2 : wc.cell? ⟨gb447, 2, none⟩ = some (.slice A1_2 l1_2.length c1_2) := (blk_cell BK447.out 2).trans rfl
               have hfz48_0 := blk_frozen BK447.out 0
               have hfz48_1 := blk_frozen BK447.out 1
               have hfz48_2 := blk_frozen BK447.out 2
               have p448 : 0 ≤ (x5_1 : Int) := of_decide_eq_true (by assumption)
               have q448 : x5_1 < (l0_1.length : Int) := of_decide_eq_true (by assumption)
               obtain ⟨ad448, e448, hx448_0⟩ := Kd.at_string HR0_1.out x5_1 p448 q448
               cases e448
               replace hx448_0 := pw_cell_below HB.out hx448_0
               replace p448 := eq_true p448
               replace q448 := eq_true q448
               have p449 : 0 ≤ (x5_1 : Int) := of_decide_eq_true (by assumption)
               have q449 : x5_1 < (l1_1.length : Int) := of_decide_eq_true (by assumption)
               obtain ⟨ad449, e449, hx449_0⟩ := Kd.at_string HR1_1.out x5_1 p449 q449
               cases e449
               replace hx449_0 := pw_cell_below HB.out hx449_0
               replace p449 := eq_true p449
               replace q449 := eq_true q449
               have p450 : 0 ≤ (x5_1 : Int) := of_decide_eq_true (by assumption)
               have q450 : x5_1 < (l0_1.length : Int) := of_decide_eq_true (by assumption)
               obtain ⟨ad450, e450, hx450_0⟩ := Kd.at_string HR0_1.out x5_1 p450 q450
               obtain rfl : ad448 = ad450 := (by injection e450)
               replace hx450_0 := pw_cell_below HB.out hx450_0
               replace p450 := eq_true p450
               replace q450 := eq_true q450
               have p451 : 0 ≤ (x5_1 : Int) := of_decide_eq_true (by assumption)
               have q451 : x5_1 < (l1_1.length : Int) := of_decide_eq_true (by assumption)
               obtain ⟨ad451, e451, hx451_0⟩ := Kd.at_string HR1_1.out x5_1 p451 q451
               obtain rfl : ad449 = ad451 := (by injection e451)
               replace hx451_0 := pw_cell_below HB.out hx451_0
               replace p451 := eq_true p451
               replace q451 := eq_true q451
               go_wp2
               repeat (go_quiet (fail); try go_wp2)
               go_roundg kj19
               case measure => have := HK1.out; have := HJ19.out; omega
               case rel => exact ⟨(wrap64 (x5_1 + 1)), (by first | rfl | (simp; done) | (simp [*]; done)), H', ⟨by have := HK1.out; have := HJ19.out; omega⟩, ⟨by (with_reducible repeat (first | refine blk_drewN ?_ _ | refine blk_drew ?_ | refine blk_alloc ?_ _)); exact BK446.out⟩, ⟨by (with_reducible repeat (first | refine blk_drewN ?_ _ | refine blk_drew ?_ | refine blk_alloc ?_ _)); exact BK447.out⟩, ⟨by repeat (first | (with_reducible first | exact HB.out | apply below_alloc | apply pw_below_drewN | apply below_drew1 | refine below_set ?_ GE446.out | refine below_set ?_ GE447.out) | exact HB.out)⟩⟩
            ·rw [if_neg c37] at H
             exact absurd H (by simp)
           ·rw [if_neg c36] at H
            exact absurd H (by simp)
          ·rw [if_neg c35] at H
           exact absurd H (by simp)
       ·replace c27 := Bool.eq_false_iff.mpr c27
        subst c27
        have H1 : (gristmillref04_Compare.l1 kj19 0 a0_0 l0_1 l0_2 a1_0 l1_1 l1_2) = some r := by rw [if_neg (show ¬ (false = true) by decide)] at H; exact H
        clear H
        have H := H1
        clear H1
        have H' := Aside0.mk H
        clear H
        go_wp2
        repeat (go_quiet (fail); try go_wp2)
        go_loopg [6] kj19 (fun kq v6 w' => ∃ (x6_3 : Int), v6 = .int .i64 x6_3 ∧ Aside0 (gristmillref04_Compare.l1 kq x6_3 a0_0 l0_1 l0_2 a1_0 l1_1 l1_2 = some r) ∧ Aside0 (kq ≤ kj19) ∧ Aside0 (w'.heap[gb446]? = some (.cells #[.int .i64 a0_0, (.slice A0_1 l0_1.length c0_1), (.slice A0_2 l0_2.length c0_2)] 42 (0, 0))) ∧ Aside0 (w'.heap[gb447]? = some (.cells #[.int .i64 a1_0, (.slice A1_1 l1_1.length c1_1), (.slice A1_2 l1_2.length c1_2)] 42 (0, 0))) ∧ Aside0 (Below w.heap.size w w'))
        case atStart => exact ⟨(0), (by first | rfl | (simp; done) | (simp [*]; done)), H', ⟨Nat.le_refl _⟩, ⟨by (with_reducible repeat (first | refine blk_drewN ?_ _ | refine blk_drew ?_ | refine blk_alloc ?_ _)); exact BK446.out⟩, ⟨by (with_reducible repeat (first | refine blk_drewN ?_ _ | refine blk_drew ?_ | refine blk_alloc ?_ _)); exact BK447.out⟩, ⟨by repeat (first | (with_reducible first | exact HB.out | apply below_alloc | apply pw_below_drewN | apply below_drew1 | refine below_set ?_ GE446.out | refine below_set ?_ GE447.out) | exact HB.out)⟩⟩
        case round =>
         clear H'
         try clear c1
         try clear c2
         try clear p2
         try clear c3
         try clear c3b0
         try clear c4
         try clear p4
         try clear q4
         try clear hx4
         try clear c6
         try clear p6
         try clear c9
         try clear c9b0
         try clear c12
         try clear c17
         try clear c21
         try clear c21b0
         try clear c22
         try clear c24
         try clear c27
         try clear c28
         try clear c28b0
         try clear c29
         try clear c31
         try clear c31b0
         try clear c32
         try clear c35
         try clear c35b0
         try clear c36
         try clear c36b0
         try clear c37
         try clear c37b0
         try clear c38
         try clear c38b0
         try clear c39
         try clear c42
         try clear c42b0
         try clear c43
         try clear p44
         try clear q44
         try clear hx44
         try clear p45
         try clear q45
         try clear hx45
         try clear c46
         try clear hcz13_0
         try clear hcz13_1
         try clear hcz13_2
         try clear hcz14_0
         try clear hcz14_1
         try clear hcz14_2
         try clear hcz18_0
         try clear hcz18_1
         try clear hcz18_2
         try clear hcz19_0
         try clear hcz19_1
         try clear hcz19_2
         try clear hcz23_0
         try clear hcz23_1
         try clear hcz23_2
         try clear hcz25_0
         try clear hcz25_1
         try clear hcz25_2
         try clear hcz26_0
         try clear hcz26_1
         try clear hcz26_2
         try clear hcz30_0
         try clear hcz30_1
         try clear hcz30_2
         try clear hcz33_0
         try clear hcz33_1
         try clear hcz33_2
         try clear hcz34_0
         try clear hcz34_1
         try clear hcz34_2
         try clear hcz40_0
         try clear hcz40_1
         try clear hcz40_2
         try clear hcz41_0
         try clear hcz41_1
         try clear hcz41_2
         try clear hcz44_0
         try clear hcz44_1
         try clear hcz44_2
         try clear hcz45_0
         try clear hcz45_1
         try clear hcz45_2
         try clear hcz47_0
         try clear hcz47_1
         try clear hcz47_2
         try clear hcz48_0
         try clear hcz48_1
         try clear hcz48_2
         try clear hcz7_0
         try clear hcz7_1
         try clear hcz7_2
         try clear hcz8_0
         try clear hcz8_1
         try clear hcz8_2
         try clear hfz13_0
         try clear hfz13_1
         try clear hfz13_2
         try clear hfz14_0
         try clear hfz14_1
         try clear hfz14_2
         try clear hfz18_0
         try clear hfz18_1
         try clear hfz18_2
         try clear hfz19_0
         try clear hfz19_1
         try clear hfz19_2
         try clear hfz23_0
         try clear hfz23_1
         try clear hfz23_2
         try clear hfz25_0
         try clear hfz25_1
         try clear hfz25_2
         try clear hfz26_0
         try clear hfz26_1
         try clear hfz26_2
         try clear hfz30_0
         try clear hfz30_1
         try clear hfz30_2
         try clear hfz33_0
         try clear hfz33_1
         try clear hfz33_2
         try clear hfz34_0
         try clear hfz34_1
         try clear hfz34_2
         try clear hfz40_0
         try clear hfz40_1
         try clear hfz40_2
         try clear hfz41_0
         try clear hfz41_1
         try clear hfz41_2
         try clear hfz44_0
         try clear hfz44_1
         try clear hfz44_2
         try clear hfz45_0
         try clear hfz45_1
         try clear hfz45_2
         try clear hfz47_0
         try clear hfz47_1
         try clear hfz47_2
         try clear hfz48_0
         try clear hfz48_1
         try clear hfz48_2
         try clear hfz7_0
         try clear hfz7_1
         try clear hfz7_2
         try clear hfz8_0
         try clear hfz8_1
         try clear hfz8_2
         try clear hx448_0
         try clear hx449_0
         try clear hx450_0
         try clear hx451_0
         try clear p2
         try clear p448
         try clear p449
         try clear p450
         try clear p451
         try clear q448
         try clear q449
         try clear q450
         try clear q451
         obtain ⟨x6_3, rfl, HA, HK3, BK446, BK447, HB⟩ := hrel
         cases gk with
         | zero => exact absurd HA.out (by simp [gristmillref04_Compare.l1])
         | succ k3 =>
          have H := HA.out
          clear HA
          simp only [gristmillref04_Compare.l1] at H
          have HC49 := Aside0.mk H
          clear H
          go_upto_region 17 with (fail)
          repeat (go_quiet (fail); go_upto_region 17 with (fail))
          go_cut [74] (fun v74 wc => ∃ (kq : Nat) (x74_48 : Bool), v74 = .bool x74_48 ∧ Aside0 (gristmillref04_Compare.j3 kq x6_3 x74_48 a0_0 l0_1 l0_2 a1_0 l1_1 l1_2 = some r) ∧ Aside0 (kq ≤ k3) ∧ Aside0 (wc.heap[gb446]? = some (.cells #[.int .i64 a0_0, (.slice A0_1 l0_1.length c0_1), (.slice A0_2 l0_2.length c0_2)] 42 (0, 0))) ∧ Aside0 (wc.heap[gb447]? = some (.cells #[.int .i64 a1_0, (.slice A1_1 l1_1.length c1_1), (.slice A1_2 l1_2.length c1_2)] 42 (0, 0))) ∧ Aside0 (Below w.heap.size w wc))
          case first =>
           have H := HC49.out
           clear HC49
           by_cases c50 : x6_3 < (l0_2.length : Int)
           ·rw [if_pos c50] at H
            have c50b0 : decide (x6_3 < (l0_2.length : Int)) = true := decide_eq_true c50
            clear c50
            (first | rw [c50b0] | (simp only [i64_w, i32_w]; rw [c50b0]) | skip)
            have H' := Aside0.mk H
            clear H
            have hnb51 := NB446_447.out
            have hnc51 := NB447_446.out
            have hcz52_0 : wr.cell? ⟨gb446, 0, none⟩ = some (.int .i64 a0_0) := (blk_cell BK446.out 0).trans rfl
            have hcz52_1 : wr.cell? ⟨gb446, 1, none⟩ = some (.slice A0_1 l0_1.length c0_1) := (blk_cell BK446.out 1).trans rfl
            have hcz52_2 : wr.cell? ⟨gb446, 2, none⟩ = some (.slice A0_2 l0_2.length c0_2) := (blk_cell BK446.out 2).trans rfl
            have hfz52_0 := blk_frozen BK446.out 0
            have hfz52_1 := blk_frozen BK446.out 1
            have hfz52_2 := blk_frozen BK446.out 2
            go_wp2
            repeat (go_quiet (fail); try go_wp2)
            go_meet
            case rel => exact ⟨_, (true), (by first | rfl | (simp; done) | (simp [*]; done)), H', ⟨by have := HK1.out; have := HJ19.out; have := HK3.out; first | omega | exact Nat.le_refl _⟩, ⟨by (with_reducible repeat (first | refine blk_drewN ?_ _ | refine blk_drew ?_ | refine blk_alloc ?_ _)); exact BK446.out⟩, ⟨by (with_reducible repeat (first | refine blk_drewN ?_ _ | refine blk_drew ?_ | refine blk_alloc ?_ _)); exact BK447.out⟩, ⟨by repeat (first | (with_reducible first | exact HB.out | apply below_alloc | apply pw_below_drewN | apply below_drew1 | refine below_set ?_ GE446.out | refine below_set ?_ GE447.out) | exact HB.out)⟩⟩
           ·rw [if_neg c50] at H
            have c50b0 : decide (x6_3 < (l0_2.length : Int)) = false := decide_eq_false c50
            clear c50
            (first | rw [c50b0] | (simp only [i64_w, i32_w]; rw [c50b0]) | skip)
            have H' := Aside0.mk H
            clear H
            have hnb53 := NB446_447.out
            have hnc53 := NB447_446.out
            have hcz54_0 : wr.cell? ⟨gb446, 0, none⟩ = some (.int .i64 a0_0) := (blk_cell BK446.out 0).trans rfl
            have hcz54_1 : wr.cell? ⟨gb446, 1, none⟩ = some (.slice A0_1 l0_1.length c0_1) := (blk_cell BK446.out 1).trans rfl
            have hcz54_2 : wr.cell? ⟨gb446, 2, none⟩ = some (.slice A0_2 l0_2.length c0_2) := (blk_cell BK446.out 2).trans rfl
            have hfz54_0 := blk_frozen BK446.out 0
            have hfz54_1 := blk_frozen BK446.out 1
            have hfz54_2 := blk_frozen BK446.out 2
            have hcz55_0 : wr.cell? ⟨gb447, 0, none⟩ = some (.int .i64 a1_0) := (blk_cell BK447.out 0).trans rfl
            have hcz55_1 : wr.cell? ⟨gb447, 1, none⟩ = some (.slice A1_1 l1_1.length c1_1) := (blk_cell BK447.out 1).trans rfl
            have hcz55_2 : wr.cell? ⟨gb447, 2, none⟩ = some (.slice A1_2 l1_2.length c1_2) := (blk_cell BK447.out 2).trans rfl
            have hfz55_0 := blk_frozen BK447.out 0
            have hfz55_1 := blk_frozen BK447.out 1
            have hfz55_2 := blk_frozen BK447.out 2
            go_wp2
            repeat (go_quiet (fail); try go_wp2)
            go_meet
            case rel => exact ⟨_, (decide (x6_3 < (l1_2.length : Int))), (by first | rfl | (simp; done) | (simp [*]; done)), H', ⟨by have := HK1.out; have := HJ19.out; have := HK3.out; first | omega | exact Nat.le_refl _⟩, ⟨by (with_reducible repeat (first | refine blk_drewN ?_ _ | refine blk_drew ?_ | refine blk_alloc ?_ _)); exact BK446.out⟩, ⟨by (with_reducible repeat (first | refine blk_drewN ?_ _ | refine blk_drew ?_ | refine blk_alloc ?_ _)); exact BK447.out⟩, ⟨by repeat (first | (with_reducible first | exact HB.out | apply below_alloc | apply pw_below_drewN | apply below_drew1 | refine below_set ?_ GE446.out | refine below_set ?_ GE447.out) | exact HB.out)⟩⟩
          case rest =>
           clear HC49
           try clear c1
           try clear c2
           try clear p2
           try clear c3
           try clear c3b0
           try clear c4
           try clear p4
           try clear q4
           try clear hx4
           try clear c5
           try clear c6
           try clear p6
           try clear c9
           try clear c9b0
           try clear c12
           try clear c17
           try clear c21
           try clear c21b0
           try clear c22
           try clear c24
           try clear c27
           try clear c28
           try clear c28b0
           try clear c29
           try clear c31
           try clear c31b0
           try clear c32
           try clear c35
           try clear c35b0
           try clear c36
           try clear c36b0
           try clear c37
           try clear c37b0
           try clear c38
           try clear c38b0
           try clear c39
           try clear c42
           try clear c42b0
           try clear c43
           try clear p44
           try clear q44
           try clear hx44
           try clear p45
           try clear q45
           try clear hx45
           try clear c46
           try clear c50
           try clear c50b0
           try clear c51
           try clear c53
           try clear hcz13_0
           try clear hcz13_1
           try clear hcz13_2
           try clear hcz14_0
           try clear hcz14_1
           try clear hcz14_2
           try clear hcz18_0
           try clear hcz18_1
           try clear hcz18_2
           try clear hcz19_0
           try clear hcz19_1
           try clear hcz19_2
           try clear hcz23_0
           try clear hcz23_1
           try clear hcz23_2
           try clear hcz25_0
           try clear hcz25_1
           try clear hcz25_2
           try clear hcz26_0
           try clear hcz26_1
           try clear hcz26_2
           try clear hcz30_0
           try clear hcz30_1
           try clear hcz30_2
           try clear hcz33_0
           try clear hcz33_1
           try clear hcz33_2
           try clear hcz34_0
           try clear hcz34_1
           try clear hcz34_2
           try clear hcz40_0
           try clear hcz40_1
           try clear hcz40_2
           try clear hcz41_0
           try clear hcz41_1
           try clear hcz41_2
           try clear hcz44_0
           try clear hcz44_1
           try clear hcz44_2
           try clear hcz45_0
           try clear hcz45_1
           try clear hcz45_2
           try clear hcz47_0
           try clear hcz47_1
           try clear hcz47_2
           try clear hcz48_0
           try clear hcz48_1
           try clear hcz48_2
           try clear hcz52_0
           try clear hcz52_1
           try clear hcz52_2
           try clear hcz54_0
           try clear hcz54_1
           try clear hcz54_2
           try clear hcz55_0
           try clear hcz55_1
           try clear hcz55_2
           try clear hcz7_0
           try clear hcz7_1
           try clear hcz7_2
           try clear hcz8_0
           try clear hcz8_1
           try clear hcz8_2
           try clear hfz13_0
           try clear hfz13_1
           try clear hfz13_2
           try clear hfz14_0
           try clear hfz14_1
           try clear hfz14_2
           try clear hfz18_0
           try clear hfz18_1
           try clear hfz18_2
           try clear hfz19_0
           try clear hfz19_1
           try clear hfz19_2
           try clear hfz23_0
           try clear hfz23_1
           try clear hfz23_2
           try clear hfz25_0
           try clear hfz25_1
           try clear hfz25_2
           try clear hfz26_0
           try clear hfz26_1
           try clear hfz26_2
           try clear hfz30_0
           try clear hfz30_1
           try clear hfz30_2
           try clear hfz33_0
           try clear hfz33_1
           try clear hfz33_2
           try clear hfz34_0
           try clear hfz34_1
           try clear hfz34_2
           try clear hfz40_0
           try clear hfz40_1
           try clear hfz40_2
           try clear hfz41_0
           try clear hfz41_1
           try clear hfz41_2
           try clear hfz44_0
           try clear hfz44_1
           try clear hfz44_2
           try clear hfz45_0
           try clear hfz45_1
           try clear hfz45_2
           try clear hfz47_0
           try clear hfz47_1
           try clear hfz47_2
           try clear hfz48_0
           try clear hfz48_1
           try clear hfz48_2
           try clear hfz52_0
           try clear hfz52_1
           try clear hfz52_2
           try clear hfz54_0
           try clear hfz54_1
           try clear hfz54_2
           try clear hfz55_0
           try clear hfz55_1
           try clear hfz55_2
           try clear hfz7_0
           try clear hfz7_1
           try clear hfz7_2
           try clear hfz8_0
           try clear hfz8_1
           try clear hfz8_2
           try clear hx448_0
           try clear hx449_0
           try clear hx450_0
           try clear hx451_0
           try clear p2
           try clear p4
           try clear p44
           try clear p448
           try clear p449
           try clear p45
           try clear p450
           try clear p451
           try clear p6
           try clear q4
           try clear q44
           try clear q448
           try clear q449
           try clear q45
           try clear q450
           try clear q451
           obtain ⟨kq, x74_48, rfl, HA, HJ48, BK446, BK447, HB⟩ := hcut
           cases kq with
           | zero => exact absurd HA.out (by simp [gristmillref04_Compare.j3])
           | succ kj48 =>
            have H := HA.out
            clear HA
            simp only [gristmillref04_Compare.j3] at H
            by_cases c56 : x74_48 = true
            ·subst c56
             have H1 : (if x6_3 ≥ (l0_2.length : Int) then (some (-1)) else (if x6_3 ≥ (l1_2.length : Int) then (some 1) else (if 0 ≤ x6_3 then (if x6_3 < (l0_2.length : Int) then (if x6_3 < (l1_2.length : Int) then (if (rd l0_2 x6_3) < (rd l1_2 x6_3) then (some (-1)) else (if (rd l0_2 x6_3) > (rd l1_2 x6_3) then (some 1) else (gristmillref04_Compare.l1 kj48 (wrap64 (x6_3 + 1)) a0_0 l0_1 l0_2 a1_0 l1_1 l1_2))) else (none)) else (none)) else (none)))) = some r := by rw [if_pos rfl] at H; exact H
             clear H
             have H := H1
             clear H1
             by_cases c57 : x6_3 ≥ (l0_2.length : Int)
             ·rw [if_pos c57] at H
              have c57b0 : decide ((l0_2.length : Int) ≤ x6_3) = true := decide_eq_true c57
              clear c57
              obtain rfl := Option.some.inj H
              have hnb58 := NB446_447.out
              have hnc58 := NB447_446.out
              have hcz59_0 : wc.cell? ⟨gb446, 0, none⟩ = some (.int .i64 a0_0) := (blk_cell BK446.out 0).trans rfl
              have hcz59_1 : wc.cell? ⟨gb446, 1, none⟩ = some (.slice A0_1 l0_1.length c0_1) := (blk_cell BK446.out 1).trans rfl
              have hcz59_2 : wc.cell? ⟨gb446, 2, none⟩ = some (.slice A0_2 l0_2.length c0_2) := (blk_cell BK446.out 2).trans rfl
              have hfz59_0 := blk_frozen BK446.out 0
              have hfz59_1 := blk_frozen BK446.out 1
              have hfz59_2 := blk_frozen BK446.out 2
              go_wp2
              repeat (go_quiet (fail); try go_wp2)
              go_ret
              exact ⟨by first | rfl | (simp [errW_none, errW_some] <;> rfl) | (simp [*, errW_none, errW_some] <;> rfl), by repeat (first | (with_reducible first | exact HB.out | apply below_alloc | apply pw_below_drewN | apply below_drew1 | refine below_set ?_ GE446.out | refine below_set ?_ GE447.out) | exact HB.out)⟩
             ·rw [if_neg c57] at H
              have c57b0 : decide ((l0_2.length : Int) ≤ x6_3) = false := decide_eq_false c57
              clear c57
              by_cases c60 : x6_3 ≥ (l1_2.length : Int)
              ·rw [if_pos c60] at H
               have c60b0 : decide ((l1_2.length : Int) ≤ x6_3) = true := decide_eq_true c60
               clear c60
               obtain rfl := Option.some.inj H
               have hnb61 := NB446_447.out
               have hnc61 := NB447_446.out
               have hcz62_0 : wc.cell? ⟨gb446, 0, none⟩ = some (.int .i64 a0_0) := (blk_cell BK446.out 0).trans rfl
               have hcz62_1 : wc.cell? ⟨gb446, 1, none⟩ = some (.slice A0_1 l0_1.length c0_1) := (blk_cell BK446.out 1).trans rfl
               have hcz62_2 : wc.cell? ⟨gb446, 2, none⟩ = some (.slice A0_2 l0_2.length c0_2) := (blk_cell BK446.out 2).trans rfl
               have hfz62_0 := blk_frozen BK446.out 0
               have hfz62_1 := blk_frozen BK446.out 1
               have hfz62_2 := blk_frozen BK446.out 2
               have hcz63_0 : wc.cell? ⟨gb447, 0, none⟩ = some (.int .i64 a1_0) := (blk_cell BK447.out 0).trans rfl
               have hcz63_1 : wc.cell? ⟨gb447, 1, none⟩ = some (.slice A1_1 l1_1.length c1_1) := (blk_cell BK447.out 1).trans rfl
               have hcz63_2 : wc.cell? ⟨gb447, 2, none⟩ = some (.slice A1_2 l1_2.length c1_2) := (blk_cell BK447.out 2).trans rfl
               have hfz63_0 := blk_frozen BK447.out 0
               have hfz63_1 := blk_frozen BK447.out 1
               have hfz63_2 := blk_frozen BK447.out 2
               go_wp2
               repeat (go_quiet (fail); try go_wp2)
               go_ret
               exact ⟨by first | rfl | (simp [errW_none, errW_some] <;> rfl) | (simp [*, errW_none, errW_some] <;> rfl), by repeat (first | (with_reducible first | exact HB.out | apply below_alloc | apply pw_below_drewN | apply below_drew1 | refine below_set ?_ GE446.out | refine below_set ?_ GE447.out) | exact HB.out)⟩
              ·rw [if_neg c60] at H
               have c60b0 : decide ((l1_2.length : Int) ≤ x6_3) = false := decide_eq_false c60
               clear c60
               by_cases c64 : 0 ≤ x6_3
               ·rw [if_pos c64] at H
                have c64b0 : decide (0 ≤ x6_3) = true := decide_eq_true c64
                clear c64
                by_cases c65 : x6_3 < (l0_2.length : Int)
                ·rw [if_pos c65] at H
                 have c65b0 : decide (x6_3 < (l0_2.length : Int)) = true := decide_eq_true c65
                 clear c65
                 by_cases c66 : x6_3 < (l1_2.length : Int)
                 ·rw [if_pos c66] at H
                  have c66b0 : decide (x6_3 < (l1_2.length : Int)) = true := decide_eq_true c66
                  clear c66
                  by_cases c67 : (rd l0_2 x6_3) < (rd l1_2 x6_3)
                  ·rw [if_pos c67] at H
                   have c67b0 : decide ((rd l0_2 x6_3) < (rd l1_2 x6_3)) = true := decide_eq_true c67
                   clear c67
                   obtain rfl := Option.some.inj H
                   have hnb68 := NB446_447.out
                   have hnc68 := NB447_446.out
                   have hcz69_0 : wc.cell? ⟨gb446, 0, none⟩ = some (.int .i64 a0_0) := (blk_cell BK446.out 0).trans rfl
                   have hcz69_1 : wc.cell? ⟨gb446, 1, none⟩ = some (.slice A0_1 l0_1.length c0_1) := (blk_cell BK446.out 1).trans rfl
                   have hcz69_2 : wc.cell? ⟨gb446, 2, none⟩ = some (.slice A0_2 l0_2.length c0_2) := (blk_cell BK446.out 2).trans rfl
                   have hfz69_0 := blk_frozen BK446.out 0
                   have hfz69_1 := blk_frozen BK446.out 1
                   have hfz69_2 := blk_frozen BK446.out 2
                   have hcz70_0 : wc.cell? ⟨gb447, 0, none⟩ = some (.int .i64 a1_0) := (blk_cell BK447.out 0).trans rfl
                   have hcz70_1 : wc.cell? ⟨gb447, 1, none⟩ = some (.slice A1_1 l1_1.length c1_1) := (blk_cell BK447.out 1).trans rfl
                   have hcz70_2 : wc.cell? ⟨gb447, 2, none⟩ = some (.slice A1_2 l1_2.length c1_2) := (blk_cell BK447.out 2).trans rfl
                   have hfz70_0 := blk_frozen BK447.out 0
                   have hfz70_1 := blk_frozen BK447.out 1
                   have hfz70_2 := blk_frozen BK447.out 2
                   have p452 : 0 ≤ (x6_3 : Int) := of_decide_eq_true (by assumption)
                   have q452 : x6_3 < (l0_2.length : Int) := of_decide_eq_true (by assumption)
                   obtain ⟨ad452, e452, hx452_0⟩ := Kd.at_int HR0_2.out x6_3 p452 q452
                   cases e452
                   replace hx452_0 := pw_cell_below HB.out hx452_0
                   replace p452 := eq_true p452
                   replace q452 := eq_true q452
                   have p453 : 0 ≤ (x6_3 : Int) := of_decide_eq_true (by assumption)
                   have q453 : x6_3 < (l1_2.length : Int) := of_decide_eq_true (by assumption)
                   obtain ⟨ad453, e453, hx453_0⟩ := Kd.at_int HR1_2.out x6_3 p453 q453
                   cases e453
                   replace hx453_0 := pw_cell_below HB.out hx453_0
                   replace p453 := eq_true p453
                   replace q453 := eq_true q453
                   go_wp2
                   repeat (go_quiet (fail); try go_wp2)
                   go_ret
                   exact ⟨by first | rfl | (simp [errW_none, errW_some] <;> rfl) | (simp [*, errW_none, errW_some] <;> rfl), by repeat (first | (with_reducible first | exact HB.out | apply below_alloc | apply pw_below_drewN | apply below_drew1 | refine below_set ?_ GE446.out | refine below_set ?_ GE447.out) | exact HB.out)⟩
                  ·rw [if_neg c67] at H
                   have c67b0 : decide ((rd l0_2 x6_3) < (rd l1_2 x6_3)) = false := decide_eq_false c67
                   clear c67
                   by_cases c71 : (rd l0_2 x6_3) > (rd l1_2 x6_3)
                   ·rw [if_pos c71] at H
                    have c71b0 : decide ((rd l1_2 x6_3) < (rd l0_2 x6_3)) = true := decide_eq_true c71
                    clear c71
                    obtain rfl := Option.some.inj H
                    have hnb72 := NB446_447.out
                    have hnc72 := NB447_446.out
                    have hcz73_0 : wc.cell? ⟨gb446, 0, none⟩ = some (.int .i64 a0_0) := (blk_cell BK446.out 0).trans rfl
                    have hcz73_1 : wc.cell? ⟨gb446, 1, none⟩ = some (.slice A0_1 l0_1.length c0_1) := (blk_cell BK446.out 1).trans rfl
                    have hcz73_2 : wc.cell? ⟨gb446, 2, none⟩ = some (.slice A0_2 l0_2.length c0_2) := (blk_cell BK446.out 2).trans rfl
                    have hfz73_0 := blk_frozen BK446.out 0
                    have hfz73_1 := blk_frozen BK446.out 1
                    have hfz73_2 := blk_frozen BK446.out 2
                    have hcz74_0 : wc.cell? ⟨gb447, 0, none⟩ = some (.int .i64 a1_0) := (blk_cell BK447.out 0).trans rfl
                    have hcz74_1 : wc.cell? ⟨gb447, 1, none⟩ = some (.slice A1_1 l1_1.length c1_1) := (blk_cell BK447.out 1).trans rfl
                    have hcz74_2 : wc.cell? ⟨gb447, 2, none⟩ = some (.slice A1_2 l1_2.length c1_2) := (blk_cell BK447.out 2).trans rfl
                    have hfz74_0 := blk_frozen BK447.out 0
                    have hfz74_1 := blk_frozen BK447.out 1
                    have hfz74_2 := blk_frozen BK447.out 2
                    have p452 : 0 ≤ (x6_3 : Int) := of_decide_eq_true (by assumption)
                    have q452 : x6_3 < (l0_2.length : Int) := of_decide_eq_true (by assumption)
                    obtain ⟨ad452, e452, hx452_0⟩ := Kd.at_int HR0_2.out x6_3 p452 q452
                    cases e452
                    replace hx452_0 := pw_cell_below HB.out hx452_0
                    replace p452 := eq_true p452
                    replace q452 := eq_true q452
                    have p453 : 0 ≤ (x6_3 : Int) := of_decide_eq_true (by assumption)
                    have q453 : x6_3 < (l1_2.length : Int) := of_decide_eq_true (by assumption)
                    obtain ⟨ad453, e453, hx453_0⟩ := Kd.at_int HR1_2.out x6_3 p453 q453
                    cases e453
                    replace hx453_0 := pw_cell_below HB.out hx453_0
                    replace p453 := eq_true p453
                    replace q453 := eq_true q453
                    have p454 : 0 ≤ (x6_3 : Int) := of_decide_eq_true (by assumption)
                    have q454 : x6_3 < (l0_2.length : Int) := of_decide_eq_true (by assumption)
                    obtain ⟨ad454, e454, hx454_0⟩ := Kd.at_int HR0_2.out x6_3 p454 q454
                    obtain rfl : ad452 = ad454 := (by injection e454)
                    replace hx454_0 := pw_cell_below HB.out hx454_0
                    replace p454 := eq_true p454
                    replace q454 := eq_true q454
                    have p455 : 0 ≤ (x6_3 : Int) := of_decide_eq_true (by assumption)
                    have q455 : x6_3 < (l1_2.length : Int) := of_decide_eq_true (by assumption)
                    obtain ⟨ad455, e455, hx455_0⟩ := Kd.at_int HR1_2.out x6_3 p455 q455
                    obtain rfl : ad453 = ad455 := (by injection e455)
                    replace hx455_0 := pw_cell_below HB.out hx455_0
                    replace p455 := eq_true p455
                    replace q455 := eq_true q455
                    go_wp2
                    repeat (go_quiet (fail); try go_wp2)
                    go_ret
                    exact ⟨by first | rfl | (simp [errW_none, errW_some] <;> rfl) | (simp [*, errW_none, errW_some] <;> rfl), by repeat (first | (with_reducible first | exact HB.out | apply below_alloc | apply pw_below_drewN | apply below_drew1 | refine below_set ?_ GE446.out | refine below_set ?_ GE447.out) | exact HB.out)⟩
                   ·rw [if_neg c71] at H
                    have c71b0 : decide ((rd l1_2 x6_3) < (rd l0_2 x6_3)) = false := decide_eq_false c71
                    clear c71
                    have H' := Aside0.mk H
                    clear H
                    have hnb75 := NB446_447.out
                    have hnc75 := NB447_446.out
                    have hcz76_0 : wc.cell? ⟨gb446, 0, none⟩ = some (.int .i64 a0_0) := (blk_cell BK446.out 0).trans rfl
                    have hcz76_1 : wc.cell? ⟨gb446, 1, none⟩ = some (.slice A0_1 l0_1.length c0_1) := (blk_cell BK446.out 1).trans rfl
                    have hcz76_2 : wc.cell? ⟨gb446, 2, none⟩ = some (.slice A0_2 l0_2.length c0_2) := (blk_cell BK446.out 2).trans rfl
                    have hfz76_0 := blk_frozen BK446.out 0
                    have hfz76_1 := blk_frozen BK446.out 1
                    have hfz76_2 := blk_frozen BK446.out 2
                    have hcz77_0 : wc.cell? ⟨gb447, 0, none⟩ = some (.int .i64 a1_0) := (blk_cell BK447.out 0).trans rfl
                    have hcz77_1 : wc.cell? ⟨gb447, 1, none⟩ = some (.slice A1_1 l1_1.length c1_1) := (blk_cell BK447.out 1).trans rfl
                    have hcz77_2 : wc.cell? ⟨gb447, 2, none⟩ = some (.slice A1_2 l1_2.length c1_2) := (blk_cell BK447.out 2).trans rfl
                    have hfz77_0 := blk_frozen BK447.out 0
                    have hfz77_1 := blk_frozen BK447.out 1
                    have hfz77_2 := blk_frozen BK447.out 2
                    have p452 : 0 ≤ (x6_3 : Int) := of_decide_eq_true (by assumption)
                    have q452 : x6_3 < (l0_2.length : Int) := of_decide_eq_true (by assumption)
                    obtain ⟨ad452, e452, hx452_0⟩ := Kd.at_int HR0_2.out x6_3 p452 q452
                    cases e452
                    replace hx452_0 := pw_cell_below HB.out hx452_0
                    replace p452 := eq_true p452
                    replace q452 := eq_true q452
                    have p453 : 0 ≤ (x6_3 : Int) := of_decide_eq_true (by assumption)
                    have q453 : x6_3 < (l1_2.length : Int) := of_decide_eq_true (by assumption)
                    obtain ⟨ad453, e453, hx453_0⟩ := Kd.at_int HR1_2.out x6_3 p453 q453
                    cases e453
                    replace hx453_0 := pw_cell_below HB.out hx453_0
                    replace p453 := eq_true p453
                    replace q453 := eq_true q453
                    have p454 : 0 ≤ (x6_3 : Int) := of_decide_eq_true (by assumption)
                    have q454 : x6_3 < (l0_2.length : Int) := of_decide_eq_true (by assumption)
                    obtain ⟨ad454, e454, hx454_0⟩ := Kd.at_int HR0_2.out x6_3 p454 q454
                    obtain rfl : ad452 = ad454 := (by injection e454)
                    replace hx454_0 := pw_cell_below HB.out hx454_0
                    replace p454 := eq_true p454
                    replace q454 := eq_true q454
                    have p455 : 0 ≤ (x6_3 : Int) := of_decide_eq_true (by assumption)
                    have q455 : x6_3 < (l1_2.length : Int) := of_decide_eq_true (by assumption)
                    obtain ⟨ad455, e455, hx455_0⟩ := Kd.at_int HR1_2.out x6_3 p455 q455
                    obtain rfl : ad453 = ad455 := (by injection e455)
                    replace hx455_0 := pw_cell_below HB.out hx455_0
                    replace p455 := eq_true p455
                    replace q455 := eq_true q455
                    go_wp2
                    repeat (go_quiet (fail); try go_wp2)
                    go_roundg kj48
                    case measure => have := HK1.out; have := HJ19.out; have := HK3.out; have := HJ48.out; omega
                    case rel => exact ⟨(wrap64 (x6_3 + 1)), (by first | rfl | (simp; done) | (simp [*]; done)), H', ⟨by have := HK1.out; have := HJ19.out; have := HK3.out; have := HJ48.out; omega⟩, ⟨by (with_reducible repeat (first | refine blk_drewN ?_ _ | refine blk_drew ?_ | refine blk_alloc ?_ _)); exact BK446.out⟩, ⟨by (with_reducible repeat (first | refine blk_drewN ?_ _ | refine blk_drew ?_ | refine blk_alloc ?_ _)); exact BK447.out⟩, ⟨by repeat (first | (with_reducible first | exact HB.out | apply below_alloc | apply pw_below_drewN | apply below_drew1 | refine below_set ?_ GE446.out | refine below_set ?_ GE447.out) | exact HB.out)⟩⟩
                 ·rw [if_neg c66] at H
                  exact absurd H (by simp)
                ·rw [if_neg c65] at H
                 exact absurd H (by simp)
               ·rw [if_neg c64] at H
                exact absurd H (by simp)
            ·replace c56 := Bool.eq_false_iff.mpr c56
             subst c56
             have H1 : (some 0) = some r := by rw [if_neg (show ¬ (false = true) by decide)] at H; exact H
             clear H
             have H := H1
             clear H1
             obtain rfl := Option.some.inj H
             go_wp2
             repeat (go_quiet (fail); try go_wp2)
             go_ret
             exact ⟨by first | rfl | (simp [errW_none, errW_some] <;> rfl) | (simp [*, errW_none, errW_some] <;> rfl), by repeat (first | (with_reducible first | exact HB.out | apply below_alloc | apply pw_below_drewN | apply below_drew1 | refine below_set ?_ GE446.out | refine below_set ?_ GE447.out) | exact HB.out)⟩
end Go.Proofs.Ytmjhgeinhhhodaa.P
end

section
namespace Go.Proofs.Ytmjhgeinhhhodaa.P
open Go.RowKit Go.Proofs.YtmjhgeinhhhodaaW.PrintWords Go.Proofs.YtmjhgeinhhhodaaW.PrintLast Go.Proofs.YtmjhgeinhhhodaaW.PrintMore
attribute [local go_sem] max2_int min2_int max_two min_two max_three min_three max_four min_four   -- for this text's walks alone
set_option linter.unusedVariables false
set_option linter.unusedSimpArgs false
open Go.Proofs.Ytmjhgeinhhhodaa.Ext (q1_ q2_ q3_ bk_ bw_ sz_ ne_ bx_)
attribute [local go_sem high] Go.Proofs.Ytmjhgeinhhhodaa.Ext.gtr_str Go.Proofs.Ytmjhgeinhhhodaa.Ext.leq_str Go.Proofs.Ytmjhgeinhhhodaa.Ext.geq_str
def gristmillref04_Put.l0 : Nat → List (S44) → Int → Int → Int → List ByteArray → List Int → Option ((List (S44)))
 | 0, _, _, _, _, _, _ => none
 | k + 1, x0, x2, x7, x457000, x457001, x457002 => if x7 < (x0.length : Int) then (if 0 ≤ x7 then ((gristmillref04_Compare.f k ((rd_T44 x0 x7).f0.f0) ((rd_T44 x0 x7).f0.f1) ((rd_T44 x0 x7).f0.f2) x457000 x457001 x457002).bind fun t458 => (if t458 < 0 then (gristmillref04_Put.l0 k x0 x2 (wrap64 (x7 + 1)) x457000 x457001 x457002) else (if x7 ≤ (x0.length : Int) then ((some (x0.take (x7 : Int).toNat : List (S44))).bind fun y459 => (if ([] : List (S44)).length + y459.length < 2199023255552 then ((some (([] : List (S44)) ++ y459 : List (S44))).bind fun y464 => ((gristmillref04_Compare.f k ((rd_T44 x0 x7).f0.f0) ((rd_T44 x0 x7).f0.f1) ((rd_T44 x0 x7).f0.f2) x457000 x457001 x457002).bind fun t468 => (if t468 = 0 then (if y464.length < 2199023255552 then ((some (y464 ++ [(⟨(⟨x457000, x457001, x457002⟩ : S42), IntKind.u64.wrap (((rd_T44 x0 x7).f1) + x2)⟩ : S44)] : List (S44))).bind fun y470 => (if 0 ≤ (wrap64 (x7 + 1)) then (if (wrap64 (x7 + 1)) ≤ (x0.length : Int) then ((some (x0.drop ((wrap64 (x7 + 1)) : Int).toNat : List (S44))).bind fun y473 => (if y470.length + y473.length < 2199023255552 then (some (y470 ++ y473)) else (none))) else (none)) else (none))) else (none)) else (if y464.length < 2199023255552 then ((some (y464 ++ [(⟨(⟨x457000, x457001, x457002⟩ : S42), x2⟩ : S44)] : List (S44))).bind fun y481 => ((some (x0.drop (x7 : Int).toNat : List (S44))).bind fun y484 => (if y481.length + y484.length < 2199023255552 then (some (y481 ++ y484)) else (none)))) else (none))))) else (none))) else (none)))) else (none)) else (if 0 ≤ x7 then (if x7 ≤ (x0.length : Int) then ((some (x0.take (x7 : Int).toNat : List (S44))).bind fun y492 => (if ([] : List (S44)).length + y492.length < 2199023255552 then ((some (([] : List (S44)) ++ y492 : List (S44))).bind fun y497 => (if y497.length < 2199023255552 then ((some (y497 ++ [(⟨(⟨x457000, x457001, x457002⟩ : S42), x2⟩ : S44)] : List (S44))).bind fun y500 => ((some (x0.drop (x7 : Int).toNat : List (S44))).bind fun y503 => (if y500.length + y503.length < 2199023255552 then (some (y500 ++ y503)) else (none)))) else (none))) else (none))) else (none)) else (none))
def gristmillref04_Put.f (k : Nat) (l0 : List (S44)) (a1_0 : Int) (l1_1 : List ByteArray) (l1_2 : List Int) (a2 : Int) : Option ((List (S44))) := gristmillref04_Put.l0 k l0 a2 0 a1_0 l1_1 l1_2
def gristmillref04_Put.T2 : Bool × List (List Nat × List Nat) := (true, [([], []), ([], []), ([1], [1]), ([0, 2], [0, 2]), ([3], [3]), ([4], [4]), ([4], [4]), ([5, 6, 4], [4, 5, 6]), ([7, 4], [4, 7]), ([8, 4], [4, 8]), ([4], [4]), ([9, 10, 4, 4], [4, 9, 10]), ([11, 4], [4, 11]), ([4, 12], [4, 12])])
def gristmillref04_Put.B2 : List Nat := [0, 0, 2, 7, 15, 31, 31, 127, 255, 511, 31, 2047, 4095, 8191]
theorem gristmillref04_Put.tab2 : rtab .any (opsOf Try.f32 2) = gristmillref04_Put.T2 := by kernel_rfl
theorem gristmillref04_Put.bits2 : waitsOk gristmillref04_Put.T2.2 gristmillref04_Put.B2 = true := by kernel_rfl
def gristmillref04_Put.T6 : Bool × List (List Nat × List Nat) := (true, [([], []), ([], []), ([1], [1]), ([0, 2], [0, 2]), ([3], [3]), ([4], [4]), ([4], [4]), ([5, 6, 4], [4, 5, 6]), ([7, 4], [4, 7]), ([8, 4], [4, 8]), ([4], [4]), ([9, 10, 4, 4], [4, 9, 10]), ([11, 4], [4, 11]), ([4, 12], [4, 12])])
def gristmillref04_Put.B6 : List Nat := [0, 0, 2, 7, 15, 31, 31, 127, 255, 511, 31, 2047, 4095, 8191]
theorem gristmillref04_Put.tab6 : rtab .any (opsOf Try.f32 6) = gristmillref04_Put.T6 := by kernel_rfl
theorem gristmillref04_Put.bits6 : waitsOk gristmillref04_Put.T6.2 gristmillref04_Put.B6 = true := by kernel_rfl
def gristmillref04_Put.T7 : Bool × List (List Nat × List Nat) := (true, [([], []), ([], []), ([], []), ([], []), ([2, 3], [2, 3]), ([4], [4]), ([5], [5]), ([], []), ([6, 7], [6, 7]), ([1, 8], [1, 8]), ([9], [9]), ([0, 10], [0, 10]), ([11, 11, 0, 1, 2, 3, 4, 5, 6, 7, 8, 9, 10, 11], [0, 11])])
def gristmillref04_Put.B7 : List Nat := [0, 0, 0, 0, 12, 28, 60, 0, 252, 510, 1022, 2047, 4095]
theorem gristmillref04_Put.tab7 : rtab .any (opsOf Try.f32 7) = gristmillref04_Put.T7 := by kernel_rfl
theorem gristmillref04_Put.bits7 : waitsOk gristmillref04_Put.T7.2 gristmillref04_Put.B7 = true := by kernel_rfl
set_option maxHeartbeats 8000000 in
set_option maxRecDepth 100000 in
theorem gristmillref04_Put.calls (k : Nat) (P0_ : Nat → Prop) (A0 : Option Addr) (c0 : Nat) (l0 : List (S44)) (a1_0 : Int) (P1_1_ : Nat → Prop) (A1_1 : Option Addr) (c1_1 : Nat) (l1_1 : List ByteArray) (P1_2_ : Nat → Prop) (A1_2 : Option Addr) (c1_2 : Nat) (l1_2 : List Int) (a2 : Int) (r : List (S44)) (w : World) (hs0 : Kd.V k44 44 w w.heap.size (fun k_ => P0_ k_) (.slice A0 l0.length c0) l0) (hs1_1 : Kd.V Kd.string 9 w w.heap.size (fun k_ => P1_1_ k_) (.slice A1_1 l1_1.length c1_1) l1_1) (hs1_2 : Kd.V (Kd.int .i64) 2 w w.heap.size (fun k_ => P1_2_ k_) (.slice A1_2 l1_2.length c1_2) l1_2) (h : gristmillref04_Put.f k l0 a1_0 l1_1 l1_2 a2 = some r) :
  Calls Try.prog 32 #[.slice A0 l0.length c0, .agg #[.int .i64 a1_0, .slice A1_1 l1_1.length c1_1, .slice A1_2 l1_2.length c1_2], .int .u64 a2] w fun e w' => ∃ v0_ : Value, e = .returned (v0_) ∧ Kd.N k44 44 w' w.heap.size (fun k_ => ((P0_ k_ ∨ P1_1_ k_ ∨ P1_2_ k_) ∨ w.heap.size ≤ k_)) v0_ r ∧ Below w.heap.size w w' := by
 have hu42 := Try.underlying42
 have hu44 := Try.underlying44
 have HO0 := Aside0.mk (show Kd.V k44 44 w w.heap.size (fun k_ => ((P0_ k_ ∨ P1_1_ k_ ∨ P1_2_ k_) ∨ w.heap.size ≤ k_)) (.slice A0 l0.length c0) l0 from Kd.V_mono hs0 (fun k_ hk => .inl (.inl hk)))
 have HO1_1 := Aside0.mk (show Kd.V Kd.string 9 w w.heap.size (fun k_ => ((P0_ k_ ∨ P1_1_ k_ ∨ P1_2_ k_) ∨ w.heap.size ≤ k_)) (.slice A1_1 l1_1.length c1_1) l1_1 from Kd.V_mono hs1_1 (fun k_ hk => .inl (.inr (.inl hk))))
 have HO1_2 := Aside0.mk (show Kd.V (Kd.int .i64) 2 w w.heap.size (fun k_ => ((P0_ k_ ∨ P1_1_ k_ ∨ P1_2_ k_) ∨ w.heap.size ≤ k_)) (.slice A1_2 l1_2.length c1_2) l1_2 from Kd.V_mono hs1_2 (fun k_ hk => .inl (.inr (.inr hk))))
 have HB := Aside0.mk (Below.refl w.heap.size w)
 have H : (gristmillref04_Put.l0 k l0 a2 0 a1_0 l1_1 l1_2) = some r := h
 clear h
 have H' := Aside0.mk H
 clear H
 go_enter Try.func32, Try.ntmps32
 go_wp2_with (first | ((with_reducible refine gate_dst (N := 4) rfl ?_); refine bx_ (N := 4) (cs := #[.int .i64 a1_0, .slice A1_1 l1_1.length c1_1, .slice A1_2 l1_2.length c1_2]) (t := 42) ?_; intro gb456 hg w4 hbox hb; have n0_ := Aside0.mk (Kd.V_below (Kd.V_elderB (by (with_reducible repeat (first | apply Kd.V_alloc | apply Kd.V_drewN | apply Kd.V_drew)); exact HO0.out) gb456 (Nat.le_of_eq hg.symm)) hb); have n1_ := Aside0.mk (Kd.V_below (Kd.V_elderB (by (with_reducible repeat (first | apply Kd.V_alloc | apply Kd.V_drewN | apply Kd.V_drew)); exact HO1_1.out) gb456 (Nat.le_of_eq hg.symm)) hb); have n2_ := Aside0.mk (Kd.V_below (Kd.V_elderB (by (with_reducible repeat (first | apply Kd.V_alloc | apply Kd.V_drewN | apply Kd.V_drew)); exact HO1_2.out) gb456 (Nat.le_of_eq hg.symm)) hb); have n3_ := Aside0.mk (below_step (bw_ HB.out) hb); have n4_ := Aside0.mk (hbox); have n5_ := Aside0.mk (sz_ hg (bw_ HB.out)); have n6_ := n5_; clear HO0 HO1_1 HO1_2 HB; have HO0 := n0_; have HO1_1 := n1_; have HO1_2 := n2_; have HB := n3_; have BK456 := n4_; have GW456 := n5_; have GE456 := n6_; clear n0_ n1_ n2_ n3_ n4_ n5_ n6_; clear hb hbox hg))
 go_loopg [7] k (fun kq v7 w' => ∃ (x7_1 : Int), v7 = .int .i64 x7_1 ∧ Aside0 (gristmillref04_Put.l0 kq l0 a2 x7_1 a1_0 l1_1 l1_2 = some r) ∧ Aside0 (kq ≤ k) ∧ Aside0 (Kd.V k44 44 w' w.heap.size (fun k_ => ((P0_ k_ ∨ P1_1_ k_ ∨ P1_2_ k_) ∨ w.heap.size ≤ k_) ∧ k_ ≠ gb456) (.slice A0 l0.length c0) l0) ∧ Aside0 (Kd.V Kd.string 9 w' w.heap.size (fun k_ => ((P0_ k_ ∨ P1_1_ k_ ∨ P1_2_ k_) ∨ w.heap.size ≤ k_) ∧ k_ ≠ gb456) (.slice A1_1 l1_1.length c1_1) l1_1) ∧ Aside0 (Kd.V (Kd.int .i64) 2 w' w.heap.size (fun k_ => ((P0_ k_ ∨ P1_1_ k_ ∨ P1_2_ k_) ∨ w.heap.size ≤ k_) ∧ k_ ≠ gb456) (.slice A1_2 l1_2.length c1_2) l1_2) ∧ Aside0 (w'.heap[gb456]? = some (.cells #[.int .i64 a1_0, (.slice A1_1 l1_1.length c1_1), (.slice A1_2 l1_2.length c1_2)] 42 (0, 0))) ∧ Aside0 (Below w.heap.size w w'))
 case atStart => exact ⟨(0), (by first | rfl | (simp; done) | (simp [*]; done)), H', ⟨Nat.le_refl _⟩, ⟨by (with_reducible repeat (first | apply Kd.V_alloc | apply Kd.V_drewN | apply Kd.V_drew)); exact HO0.out⟩, ⟨by (with_reducible repeat (first | apply Kd.V_alloc | apply Kd.V_drewN | apply Kd.V_drew)); exact HO1_1.out⟩, ⟨by (with_reducible repeat (first | apply Kd.V_alloc | apply Kd.V_drewN | apply Kd.V_drew)); exact HO1_2.out⟩, ⟨by (with_reducible repeat (first | refine blk_drewN ?_ _ | refine blk_drew ?_ | refine blk_alloc ?_ _)); exact BK456.out⟩, ⟨by repeat (first | (with_reducible first | exact HB.out | apply below_alloc | apply pw_below_drewN | apply below_drew1 | refine below_set ?_ GE456.out) | exact HB.out)⟩⟩
 case round =>
  clear H'
  try clear c1
  try clear p2
  try clear c3
  obtain ⟨x7_1, rfl, HA, HK1, HO_0, HO_457001, HO_457002, BK456, HB⟩ := hrel
  cases gk with
  | zero => exact absurd HA.out (by simp [gristmillref04_Put.l0])
  | succ k1 =>
   have H := HA.out
   clear HA
   simp only [gristmillref04_Put.l0] at H
   by_cases c5 : x7_1 < (l0.length : Int)
   ·rw [if_pos c5] at H
    have c5b0 : decide (x7_1 < (l0.length : Int)) = true := decide_eq_true c5
    clear c5
    by_cases c6 : 0 ≤ x7_1
    ·rw [if_pos c6] at H
     have c6b0 : decide (0 ≤ x7_1) = true := decide_eq_true c6
     clear c6
     replace H := Option.bind_eq_some_iff.mp H
     obtain ⟨t458, A70, H⟩ := H
     replace H : (if t458 < 0 then (gristmillref04_Put.l0 k1 l0 a2 (wrap64 (x7_1 + 1)) a1_0 l1_1 l1_2) else (if x7_1 ≤ (l0.length : Int) then ((some (l0.take (x7_1 : Int).toNat : List (S44))).bind fun y459 => (if ([] : List (S44)).length + y459.length < 2199023255552 then ((some (([] : List (S44)) ++ y459 : List (S44))).bind fun y464 => ((gristmillref04_Compare.f k1 ((rd_T44 l0 x7_1).f0.f0) ((rd_T44 l0 x7_1).f0.f1) ((rd_T44 l0 x7_1).f0.f2) a1_0 l1_1 l1_2).bind fun t468 => (if t468 = 0 then (if y464.length < 2199023255552 then ((some (y464 ++ [(⟨(⟨a1_0, l1_1, l1_2⟩ : S42), IntKind.u64.wrap (((rd_T44 l0 x7_1).f1) + a2)⟩ : S44)] : List (S44))).bind fun y470 => (if 0 ≤ (wrap64 (x7_1 + 1)) then (if (wrap64 (x7_1 + 1)) ≤ (l0.length : Int) then ((some (l0.drop ((wrap64 (x7_1 + 1)) : Int).toNat : List (S44))).bind fun y473 => (if y470.length + y473.length < 2199023255552 then (some (y470 ++ y473)) else (none))) else (none)) else (none))) else (none)) else (if y464.length < 2199023255552 then ((some (y464 ++ [(⟨(⟨a1_0, l1_1, l1_2⟩ : S42), a2⟩ : S44)] : List (S44))).bind fun y481 => ((some (l0.drop (x7_1 : Int).toNat : List (S44))).bind fun y484 => (if y481.length + y484.length < 2199023255552 then (some (y481 ++ y484)) else (none)))) else (none))))) else (none))) else (none))) = some r := H
     have A7 := Aside0.mk A70
     clear A70
     by_cases c8 : t458 < 0
     ·rw [if_pos c8] at H
      have c8b0 : decide (t458 < 0) = true := decide_eq_true c8
      clear c8
      have H' := Aside0.mk H
      clear H
      try go_wp2
      have n0_ := Aside0.mk (Kd.V_drew HO_0.out)
      have n1_ := Aside0.mk (Kd.V_drew HO_457001.out)
      have n2_ := Aside0.mk (Kd.V_drew HO_457002.out)
      have n3_ := Aside0.mk (blk_drew BK456.out)
      have n4_ := Aside0.mk (below_drew1 HB.out)
      clear HO_0
      clear HO_457001
      clear HO_457002
      clear BK456
      clear HB
      have HO_0 := n0_
      have HO_457001 := n1_
      have HO_457002 := n2_
      have BK456 := n3_
      have HB := n4_
      clear n0_ n1_ n2_ n3_ n4_
      have p457 : 0 ≤ (x7_1 : Int) := of_decide_eq_true (by assumption)
      have q457 : x7_1 < (l0.length : Int) := of_decide_eq_true (by assumption)
      obtain ⟨ad457, A457_1, c457_1, A457_2, c457_2, e457, hx457_0, hx457_1, hx457_2, hx457_3, hl457_1, hi457_1, hl457_2, hi457_2⟩ := at_T44 (Kd.V_reads' HO_0.out).2.2 x7_1 p457 q457
      cases e457
      obtain ⟨ce457, hce457, hMe457, hcc457⟩ := Kd.V_get HO_0.out z44 x7_1 p457 (by first | exact q457 | exact of_decide_eq_true (by assumption) | (have e_ := (Kd.V_reads' HO_0.out).1; omega))
      obtain ⟨ua457_1, uc457_1, ua457_2, uc457_2, rfl, ul457_1, ge457_1, ul457_2, ge457_2⟩ := k44_openF hMe457
      have hv457_1 := hcc457 1 _ rfl
      rw [add_field _ _ 1 (by omega)] at hv457_1
      replace hv457_1 := Option.some.inj (hv457_1.symm.trans hx457_1)
      injection hv457_1 with hva_ hvn_ hvc_
      rw [hva_] at ge457_1
      rw [hvc_] at ul457_1
      have HL457_1 := Aside0.mk (show Kd.V Kd.string 9 _ w.heap.size _ _ ((rd_T44 l0 x7_1).f0.f1) from Kd.V_mk ul457_1 ge457_1)
      clear hva_ hvn_ hvc_ ge457_1 ul457_1
      have hv457_2 := hcc457 2 _ rfl
      rw [add_field _ _ 2 (by omega)] at hv457_2
      replace hv457_2 := Option.some.inj (hv457_2.symm.trans hx457_2)
      injection hv457_2 with hva_ hvn_ hvc_
      rw [hva_] at ge457_2
      rw [hvc_] at ul457_2
      have HL457_2 := Aside0.mk (show Kd.V (Kd.int .i64) 2 _ w.heap.size _ _ ((rd_T44 l0 x7_1).f0.f2) from Kd.V_mk ul457_2 ge457_2)
      clear hva_ hvn_ hvc_ ge457_2 ul457_2
      clear hcc457 hce457
      have HR457_1 := Aside0.mk hi457_1
      have HC457_1 := Aside0.mk hl457_1
      clear hi457_1 hl457_1
      have HR457_2 := Aside0.mk hi457_2
      have HC457_2 := Aside0.mk hl457_2
      clear hi457_2 hl457_2
      replace p457 := eq_true p457
      replace q457 := eq_true q457
      refine start_ (n := 14) (S := fun w' => w'.cell? ⟨gb456, 0, none⟩ = some (.int .i64 a1_0) ∧ w'.cell? ⟨gb456, 1, none⟩ = some (.slice A1_1 l1_1.length c1_1) ∧ w'.cell? ⟨gb456, 2, none⟩ = some (.slice A1_2 l1_2.length c1_2) ∧ w'.cell? (ad457.add ((x7_1).toNat * 4)) = some (.int .i64 ((rd_T44 l0 x7_1).f0.f0)) ∧ w'.cell? ⟨(ad457.add ((x7_1).toNat * 4)).block, (ad457.add ((x7_1).toNat * 4)).off + 1, none⟩ = some (.slice A457_1 ((rd_T44 l0 x7_1).f0.f1).length c457_1) ∧ w'.cell? ⟨(ad457.add ((x7_1).toNat * 4)).block, (ad457.add ((x7_1).toNat * 4)).off + 2, none⟩ = some (.slice A457_2 ((rd_T44 l0 x7_1).f0.f2).length c457_2) ∧ w'.cell? ⟨(ad457.add ((x7_1).toNat * 4)).block, (ad457.add ((x7_1).toNat * 4)).off + 3, none⟩ = some (.int .u64 ((rd_T44 l0 x7_1).f1))) (ds := []) #[false, false, false, false, false, false, false, false, false, false, false, false, false, false] (by kernel_rfl) rfl rfl ⟨(blk_cell BK456.out 0).trans rfl, (blk_cell BK456.out 1).trans rfl, (blk_cell BK456.out 2).trans rfl, hx457_0, hx457_1, hx457_2, hx457_3⟩ (fun hHeld => ?_); refine with_tabW gristmillref04_Put.tab2 gristmillref04_Put.bits2 (fun HT_ HW_ => ?_)
      generalize wr.drew = w9 at HO_0 HO_457001 HO_457002 BK456 HB HL457_1 HL457_2 HR457_1 HR457_2 hx457_0 hx457_1 hx457_2 hx457_3 hHeld ⊢
      refine pure_ (i := 0) (N := some 9) (v := ?_) (a' := ?_) #[true, false, false, false, false, false, false, false, false, false, false, false, false, false] rfl rfl (any_of HT_.out (by kernel_rfl)) (fun _ _ _ h => h) (Or.inl ⟨by rfl, ?_⟩) ?_ ?_
      rotate_left
      ·intro w'
       go_simp
       with_reducible rfl
      rotate_left
      ·simp only [Act.put, q1_, q2_, q3_, i64_w, i32_w]
       rfl
      refine pure_ (i := 1) (N := some 10) (v := ?_) (a' := ?_) #[true, true, false, false, false, false, false, false, false, false, false, false, false, false] rfl rfl (any_of HT_.out (by kernel_rfl)) (fun _ _ _ h => h) (Or.inl ⟨by rfl, ?_⟩) ?_ ?_
      rotate_left
      ·intro w'
       go_simp
       with_reducible rfl
      rotate_left
      ·simp only [Act.put, q1_, q2_, q3_, i64_w, i32_w]
       rfl
      refine pure_ (i := 2) (N := some 11) (v := ?_) (a' := ?_) #[true, true, true, false, false, false, false, false, false, false, false, false, false, false] rfl rfl (any_of HT_.out (by kernel_rfl)) (fun _ _ _ h => h) (Or.inl ⟨by rfl, ?_⟩) ?_ ?_
      rotate_left
      ·intro w'
       go_simp
       with_reducible rfl
      rotate_left
      ·simp only [Act.put, q1_, q2_, q3_, i64_w, i32_w]
       rfl
      refine pure_ (i := 3) (N := some 12) (v := ?_) (a' := ?_) #[true, true, true, true, false, false, false, false, false, false, false, false, false, false] rfl rfl (any_of HT_.out (by kernel_rfl)) (fun _ _ _ h => h) (Or.inl ⟨by rfl, ?_⟩) ?_ ?_
      rotate_left
      ·intro w'
       go_simp
       with_reducible rfl
      rotate_left
      ·simp only [Act.put, q1_, q2_, q3_, i64_w, i32_w]
       rfl
      refine pure_ (i := 4) (N := some 13) (v := ?_) (a' := ?_) #[true, true, true, true, true, false, false, false, false, false, false, false, false, false] rfl rfl (any_of HT_.out (by kernel_rfl)) (fun _ _ _ h => h) (Or.inl ⟨by rfl, ?_⟩) ?_ ?_
      rotate_left
      ·intro w'
       go_simp
       with_reducible rfl
      rotate_left
      ·simp only [Act.put, q1_, q2_, q3_, i64_w, i32_w]
       rfl
      refine pure_ (i := 5) (N := some 14) (v := ?_) (a' := ?_) #[true, true, true, true, true, true, false, false, false, false, false, false, false, false] rfl rfl (any_of HT_.out (by kernel_rfl)) (fun _ _ _ h => h) (Or.inl ⟨by rfl, ?_⟩) ?_ ?_
      rotate_left
      ·intro w'
       go_simp
       with_reducible rfl
      rotate_left
      ·simp only [Act.put, q1_, q2_, q3_, i64_w, i32_w]
       rfl
      refine pure_ (i := 6) (N := some 15) (v := ?_) (a' := ?_) #[true, true, true, true, true, true, true, false, false, false, false, false, false, false] rfl rfl (any_of HT_.out (by kernel_rfl)) (fun _ _ _ h => h) (Or.inl ⟨by rfl, ?_⟩) ?_ ?_
      rotate_left
      ·intro w'
       go_simp
       with_reducible rfl
      rotate_left
      ·simp only [Act.put, q1_, q2_, q3_, i64_w, i32_w]
       rfl
      refine pure_ (i := 7) (N := some 16) (v := ?_) (a' := ?_) #[true, true, true, true, true, true, true, true, false, false, false, false, false, false] rfl rfl (any_of HT_.out (by kernel_rfl)) (fun _ _ _ h => h) (Or.inl ⟨by rfl, ?_⟩) ?_ ?_
      rotate_left
      ·intro w'
       go_simp
       with_reducible rfl
      rotate_left
      ·simp only [Act.put, q1_, q2_, q3_, i64_w, i32_w]
       rfl
      refine pure_ (i := 8) (N := some 17) (v := ?_) (a' := ?_) #[true, true, true, true, true, true, true, true, true, false, false, false, false, false] rfl rfl (any_of HT_.out (by kernel_rfl)) (fun _ _ _ h => h) (Or.inl ⟨by rfl, ?_⟩) ?_ ?_
      rotate_left
      ·intro w'
       go_simp
       with_reducible rfl
      rotate_left
      ·simp only [Act.put, q1_, q2_, q3_, i64_w, i32_w]
       rfl
      refine take_ (i := 9) (N := some 18) (v := ?_) (a' := ?_) #[true, true, true, true, true, true, true, true, true, true, false, false, false, false] rfl rfl (take_ofW HT_.out HW_.out (by kernel_rfl)) (fun _ _ _ h => h) (Or.inl ⟨by rfl, ?_⟩) hHeld ?_ ?_
      rotate_left
      ·rintro w' ⟨s0, s1, s2, s3, s4, s5, s6⟩
       go_simp
       with_reducible rfl
      rotate_left
      ·simp only [Act.put, q1_, q2_, q3_, i64_w, i32_w]
       rfl
      refine take_ (i := 10) (N := some 19) (v := ?_) (a' := ?_) #[true, true, true, true, true, true, true, true, true, true, true, false, false, false] rfl rfl (take_ofW HT_.out HW_.out (by kernel_rfl)) (fun _ _ _ h => h) (Or.inl ⟨by rfl, ?_⟩) hHeld ?_ ?_
      rotate_left
      ·rintro w' ⟨s0, s1, s2, s3, s4, s5, s6⟩
       go_simp
       with_reducible rfl
      rotate_left
      ·simp only [Act.put, q1_, q2_, q3_, i64_w, i32_w]
       rfl
      refine one_ (i := 11) (N := some 20) #[true, true, true, true, true, true, true, true, true, true, true, true, false, false] rfl rfl (one_of HT_.out (by kernel_rfl)) (by decide) (fun K hK => ?_)
      refine goes_ Try.func43 (by kernel_rfl) rfl #[.agg #[.int .i64 ((rd_T44 l0 x7_1).f0.f0), .slice A457_1 ((rd_T44 l0 x7_1).f0.f1).length c457_1, .slice A457_2 ((rd_T44 l0 x7_1).f0.f2).length c457_2], .agg #[.int .i64 a1_0, .slice A1_1 l1_1.length c1_1, .slice A1_2 l1_2.length c1_2]] (by rfl) rfl rfl (by (try simp only [List.map_toArray, List.map_cons, List.map_nil]); first | done | rfl | (simp only [List.length_drop, List.length_take]; rfl)) ?_
      with_reducible refine (gristmillref04_Compare.calls k1 ((rd_T44 l0 x7_1).f0.f0) _ _ ((rd_T44 l0 x7_1).f0.f1) _ _ ((rd_T44 l0 x7_1).f0.f2) a1_0 _ _ l1_1 _ _ l1_2 t458 _ ?side1 ?side2 ?side3 ?side4 ?side5 ?side6 ?side7 ?side8 A7.out).mono ?_
      (case side1 => repeat (first | exact (by repeat (first | (with_reducible exact HR457_1.out) | (with_reducible refine Kd.C_alloc ?_ _) | (with_reducible refine Kd.C_drewN ?_ _) | (with_reducible refine Kd.C_drew ?_) | exact HR457_1.out)) | (with_reducible refine Kd.C_alloc ?_ _) | (with_reducible refine Kd.C_drewN ?_ _) | (with_reducible refine Kd.C_drew ?_)))
      (case side2 => exact HC457_1.out)
      (case side3 => repeat (first | exact (by repeat (first | (with_reducible exact HR457_2.out) | (with_reducible refine Kd.C_alloc ?_ _) | (with_reducible refine Kd.C_drewN ?_ _) | (with_reducible refine Kd.C_drew ?_) | exact HR457_2.out)) | (with_reducible refine Kd.C_alloc ?_ _) | (with_reducible refine Kd.C_drewN ?_ _) | (with_reducible refine Kd.C_drew ?_)))
      (case side4 => exact HC457_2.out)
      (case side5 => repeat (first | exact (Kd.V_reads' HO_457001.out).2.2 | (with_reducible refine Kd.C_alloc ?_ _) | (with_reducible refine Kd.C_drewN ?_ _) | (with_reducible refine Kd.C_drew ?_)))
      (case side6 => exact (Kd.V_reads' HO_457001.out).2.1)
      (case side7 => repeat (first | exact (Kd.V_reads' HO_457002.out).2.2 | (with_reducible refine Kd.C_alloc ?_ _) | (with_reducible refine Kd.C_drewN ?_ _) | (with_reducible refine Kd.C_drew ?_)))
      (case side8 => exact (Kd.V_reads' HO_457002.out).2.1)
      rintro e w10 ⟨rfl, hb⟩
      have HS3_ := (hb.cell (World.block_lt_of_cell? _ _ (hHeld.2.2.2.1))).trans (hHeld.2.2.2.1)
      have HS4_ := (hb.cell (World.block_lt_of_cell? _ _ (hHeld.2.2.2.2.1))).trans (hHeld.2.2.2.2.1)
      have HS5_ := (hb.cell (World.block_lt_of_cell? _ _ (hHeld.2.2.2.2.2.1))).trans (hHeld.2.2.2.2.2.1)
      have HS6_ := (hb.cell (World.block_lt_of_cell? _ _ (hHeld.2.2.2.2.2.2))).trans (hHeld.2.2.2.2.2.2)
      refine ⟨_, rfl, ?_⟩
      have n0_ := Aside0.mk (Kd.V_below (by (with_reducible repeat (first | apply Kd.V_alloc | apply Kd.V_drewN | apply Kd.V_drew)); exact HO_0.out) hb)
      have n1_ := Aside0.mk (Kd.V_below (by (with_reducible repeat (first | apply Kd.V_alloc | apply Kd.V_drewN | apply Kd.V_drew)); exact HO_457001.out) hb)
      have n2_ := Aside0.mk (Kd.V_below (by (with_reducible repeat (first | apply Kd.V_alloc | apply Kd.V_drewN | apply Kd.V_drew)); exact HO_457002.out) hb)
      have n3_ := Aside0.mk (Kd.V_below (by (with_reducible repeat (first | apply Kd.V_alloc | apply Kd.V_drewN | apply Kd.V_drew)); exact HL457_1.out) hb)
      have n4_ := Aside0.mk (Kd.V_below (by (with_reducible repeat (first | apply Kd.V_alloc | apply Kd.V_drewN | apply Kd.V_drew)); exact HL457_2.out) hb)
      have n5_ := Aside0.mk (blk_below (bk_ BK456.out) hb)
      have n6_ := Aside0.mk (Kd.C_below (by repeat (first | (with_reducible exact HR457_1.out) | (with_reducible refine Kd.C_alloc ?_ _) | (with_reducible refine Kd.C_drewN ?_ _) | (with_reducible refine Kd.C_drew ?_) | exact HR457_1.out)) hb)
      have n7_ := Aside0.mk (Kd.C_below (by repeat (first | (with_reducible exact HR457_2.out) | (with_reducible refine Kd.C_alloc ?_ _) | (with_reducible refine Kd.C_drewN ?_ _) | (with_reducible refine Kd.C_drew ?_) | exact HR457_2.out)) hb)
      have n8_ := Aside0.mk (below_step (bw_ HB.out) hb)
      clear HO_0
      clear HO_457001
      clear HO_457002
      clear HL457_1
      clear HL457_2
      clear BK456
      clear HR457_1
      clear HR457_2
      clear HB
      have HO_0 := n0_
      have HO_457001 := n1_
      have HO_457002 := n2_
      have HL457_1 := n3_
      have HL457_2 := n4_
      have BK456 := n5_
      have HR457_1 := n6_
      have HR457_2 := n7_
      have HB := n8_
      clear n0_ n1_ n2_ n3_ n4_ n5_ n6_ n7_ n8_
      (try clear hb)
      (try clear hb2)
      (try clear hk)
      (try clear hi)
      refine hK.out _ _ ⟨(blk_cell BK456.out 0).trans rfl, (blk_cell BK456.out 1).trans rfl, (blk_cell BK456.out 2).trans rfl, HS3_, HS4_, HS5_, HS6_⟩ (fun hHeld => ?_)
      clear hK K
      refine norm_ (a' := ?_) ?_ ?_
      rotate_left
      ·show Act.put _ (some 20) _ = _
       simp only [Act.put, q1_, q2_, q3_, i64_w, i32_w]
       rfl
      refine pure_ (i := 12) (N := some 21) (v := ?_) (a' := ?_) #[true, true, true, true, true, true, true, true, true, true, true, true, true, false] rfl rfl (any_of HT_.out (by kernel_rfl)) (fun _ _ _ h => h) (Or.inl ⟨by rfl, ?_⟩) ?_ ?_
      rotate_left
      ·intro w'
       go_simp
       with_reducible rfl
      rotate_left
      ·simp only [Act.put, q1_, q2_, q3_, i64_w, i32_w]
       rfl
      refine pure_ (i := 13) (N := some 22) (v := ?_) (a' := ?_) #[true, true, true, true, true, true, true, true, true, true, true, true, true, true] rfl rfl (any_of HT_.out (by kernel_rfl)) (fun _ _ _ h => h) (Or.inl ⟨by rfl, ?_⟩) ?_ ?_
      rotate_left
      ·intro w'
       go_simp
       with_reducible rfl
      rotate_left
      ·simp only [Act.put, q1_, q2_, q3_, i64_w, i32_w]
       rfl
      refine done_ (done_of HT_.out (by kernel_rfl)) ?_
      try go_wp2
      go_roundg k1
      case measure => have := HK1.out; omega
      case rel => exact ⟨(wrap64 (x7_1 + 1)), (by first | rfl | (simp; done) | (simp [*]; done)), H', ⟨by have := HK1.out; omega⟩, ⟨by (with_reducible repeat (first | apply Kd.V_alloc | apply Kd.V_drewN | apply Kd.V_drew)); exact HO_0.out⟩, ⟨by (with_reducible repeat (first | apply Kd.V_alloc | apply Kd.V_drewN | apply Kd.V_drew)); exact HO_457001.out⟩, ⟨by (with_reducible repeat (first | apply Kd.V_alloc | apply Kd.V_drewN | apply Kd.V_drew)); exact HO_457002.out⟩, ⟨by (with_reducible repeat (first | refine blk_drewN ?_ _ | refine blk_drew ?_ | refine blk_alloc ?_ _)); exact BK456.out⟩, ⟨by repeat (first | (with_reducible first | exact HB.out | apply below_alloc | apply pw_below_drewN | apply below_drew1 | refine below_set ?_ GE456.out) | exact HB.out)⟩⟩
     ·rw [if_neg c8] at H
      have c8b0 : decide (t458 < 0) = false := decide_eq_false c8
      clear c8
      have c11b0 := eq_true (of_decide_eq_true (by assumption) : 0 ≤ x7_1)
      by_cases c12 : x7_1 ≤ (l0.length : Int)
      ·rw [if_pos c12] at H
       have c12b0 := eq_true c12
       have c12b1 : decide (x7_1 ≤ (l0.length : Int)) = true := decide_eq_true c12
       clear c12
       obtain ⟨y459, hy459⟩ : ∃ y_ : List (S44), y_ = (l0.take (x7_1 : Int).toNat) := ⟨_, rfl⟩
       replace H : (if ([] : List (S44)).length + y459.length < 2199023255552 then ((some (([] : List (S44)) ++ y459 : List (S44))).bind fun y464 => ((gristmillref04_Compare.f k1 ((rd_T44 l0 x7_1).f0.f0) ((rd_T44 l0 x7_1).f0.f1) ((rd_T44 l0 x7_1).f0.f2) a1_0 l1_1 l1_2).bind fun t468 => (if t468 = 0 then (if y464.length < 2199023255552 then ((some (y464 ++ [(⟨(⟨a1_0, l1_1, l1_2⟩ : S42), IntKind.u64.wrap (((rd_T44 l0 x7_1).f1) + a2)⟩ : S44)] : List (S44))).bind fun y470 => (if 0 ≤ (wrap64 (x7_1 + 1)) then (if (wrap64 (x7_1 + 1)) ≤ (l0.length : Int) then ((some (l0.drop ((wrap64 (x7_1 + 1)) : Int).toNat : List (S44))).bind fun y473 => (if y470.length + y473.length < 2199023255552 then (some (y470 ++ y473)) else (none))) else (none)) else (none))) else (none)) else (if y464.length < 2199023255552 then ((some (y464 ++ [(⟨(⟨a1_0, l1_1, l1_2⟩ : S42), a2⟩ : S44)] : List (S44))).bind fun y481 => ((some (l0.drop (x7_1 : Int).toNat : List (S44))).bind fun y484 => (if y481.length + y484.length < 2199023255552 then (some (y481 ++ y484)) else (none)))) else (none))))) else (none)) = some r := by first | (rw [hy459]; with_reducible exact H) | (have H2_ := (Option.bind_some _ _).symm.trans H; rw [hy459]; with_reducible exact H2_) | (have H2_ := (Option.bind_some _ _).symm.trans H; with_reducible exact H2_) | with_reducible exact H | (rw [hy459]; exact H) | exact H
       have Ny459 := Aside0.mk hy459
       clear hy459
       by_cases c13 : ([] : List (S44)).length + y459.length < 2199023255552
       ·rw [if_pos c13] at H
        have LMc13 := Aside0.mk c13
        clear c13
        obtain ⟨y464, hy464⟩ : ∃ y_ : List (S44), y_ = (([] : List (S44)) ++ y459) := ⟨_, rfl⟩
        replace H : ((gristmillref04_Compare.f k1 ((rd_T44 l0 x7_1).f0.f0) ((rd_T44 l0 x7_1).f0.f1) ((rd_T44 l0 x7_1).f0.f2) a1_0 l1_1 l1_2).bind fun t468 => (if t468 = 0 then (if y464.length < 2199023255552 then ((some (y464 ++ [(⟨(⟨a1_0, l1_1, l1_2⟩ : S42), IntKind.u64.wrap (((rd_T44 l0 x7_1).f1) + a2)⟩ : S44)] : List (S44))).bind fun y470 => (if 0 ≤ (wrap64 (x7_1 + 1)) then (if (wrap64 (x7_1 + 1)) ≤ (l0.length : Int) then ((some (l0.drop ((wrap64 (x7_1 + 1)) : Int).toNat : List (S44))).bind fun y473 => (if y470.length + y473.length < 2199023255552 then (some (y470 ++ y473)) else (none))) else (none)) else (none))) else (none)) else (if y464.length < 2199023255552 then ((some (y464 ++ [(⟨(⟨a1_0, l1_1, l1_2⟩ : S42), a2⟩ : S44)] : List (S44))).bind fun y481 => ((some (l0.drop (x7_1 : Int).toNat : List (S44))).bind fun y484 => (if y481.length + y484.length < 2199023255552 then (some (y481 ++ y484)) else (none)))) else (none)))) = some r := by first | (rw [hy464]; with_reducible exact H) | (have H2_ := (Option.bind_some _ _).symm.trans H; rw [hy464]; with_reducible exact H2_) | (have H2_ := (Option.bind_some _ _).symm.trans H; with_reducible exact H2_) | with_reducible exact H | (rw [hy464]; exact H) | exact H
        have Ny464 := Aside0.mk hy464
        clear hy464
        replace H := Option.bind_eq_some_iff.mp H
        obtain ⟨t468, A140, H⟩ := H
        replace H : (if t468 = 0 then (if y464.length < 2199023255552 then ((some (y464 ++ [(⟨(⟨a1_0, l1_1, l1_2⟩ : S42), IntKind.u64.wrap (((rd_T44 l0 x7_1).f1) + a2)⟩ : S44)] : List (S44))).bind fun y470 => (if 0 ≤ (wrap64 (x7_1 + 1)) then (if (wrap64 (x7_1 + 1)) ≤ (l0.length : Int) then ((some (l0.drop ((wrap64 (x7_1 + 1)) : Int).toNat : List (S44))).bind fun y473 => (if y470.length + y473.length < 2199023255552 then (some (y470 ++ y473)) else (none))) else (none)) else (none))) else (none)) else (if y464.length < 2199023255552 then ((some (y464 ++ [(⟨(⟨a1_0, l1_1, l1_2⟩ : S42), a2⟩ : S44)] : List (S44))).bind fun y481 => ((some (l0.drop (x7_1 : Int).toNat : List (S44))).bind fun y484 => (if y481.length + y484.length < 2199023255552 then (some (y481 ++ y484)) else (none)))) else (none))) = some r := H
        have A14 := Aside0.mk A140
        clear A140
        by_cases c15 : t468 = 0
        ·rw [if_pos c15] at H
         have c15b0 : (t468 == 0) = true := beq_iff_eq.mpr c15
         have c15b1 : (t468 != 0) = false := bne_eq_false_iff_eq.mpr c15
         clear c15
         by_cases c16 : y464.length < 2199023255552
         ·rw [if_pos c16] at H
          have LMc16 := Aside0.mk c16
          clear c16
          obtain ⟨y470, hy470⟩ : ∃ y_ : List (S44), y_ = (y464 ++ [(⟨(⟨a1_0, l1_1, l1_2⟩ : S42), IntKind.u64.wrap (((rd_T44 l0 x7_1).f1) + a2)⟩ : S44)]) := ⟨_, rfl⟩
          replace H : (if 0 ≤ (wrap64 (x7_1 + 1)) then (if (wrap64 (x7_1 + 1)) ≤ (l0.length : Int) then ((some (l0.drop ((wrap64 (x7_1 + 1)) : Int).toNat : List (S44))).bind fun y473 => (if y470.length + y473.length < 2199023255552 then (some (y470 ++ y473)) else (none))) else (none)) else (none)) = some r := by first | (rw [hy470]; with_reducible exact H) | (have H2_ := (Option.bind_some _ _).symm.trans H; rw [hy470]; with_reducible exact H2_) | (have H2_ := (Option.bind_some _ _).symm.trans H; with_reducible exact H2_) | with_reducible exact H | (rw [hy470]; exact H) | exact H
          have Ny470 := Aside0.mk hy470
          clear hy470
          obtain ⟨ji17, hji17⟩ : ∃ j_ : Int, (wrap64 (x7_1 + 1)) = j_ := ⟨_, rfl⟩
          replace H : (if 0 ≤ (ji17) then (if (ji17) ≤ (l0.length : Int) then ((some (l0.drop ((ji17) : Int).toNat : List (S44))).bind fun y473 => (if y470.length + y473.length < 2199023255552 then (some (y470 ++ y473)) else (none))) else (none)) else (none)) = some r := by first | (rw [hji17] at H; exact H) | (simp only [hji17] at H ⊢; exact H)
          (try rw [hji17] at A7)
          (try rw [hji17] at A14)
          have hji17w : (IntKind.i64.wrap (x7_1 + 1)) = ji17 := (i64_w _).trans hji17
          by_cases c18 : 0 ≤ (ji17)
          ·rw [if_pos c18] at H
           have c18b0 := eq_true c18
           have c18b1 : decide (0 ≤ (ji17)) = true := decide_eq_true c18
           clear c18
           by_cases c19 : (ji17) ≤ (l0.length : Int)
           ·rw [if_pos c19] at H
            have c19b0 := eq_true c19
            have c19b1 : decide ((ji17) ≤ (l0.length : Int)) = true := decide_eq_true c19
            clear c19
            obtain ⟨y473, hy473⟩ : ∃ y_ : List (S44), y_ = (l0.drop ((ji17) : Int).toNat) := ⟨_, rfl⟩
            replace H : (if y470.length + y473.length < 2199023255552 then (some (y470 ++ y473)) else (none)) = some r := by first | (rw [hy473]; with_reducible exact H) | (have H2_ := (Option.bind_some _ _).symm.trans H; rw [hy473]; with_reducible exact H2_) | (have H2_ := (Option.bind_some _ _).symm.trans H; with_reducible exact H2_) | with_reducible exact H | (rw [hy473]; exact H) | exact H
            have Ny473 := Aside0.mk hy473
            clear hy473
            by_cases c20 : y470.length + y473.length < 2199023255552
            ·rw [if_pos c20] at H
             have LMc20 := Aside0.mk c20
             clear c20
             obtain ⟨y478, hy478⟩ : ∃ y_ : List (S44), y_ = (y470 ++ y473) := ⟨_, rfl⟩
             replace H : (some y478) = some r := by first | (rw [hy478]; with_reducible exact H) | (have H2_ := (Option.bind_some _ _).symm.trans H; rw [hy478]; with_reducible exact H2_) | (have H2_ := (Option.bind_some _ _).symm.trans H; with_reducible exact H2_) | with_reducible exact H | (rw [hy478]; exact H) | exact H
             have Ny478 := Aside0.mk hy478
             clear hy478
             obtain rfl := Option.some.inj H
             try go_wp2
             have n0_ := Aside0.mk (Kd.V_drew HO_0.out)
             have n1_ := Aside0.mk (Kd.V_drew HO_457001.out)
             have n2_ := Aside0.mk (Kd.V_drew HO_457002.out)
             have n3_ := Aside0.mk (blk_drew BK456.out)
             have n4_ := Aside0.mk (below_drew1 HB.out)
             clear HO_0
             clear HO_457001
             clear HO_457002
             clear BK456
             clear HB
             have HO_0 := n0_
             have HO_457001 := n1_
             have HO_457002 := n2_
             have BK456 := n3_
             have HB := n4_
             clear n0_ n1_ n2_ n3_ n4_
             have p457 : 0 ≤ (x7_1 : Int) := of_decide_eq_true (by assumption)
             have q457 : x7_1 < (l0.length : Int) := of_decide_eq_true (by assumption)
             obtain ⟨ad457, A457_1, c457_1, A457_2, c457_2, e457, hx457_0, hx457_1, hx457_2, hx457_3, hl457_1, hi457_1, hl457_2, hi457_2⟩ := at_T44 (Kd.V_reads' HO_0.out).2.2 x7_1 p457 q457
             cases e457
             obtain ⟨ce457, hce457, hMe457, hcc457⟩ := Kd.V_get HO_0.out z44 x7_1 p457 (by first | exact q457 | exact of_decide_eq_true (by assumption) | (have e_ := (Kd.V_reads' HO_0.out).1; omega))
             obtain ⟨ua457_1, uc457_1, ua457_2, uc457_2, rfl, ul457_1, ge457_1, ul457_2, ge457_2⟩ := k44_openF hMe457
             have hv457_1 := hcc457 1 _ rfl
             rw [add_field _ _ 1 (by omega)] at hv457_1
             replace hv457_1 := Option.some.inj (hv457_1.symm.trans hx457_1)
             injection hv457_1 with hva_ hvn_ hvc_
             rw [hva_] at ge457_1
             rw [hvc_] at ul457_1
             have HL457_1 := Aside0.mk (show Kd.V Kd.string 9 _ w.heap.size _ _ ((rd_T44 l0 x7_1).f0.f1) from Kd.V_mk ul457_1 ge457_1)
             clear hva_ hvn_ hvc_ ge457_1 ul457_1
             have hv457_2 := hcc457 2 _ rfl
             rw [add_field _ _ 2 (by omega)] at hv457_2
             replace hv457_2 := Option.some.inj (hv457_2.symm.trans hx457_2)
             injection hv457_2 with hva_ hvn_ hvc_
             rw [hva_] at ge457_2
             rw [hvc_] at ul457_2
             have HL457_2 := Aside0.mk (show Kd.V (Kd.int .i64) 2 _ w.heap.size _ _ ((rd_T44 l0 x7_1).f0.f2) from Kd.V_mk ul457_2 ge457_2)
             clear hva_ hvn_ hvc_ ge457_2 ul457_2
             clear hcc457 hce457
             have HR457_1 := Aside0.mk hi457_1
             have HC457_1 := Aside0.mk hl457_1
             clear hi457_1 hl457_1
             have HR457_2 := Aside0.mk hi457_2
             have HC457_2 := Aside0.mk hl457_2
             clear hi457_2 hl457_2
             replace p457 := eq_true p457
             replace q457 := eq_true q457
             refine start_ (n := 14) (S := fun w' => w'.cell? ⟨gb456, 0, none⟩ = some (.int .i64 a1_0) ∧ w'.cell? ⟨gb456, 1, none⟩ = some (.slice A1_1 l1_1.length c1_1) ∧ w'.cell? ⟨gb456, 2, none⟩ = some (.slice A1_2 l1_2.length c1_2) ∧ w'.cell? (ad457.add ((x7_1).toNat * 4)) = some (.int .i64 ((rd_T44 l0 x7_1).f0.f0)) ∧ w'.cell? ⟨(ad457.add ((x7_1).toNat * 4)).block, (ad457.add ((x7_1).toNat * 4)).off + 1, none⟩ = some (.slice A457_1 ((rd_T44 l0 x7_1).f0.f1).length c457_1) ∧ w'.cell? ⟨(ad457.add ((x7_1).toNat * 4)).block, (ad457.add ((x7_1).toNat * 4)).off + 2, none⟩ = some (.slice A457_2 ((rd_T44 l0 x7_1).f0.f2).length c457_2) ∧ w'.cell? ⟨(ad457.add ((x7_1).toNat * 4)).block, (ad457.add ((x7_1).toNat * 4)).off + 3, none⟩ = some (.int .u64 ((rd_T44 l0 x7_1).f1))) (ds := []) #[false, false, false, false, false, false, false, false, false, false, false, false, false, false] (by kernel_rfl) rfl rfl ⟨(blk_cell BK456.out 0).trans rfl, (blk_cell BK456.out 1).trans rfl, (blk_cell BK456.out 2).trans rfl, hx457_0, hx457_1, hx457_2, hx457_3⟩ (fun hHeld => ?_); refine with_tabW gristmillref04_Put.tab2 gristmillref04_Put.bits2 (fun HT_ HW_ => ?_)
             generalize wr.drew = w21 at HO_0 HO_457001 HO_457002 BK456 HB HL457_1 HL457_2 HR457_1 HR457_2 hx457_0 hx457_1 hx457_2 hx457_3 hHeld ⊢
             refine pure_ (i := 0) (N := some 9) (v := ?_) (a' := ?_) #[true, false, false, false, false, false, false, false, false, false, false, false, false, false] rfl rfl (any_of HT_.out (by kernel_rfl)) (fun _ _ _ h => h) (Or.inl ⟨by rfl, ?_⟩) ?_ ?_
             rotate_left
             ·intro w'
              go_simp
              with_reducible rfl
             rotate_left
             ·simp only [Act.put, q1_, q2_, q3_, i64_w, i32_w]
              rfl
             refine pure_ (i := 1) (N := some 10) (v := ?_) (a' := ?_) #[true, true, false, false, false, false, false, false, false, false, false, false, false, false] rfl rfl (any_of HT_.out (by kernel_rfl)) (fun _ _ _ h => h) (Or.inl ⟨by rfl, ?_⟩) ?_ ?_
             rotate_left
             ·intro w'
              go_simp
              with_reducible rfl
             rotate_left
             ·simp only [Act.put, q1_, q2_, q3_, i64_w, i32_w]
              rfl
             refine pure_ (i := 2) (N := some 11) (v := ?_) (a' := ?_) #[true, true, true, false, false, false, false, false, false, false, false, false, false, false] rfl rfl (any_of HT_.out (by kernel_rfl)) (fun _ _ _ h => h) (Or.inl ⟨by rfl, ?_⟩) ?_ ?_
             rotate_left
             ·intro w'
              go_simp
              with_reducible rfl
             rotate_left
             ·simp only [Act.put, q1_, q2_, q3_, i64_w, i32_w]
              rfl
             refine pure_ (i := 3) (N := some 12) (v := ?_) (a' := ?_) #[true, true, true, true, false, false, false, false, false, false, false, false, false, false] rfl rfl (any_of HT_.out (by kernel_rfl)) (fun _ _ _ h => h) (Or.inl ⟨by rfl, ?_⟩) ?_ ?_
             rotate_left
             ·intro w'
              go_simp
              with_reducible rfl
             rotate_left
             ·simp only [Act.put, q1_, q2_, q3_, i64_w, i32_w]
              rfl
             refine pure_ (i := 4) (N := some 13) (v := ?_) (a' := ?_) #[true, true, true, true, true, false, false, false, false, false, false, false, false, false] rfl rfl (any_of HT_.out (by kernel_rfl)) (fun _ _ _ h => h) (Or.inl ⟨by rfl, ?_⟩) ?_ ?_
             rotate_left
             ·intro w'
              go_simp
              with_reducible rfl
             rotate_left
             ·simp only [Act.put, q1_, q2_, q3_, i64_w, i32_w]
              rfl
             refine pure_ (i := 5) (N := some 14) (v := ?_) (a' := ?_) #[true, true, true, true, true, true, false, false, false, false, false, false, false, false] rfl rfl (any_of HT_.out (by kernel_rfl)) (fun _ _ _ h => h) (Or.inl ⟨by rfl, ?_⟩) ?_ ?_
             rotate_left
             ·intro w'
              go_simp
              with_reducible rfl
             rotate_left
             ·simp only [Act.put, q1_, q2_, q3_, i64_w, i32_w]
              rfl
             refine pure_ (i := 6) (N := some 15) (v := ?_) (a' := ?_) #[true, true, true, true, true, true, true, false, false, false, false, false, false, false] rfl rfl (any_of HT_.out (by kernel_rfl)) (fun _ _ _ h => h) (Or.inl ⟨by rfl, ?_⟩) ?_ ?_
             rotate_left
             ·intro w'
              go_simp
              with_reducible rfl
             rotate_left
             ·simp only [Act.put, q1_, q2_, q3_, i64_w, i32_w]
              rfl
             refine pure_ (i := 7) (N := some 16) (v := ?_) (a' := ?_) #[true, true, true, true, true, true, true, true, false, false, false, false, false, false] rfl rfl (any_of HT_.out (by kernel_rfl)) (fun _ _ _ h => h) (Or.inl ⟨by rfl, ?_⟩) ?_ ?_
             rotate_left
             ·intro w'
              go_simp
              with_reducible rfl
             rotate_left
             ·simp only [Act.put, q1_, q2_, q3_, i64_w, i32_w]
              rfl
             refine pure_ (i := 8) (N := some 17) (v := ?_) (a' := ?_) #[true, true, true, true, true, true, true, true, true, false, false, false, false, false] rfl rfl (any_of HT_.out (by kernel_rfl)) (fun _ _ _ h => h) (Or.inl ⟨by rfl, ?_⟩) ?_ ?_
             rotate_left
             ·intro w'
              go_simp
              with_reducible rfl
             rotate_left
             ·simp only [Act.put, q1_, q2_, q3_, i64_w, i32_w]
              rfl
             refine take_ (i := 9) (N := some 18) (v := ?_) (a' := ?_) #[true, true, true, true, true, true, true, true, true, true, false, false, false, false] rfl rfl (take_ofW HT_.out HW_.out (by kernel_rfl)) (fun _ _ _ h => h) (Or.inl ⟨by rfl, ?_⟩) hHeld ?_ ?_
             rotate_left
             ·rintro w' ⟨s0, s1, s2, s3, s4, s5, s6⟩
              go_simp
              with_reducible rfl
             rotate_left
             ·simp only [Act.put, q1_, q2_, q3_, i64_w, i32_w]
              rfl
             refine take_ (i := 10) (N := some 19) (v := ?_) (a' := ?_) #[true, true, true, true, true, true, true, true, true, true, true, false, false, false] rfl rfl (take_ofW HT_.out HW_.out (by kernel_rfl)) (fun _ _ _ h => h) (Or.inl ⟨by rfl, ?_⟩) hHeld ?_ ?_
             rotate_left
             ·rintro w' ⟨s0, s1, s2, s3, s4, s5, s6⟩
              go_simp
              with_reducible rfl
             rotate_left
             ·simp only [Act.put, q1_, q2_, q3_, i64_w, i32_w]
              rfl
             refine one_ (i := 11) (N := some 20) #[true, true, true, true, true, true, true, true, true, true, true, true, false, false] rfl rfl (one_of HT_.out (by kernel_rfl)) (by decide) (fun K hK => ?_)
             refine goes_ Try.func43 (by kernel_rfl) rfl #[.agg #[.int .i64 ((rd_T44 l0 x7_1).f0.f0), .slice A457_1 ((rd_T44 l0 x7_1).f0.f1).length c457_1, .slice A457_2 ((rd_T44 l0 x7_1).f0.f2).length c457_2], .agg #[.int .i64 a1_0, .slice A1_1 l1_1.length c1_1, .slice A1_2 l1_2.length c1_2]] (by rfl) rfl rfl (by (try simp only [List.map_toArray, List.map_cons, List.map_nil]); first | done | rfl | (simp only [List.length_drop, List.length_take]; rfl)) ?_
             with_reducible refine (gristmillref04_Compare.calls k1 ((rd_T44 l0 x7_1).f0.f0) _ _ ((rd_T44 l0 x7_1).f0.f1) _ _ ((rd_T44 l0 x7_1).f0.f2) a1_0 _ _ l1_1 _ _ l1_2 t458 _ ?side1 ?side2 ?side3 ?side4 ?side5 ?side6 ?side7 ?side8 A7.out).mono ?_
             (case side1 => repeat (first | exact (by repeat (first | (with_reducible exact HR457_1.out) | (with_reducible refine Kd.C_alloc ?_ _) | (with_reducible refine Kd.C_drewN ?_ _) | (with_reducible refine Kd.C_drew ?_) | exact HR457_1.out)) | (with_reducible refine Kd.C_alloc ?_ _) | (with_reducible refine Kd.C_drewN ?_ _) | (with_reducible refine Kd.C_drew ?_)))
             (case side2 => exact HC457_1.out)
             (case side3 => repeat (first | exact (by repeat (first | (with_reducible exact HR457_2.out) | (with_reducible refine Kd.C_alloc ?_ _) | (with_reducible refine Kd.C_drewN ?_ _) | (with_reducible refine Kd.C_drew ?_) | exact HR457_2.out)) | (with_reducible refine Kd.C_alloc ?_ _) | (with_reducible refine Kd.C_drewN ?_ _) | (with_reducible refine Kd.C_drew ?_)))
             (case side4 => exact HC457_2.out)
             (case side5 => repeat (first | exact (Kd.V_reads' HO_457001.out).2.2 | (with_reducible refine Kd.C_alloc ?_ _) | (with_reducible refine Kd.C_drewN ?_ _) | (with_reducible refine Kd.C_drew ?_)))
             (case side6 => exact (Kd.V_reads' HO_457001.out).2.1)
             (case side7 => repeat (first | exact (Kd.V_reads' HO_457002.out).2.2 | (with_reducible refine Kd.C_alloc ?_ _) | (with_reducible refine Kd.C_drewN ?_ _) | (with_reducible refine Kd.C_drew ?_)))
             (case side8 => exact (Kd.V_reads' HO_457002.out).2.1)
             rintro e w22 ⟨rfl, hb⟩
             have HS3_ := (hb.cell (World.block_lt_of_cell? _ _ (hHeld.2.2.2.1))).trans (hHeld.2.2.2.1)
             have HS4_ := (hb.cell (World.block_lt_of_cell? _ _ (hHeld.2.2.2.2.1))).trans (hHeld.2.2.2.2.1)
             have HS5_ := (hb.cell (World.block_lt_of_cell? _ _ (hHeld.2.2.2.2.2.1))).trans (hHeld.2.2.2.2.2.1)
             have HS6_ := (hb.cell (World.block_lt_of_cell? _ _ (hHeld.2.2.2.2.2.2))).trans (hHeld.2.2.2.2.2.2)
             refine ⟨_, rfl, ?_⟩
             have n0_ := Aside0.mk (Kd.V_below (by (with_reducible repeat (first | apply Kd.V_alloc | apply Kd.V_drewN | apply Kd.V_drew)); exact HO_0.out) hb)
             have n1_ := Aside0.mk (Kd.V_below (by (with_reducible repeat (first | apply Kd.V_alloc | apply Kd.V_drewN | apply Kd.V_drew)); exact HO_457001.out) hb)
             have n2_ := Aside0.mk (Kd.V_below (by (with_reducible repeat (first | apply Kd.V_alloc | apply Kd.V_drewN | apply Kd.V_drew)); exact HO_457002.out) hb)
             have n3_ := Aside0.mk (Kd.V_below (by (with_reducible repeat (first | apply Kd.V_alloc | apply Kd.V_drewN | apply Kd.V_drew)); exact HL457_1.out) hb)
             have n4_ := Aside0.mk (Kd.V_below (by (with_reducible repeat (first | apply Kd.V_alloc | apply Kd.V_drewN | apply Kd.V_drew)); exact HL457_2.out) hb)
             have n5_ := Aside0.mk (blk_below (bk_ BK456.out) hb)
             have n6_ := Aside0.mk (Kd.C_below (by repeat (first | (with_reducible exact HR457_1.out) | (with_reducible refine Kd.C_alloc ?_ _) | (with_reducible refine Kd.C_drewN ?_ _) | (with_reducible refine Kd.C_drew ?_) | exact HR457_1.out)) hb)
             have n7_ := Aside0.mk (Kd.C_below (by repeat (first | (with_reducible exact HR457_2.out) | (with_reducible refine Kd.C_alloc ?_ _) | (with_reducible refine Kd.C_drewN ?_ _) | (with_reducible refine Kd.C_drew ?_) | exact HR457_2.out)) hb)
             have n8_ := Aside0.mk (below_step (bw_ HB.out) hb)
             clear HO_0
             clear HO_457001
             clear HO_457002
             clear HL457_1
             clear HL457_2
             clear BK456
             clear HR457_1
             clear HR457_2
             clear HB
             have HO_0 := n0_
             have HO_457001 := n1_
             have HO_457002 := n2_
             have HL457_1 := n3_
             have HL457_2 := n4_
             have BK456 := n5_
             have HR457_1 := n6_
             have HR457_2 := n7_
             have HB := n8_
             clear n0_ n1_ n2_ n3_ n4_ n5_ n6_ n7_ n8_
             (try clear hb)
             (try clear hb2)
             (try clear hk)
             (try clear hi)
             refine hK.out _ _ ⟨(blk_cell BK456.out 0).trans rfl, (blk_cell BK456.out 1).trans rfl, (blk_cell BK456.out 2).trans rfl, HS3_, HS4_, HS5_, HS6_⟩ (fun hHeld => ?_)
             clear hK K
             refine norm_ (a' := ?_) ?_ ?_
             rotate_left
             ·show Act.put _ (some 20) _ = _
              simp only [Act.put, q1_, q2_, q3_, i64_w, i32_w]
              rfl
             refine pure_ (i := 12) (N := some 21) (v := ?_) (a' := ?_) #[true, true, true, true, true, true, true, true, true, true, true, true, true, false] rfl rfl (any_of HT_.out (by kernel_rfl)) (fun _ _ _ h => h) (Or.inl ⟨by rfl, ?_⟩) ?_ ?_
             rotate_left
             ·intro w'
              go_simp
              with_reducible rfl
             rotate_left
             ·simp only [Act.put, q1_, q2_, q3_, i64_w, i32_w]
              rfl
             refine pure_ (i := 13) (N := some 22) (v := ?_) (a' := ?_) #[true, true, true, true, true, true, true, true, true, true, true, true, true, true] rfl rfl (any_of HT_.out (by kernel_rfl)) (fun _ _ _ h => h) (Or.inl ⟨by rfl, ?_⟩) ?_ ?_
             rotate_left
             ·intro w'
              go_simp
              with_reducible rfl
             rotate_left
             ·simp only [Act.put, q1_, q2_, q3_, i64_w, i32_w]
              rfl
             refine done_ (done_of HT_.out (by kernel_rfl)) ?_
             have q23 : (x7_1 : Int) ≤ ((l0.length : Int) : Int) := of_decide_eq_true (by assumption)
             obtain ⟨i023, hi023, _, hsz23, _⟩ := info_parts info44
             have hroom23 : l0.length ≤ c0 := (Kd.V_reads' HO_0.out).2.1
             have hC23 : Kd.F k44 _ _ (some ad457) l0.length l0 := (Kd.V_at (base := w.heap.size) HO_0.out).2.2
             have hcut23 := cut_to (P := Try.prog) 24 44 .i64 Try.underlying24 hi023 (some ad457) l0.length c0 x7_1 (of_decide_eq_true (by assumption)) q23 hroom23
             have hr23 := Kd.F_take (m := (x7_1 : Int).toNat) hC23 (by omega)
             have hy23 : y459.length = (x7_1 : Int).toNat := (by rw [Ny459.out, List.length_take]; omega)
             rw [← Ny459.out] at hr23
             rw [← hy23] at hcut23
             have HO463 := Aside0.mk (show Kd.V k44 44 _ w.heap.size _ (.slice (some ad457) y459.length c0) y459 from Kd.V_mk (by omega) hr23)
             have HC463 := Aside0.mk (show y459.length ≤ c0 from by omega)
             clear hr23 hC23 hroom23 hi023 hsz23
             have KY23 := Aside0.mk hy23
             clear hy23
             replace q23 := eq_true q23
             try go_wp2_with (first | ((with_reducible refine gate_builtin (b := .append) (xs := #[.tmp 25, .tmp 28]) rfl ?_); at_builtin; refine Kd.N_append_rows k44 (w0 := w) w.heap.size rfl (.tmp 25) (.tmp 28) 24 44 (.agg #[(.int .i64 0), (.slice none 0 0), (.slice none 0 0), (.int .u64 0)]) 64 rfl Try.underlying24 info44 rfl (by decide) (by omega) (.slice none 0 0) ([] : List (S44)) y459 _ _ _ (fun k_ => ((P0_ k_ ∨ P1_1_ k_ ∨ P1_2_ k_) ∨ w.heap.size ≤ k_) ∧ k_ ≠ gb456) (fun k_ => ((fun k_ => ((P0_ k_ ∨ P1_1_ k_ ∨ P1_2_ k_) ∨ w.heap.size ≤ k_) ∧ k_ ≠ gb456)) k_ ∧ some k_ ≠ (.slice none 0 0 : Value).ownBlock) rfl rfl ?aO ?aR (fun _ hk => hk) ?aF ?aB ?aS ?aL ?_; (case aR => exact (by skip; exact Kd.V_F (Kd.V_mono (ok' := (fun k_ => ((fun k_ => ((P0_ k_ ∨ P1_1_ k_ ∨ P1_2_ k_) ∨ w.heap.size ≤ k_) ∧ k_ ≠ gb456)) k_ ∧ some k_ ≠ (.slice none 0 0 : Value).ownBlock)) (HO463.out) (fun k_ hk => ⟨⟨hk.1, hk.2⟩, (by simp [Value.ownBlock])⟩)))); (case aB => exact (bw_ HB.out)); (case aF => exact (fun k_ hk => ⟨(.inr (Nat.le_trans (below_size (bw_ HB.out)) hk)), Kd.freshB (g := gb456) (o := .cells #[.int .i64 a1_0, .slice A1_1 l1_1.length c1_1, .slice A1_2 l1_2.length c1_2] 42 (0, 0)) (bk_ BK456.out) k_ hk⟩)); (case aO => exact ((Kd.N_nil _ _ _ _ (fun k_ => ((P0_ k_ ∨ P1_1_ k_ ∨ P1_2_ k_) ∨ w.heap.size ≤ k_) ∧ k_ ≠ gb456)))); (case aS => exact (below_size (bw_ HB.out))); (case aL => have := LMc13.out; omega); intro v465 w24 ho hb hg hat; rw [← Ny464.out] at ho; have n0_ := Aside0.mk (Kd.V_afterv (Kd.V_apart_nil (by (with_reducible repeat (first | apply Kd.V_alloc | apply Kd.V_drewN | apply Kd.V_drew)); exact HO_0.out)) hg hat); have n1_ := Aside0.mk (Kd.V_afterv (Kd.V_apart_nil (by (with_reducible repeat (first | apply Kd.V_alloc | apply Kd.V_drewN | apply Kd.V_drew)); exact HO_457001.out)) hg hat); have n2_ := Aside0.mk (Kd.V_afterv (Kd.V_apart_nil (by (with_reducible repeat (first | apply Kd.V_alloc | apply Kd.V_drewN | apply Kd.V_drew)); exact HO_457002.out)) hg hat); have n3_ := Aside0.mk (blk_grown (g := gb456) (o := .cells #[.int .i64 a1_0, .slice A1_1 l1_1.length c1_1, .slice A1_2 l1_2.length c1_2] 42 (0, 0)) (bk_ BK456.out) hg (by simp [Value.ownBlock])); have n4_ := Aside0.mk (Kd.V_afterv (Kd.V_apart_nil (by (with_reducible repeat (first | apply Kd.V_alloc | apply Kd.V_drewN | apply Kd.V_drew)); exact HL457_1.out)) hg hat); have n5_ := Aside0.mk (Kd.V_afterv (Kd.V_apart_nil (by (with_reducible repeat (first | apply Kd.V_alloc | apply Kd.V_drewN | apply Kd.V_drew)); exact HL457_2.out)) hg hat); have n6_ := Aside0.mk (Kd.V_afterv (Kd.V_apart_nil (by (with_reducible repeat (first | apply Kd.V_alloc | apply Kd.V_drewN | apply Kd.V_drew)); exact HO463.out)) hg hat); have n7_ := Aside0.mk (hb); have n8_ := Aside0.mk (ho); clear HO_0 HO_457001 HO_457002 BK456 HL457_1 HL457_2 HO463 HB; have HO_0 := n0_; have HO_457001 := n1_; have HO_457002 := n2_; have BK456 := n3_; have HL457_1 := n4_; have HL457_2 := n5_; have HO463 := n6_; have HB := n7_; have HO466 := n8_; clear n0_ n1_ n2_ n3_ n4_ n5_ n6_ n7_ n8_; clear ho hb hg hat))
             have n0_ := Aside0.mk (Kd.V_drew HO_0.out)
             have n1_ := Aside0.mk (Kd.V_drew HO_457001.out)
             have n2_ := Aside0.mk (Kd.V_drew HO_457002.out)
             have n3_ := Aside0.mk (Kd.V_drew HL457_1.out)
             have n4_ := Aside0.mk (Kd.V_drew HL457_2.out)
             have n5_ := Aside0.mk (Kd.V_drew HO463.out)
             have n6_ := Aside0.mk (Kd.N_drew HO466.out)
             have n7_ := Aside0.mk (blk_drew BK456.out)
             have n8_ := Aside0.mk (below_drew1 HB.out)
             clear HO_0
             clear HO_457001
             clear HO_457002
             clear HL457_1
             clear HL457_2
             clear HO463
             clear HO466
             clear BK456
             clear HB
             have HO_0 := n0_
             have HO_457001 := n1_
             have HO_457002 := n2_
             have HL457_1 := n3_
             have HL457_2 := n4_
             have HO463 := n5_
             have HO466 := n6_
             have BK456 := n7_
             have HB := n8_
             clear n0_ n1_ n2_ n3_ n4_ n5_ n6_ n7_ n8_
             have p467 : 0 ≤ (x7_1 : Int) := of_decide_eq_true (by assumption)
             have q467 : x7_1 < (l0.length : Int) := of_decide_eq_true (by assumption)
             obtain ⟨ad467, A467_1, c467_1, A467_2, c467_2, e467, hx467_0, hx467_1, hx467_2, hx467_3, hl467_1, hi467_1, hl467_2, hi467_2⟩ := at_T44 (Kd.V_reads' HO_0.out).2.2 x7_1 p467 q467
             obtain rfl : ad457 = ad467 := (by injection e467)
             obtain ⟨ce467, hce467, hMe467, hcc467⟩ := Kd.V_get HO_0.out z44 x7_1 p467 (by first | exact q467 | exact of_decide_eq_true (by assumption) | (have e_ := (Kd.V_reads' HO_0.out).1; omega))
             obtain ⟨ua467_1, uc467_1, ua467_2, uc467_2, rfl, ul467_1, ge467_1, ul467_2, ge467_2⟩ := k44_openF hMe467
             have hv467_1 := hcc467 1 _ rfl
             rw [add_field _ _ 1 (by omega)] at hv467_1
             replace hv467_1 := Option.some.inj (hv467_1.symm.trans hx467_1)
             injection hv467_1 with hva_ hvn_ hvc_
             rw [hva_] at ge467_1
             rw [hvc_] at ul467_1
             have HL467_1 := Aside0.mk (show Kd.V Kd.string 9 _ w.heap.size _ _ ((rd_T44 l0 x7_1).f0.f1) from Kd.V_mk ul467_1 ge467_1)
             clear hva_ hvn_ hvc_ ge467_1 ul467_1
             have hv467_2 := hcc467 2 _ rfl
             rw [add_field _ _ 2 (by omega)] at hv467_2
             replace hv467_2 := Option.some.inj (hv467_2.symm.trans hx467_2)
             injection hv467_2 with hva_ hvn_ hvc_
             rw [hva_] at ge467_2
             rw [hvc_] at ul467_2
             have HL467_2 := Aside0.mk (show Kd.V (Kd.int .i64) 2 _ w.heap.size _ _ ((rd_T44 l0 x7_1).f0.f2) from Kd.V_mk ul467_2 ge467_2)
             clear hva_ hvn_ hvc_ ge467_2 ul467_2
             clear hcc467 hce467
             have HR467_1 := Aside0.mk hi467_1
             have HC467_1 := Aside0.mk hl467_1
             clear hi467_1 hl467_1
             have HR467_2 := Aside0.mk hi467_2
             have HC467_2 := Aside0.mk hl467_2
             clear hi467_2 hl467_2
             replace p467 := eq_true p467
             replace q467 := eq_true q467
             refine start_ (n := 14) (S := fun w' => w'.cell? ⟨gb456, 0, none⟩ = some (.int .i64 a1_0) ∧ w'.cell? ⟨gb456, 1, none⟩ = some (.slice A1_1 l1_1.length c1_1) ∧ w'.cell? ⟨gb456, 2, none⟩ = some (.slice A1_2 l1_2.length c1_2) ∧ w'.cell? (ad457.add ((x7_1).toNat * 4)) = some (.int .i64 ((rd_T44 l0 x7_1).f0.f0)) ∧ w'.cell? ⟨(ad457.add ((x7_1).toNat * 4)).block, (ad457.add ((x7_1).toNat * 4)).off + 1, none⟩ = some (.slice A467_1 ((rd_T44 l0 x7_1).f0.f1).length c467_1) ∧ w'.cell? ⟨(ad457.add ((x7_1).toNat * 4)).block, (ad457.add ((x7_1).toNat * 4)).off + 2, none⟩ = some (.slice A467_2 ((rd_T44 l0 x7_1).f0.f2).length c467_2) ∧ w'.cell? ⟨(ad457.add ((x7_1).toNat * 4)).block, (ad457.add ((x7_1).toNat * 4)).off + 3, none⟩ = some (.int .u64 ((rd_T44 l0 x7_1).f1))) (ds := []) #[false, false, false, false, false, false, false, false, false, false, false, false, false, false] (by kernel_rfl) rfl rfl ⟨(blk_cell BK456.out 0).trans rfl, (blk_cell BK456.out 1).trans rfl, (blk_cell BK456.out 2).trans rfl, hx467_0, hx467_1, hx467_2, hx467_3⟩ (fun hHeld => ?_); refine with_tabW gristmillref04_Put.tab6 gristmillref04_Put.bits6 (fun HT_ HW_ => ?_)
             generalize w24.drew = w25 at HO_0 HO_457001 HO_457002 HL457_1 HL457_2 HO463 HO466 BK456 HB HL467_1 HL467_2 HR467_1 HR467_2 hx467_0 hx467_1 hx467_2 hx467_3 hHeld ⊢
             refine pure_ (i := 0) (N := some 30) (v := ?_) (a' := ?_) #[true, false, false, false, false, false, false, false, false, false, false, false, false, false] rfl rfl (any_of HT_.out (by kernel_rfl)) (fun _ _ _ h => h) (Or.inl ⟨by rfl, ?_⟩) ?_ ?_
             rotate_left
             ·intro w'
              go_simp
              with_reducible rfl
             rotate_left
             ·simp only [Act.put, q1_, q2_, q3_, i64_w, i32_w]
              rfl
             refine pure_ (i := 1) (N := some 31) (v := ?_) (a' := ?_) #[true, true, false, false, false, false, false, false, false, false, false, false, false, false] rfl rfl (any_of HT_.out (by kernel_rfl)) (fun _ _ _ h => h) (Or.inl ⟨by rfl, ?_⟩) ?_ ?_
             rotate_left
             ·intro w'
              go_simp
              with_reducible rfl
             rotate_left
             ·simp only [Act.put, q1_, q2_, q3_, i64_w, i32_w]
              rfl
             refine pure_ (i := 2) (N := some 32) (v := ?_) (a' := ?_) #[true, true, true, false, false, false, false, false, false, false, false, false, false, false] rfl rfl (any_of HT_.out (by kernel_rfl)) (fun _ _ _ h => h) (Or.inl ⟨by rfl, ?_⟩) ?_ ?_
             rotate_left
             ·intro w'
              go_simp
              with_reducible rfl
             rotate_left
             ·simp only [Act.put, q1_, q2_, q3_, i64_w, i32_w]
              rfl
             refine pure_ (i := 3) (N := some 33) (v := ?_) (a' := ?_) #[true, true, true, true, false, false, false, false, false, false, false, false, false, false] rfl rfl (any_of HT_.out (by kernel_rfl)) (fun _ _ _ h => h) (Or.inl ⟨by rfl, ?_⟩) ?_ ?_
             rotate_left
             ·intro w'
              go_simp
              with_reducible rfl
             rotate_left
             ·simp only [Act.put, q1_, q2_, q3_, i64_w, i32_w]
              rfl
             refine pure_ (i := 4) (N := some 34) (v := ?_) (a' := ?_) #[true, true, true, true, true, false, false, false, false, false, false, false, false, false] rfl rfl (any_of HT_.out (by kernel_rfl)) (fun _ _ _ h => h) (Or.inl ⟨by rfl, ?_⟩) ?_ ?_
             rotate_left
             ·intro w'
              go_simp
              with_reducible rfl
             rotate_left
             ·simp only [Act.put, q1_, q2_, q3_, i64_w, i32_w]
              rfl
             refine pure_ (i := 5) (N := some 35) (v := ?_) (a' := ?_) #[true, true, true, true, true, true, false, false, false, false, false, false, false, false] rfl rfl (any_of HT_.out (by kernel_rfl)) (fun _ _ _ h => h) (Or.inl ⟨by rfl, ?_⟩) ?_ ?_
             rotate_left
             ·intro w'
              go_simp
              with_reducible rfl
             rotate_left
             ·simp only [Act.put, q1_, q2_, q3_, i64_w, i32_w]
              rfl
             refine pure_ (i := 6) (N := some 36) (v := ?_) (a' := ?_) #[true, true, true, true, true, true, true, false, false, false, false, false, false, false] rfl rfl (any_of HT_.out (by kernel_rfl)) (fun _ _ _ h => h) (Or.inl ⟨by rfl, ?_⟩) ?_ ?_
             rotate_left
             ·intro w'
              go_simp
              with_reducible rfl
             rotate_left
             ·simp only [Act.put, q1_, q2_, q3_, i64_w, i32_w]
              rfl
             refine pure_ (i := 7) (N := some 37) (v := ?_) (a' := ?_) #[true, true, true, true, true, true, true, true, false, false, false, false, false, false] rfl rfl (any_of HT_.out (by kernel_rfl)) (fun _ _ _ h => h) (Or.inl ⟨by rfl, ?_⟩) ?_ ?_
             rotate_left
             ·intro w'
              go_simp
              with_reducible rfl
             rotate_left
             ·simp only [Act.put, q1_, q2_, q3_, i64_w, i32_w]
              rfl
             refine pure_ (i := 8) (N := some 38) (v := ?_) (a' := ?_) #[true, true, true, true, true, true, true, true, true, false, false, false, false, false] rfl rfl (any_of HT_.out (by kernel_rfl)) (fun _ _ _ h => h) (Or.inl ⟨by rfl, ?_⟩) ?_ ?_
             rotate_left
             ·intro w'
              go_simp
              with_reducible rfl
             rotate_left
             ·simp only [Act.put, q1_, q2_, q3_, i64_w, i32_w]
              rfl
             refine take_ (i := 9) (N := some 39) (v := ?_) (a' := ?_) #[true, true, true, true, true, true, true, true, true, true, false, false, false, false] rfl rfl (take_ofW HT_.out HW_.out (by kernel_rfl)) (fun _ _ _ h => h) (Or.inl ⟨by rfl, ?_⟩) hHeld ?_ ?_
             rotate_left
             ·rintro w' ⟨s0, s1, s2, s3, s4, s5, s6⟩
              go_simp
              with_reducible rfl
             rotate_left
             ·simp only [Act.put, q1_, q2_, q3_, i64_w, i32_w]
              rfl
             refine take_ (i := 10) (N := some 40) (v := ?_) (a' := ?_) #[true, true, true, true, true, true, true, true, true, true, true, false, false, false] rfl rfl (take_ofW HT_.out HW_.out (by kernel_rfl)) (fun _ _ _ h => h) (Or.inl ⟨by rfl, ?_⟩) hHeld ?_ ?_
             rotate_left
             ·rintro w' ⟨s0, s1, s2, s3, s4, s5, s6⟩
              go_simp
              with_reducible rfl
             rotate_left
             ·simp only [Act.put, q1_, q2_, q3_, i64_w, i32_w]
              rfl
             refine one_ (i := 11) (N := some 41) #[true, true, true, true, true, true, true, true, true, true, true, true, false, false] rfl rfl (one_of HT_.out (by kernel_rfl)) (by decide) (fun K hK => ?_)
             refine goes_ Try.func43 (by kernel_rfl) rfl #[.agg #[.int .i64 ((rd_T44 l0 x7_1).f0.f0), .slice A467_1 ((rd_T44 l0 x7_1).f0.f1).length c467_1, .slice A467_2 ((rd_T44 l0 x7_1).f0.f2).length c467_2], .agg #[.int .i64 a1_0, .slice A1_1 l1_1.length c1_1, .slice A1_2 l1_2.length c1_2]] (by rfl) rfl rfl (by (try simp only [List.map_toArray, List.map_cons, List.map_nil]); first | done | rfl | (simp only [List.length_drop, List.length_take]; rfl)) ?_
             with_reducible refine (gristmillref04_Compare.calls k1 ((rd_T44 l0 x7_1).f0.f0) _ _ ((rd_T44 l0 x7_1).f0.f1) _ _ ((rd_T44 l0 x7_1).f0.f2) a1_0 _ _ l1_1 _ _ l1_2 t468 _ ?side1 ?side2 ?side3 ?side4 ?side5 ?side6 ?side7 ?side8 A14.out).mono ?_
             (case side1 => repeat (first | exact (by repeat (first | (with_reducible exact HR467_1.out) | (with_reducible refine Kd.C_alloc ?_ _) | (with_reducible refine Kd.C_drewN ?_ _) | (with_reducible refine Kd.C_drew ?_) | exact HR467_1.out)) | (with_reducible refine Kd.C_alloc ?_ _) | (with_reducible refine Kd.C_drewN ?_ _) | (with_reducible refine Kd.C_drew ?_)))
             (case side2 => exact HC467_1.out)
             (case side3 => repeat (first | exact (by repeat (first | (with_reducible exact HR467_2.out) | (with_reducible refine Kd.C_alloc ?_ _) | (with_reducible refine Kd.C_drewN ?_ _) | (with_reducible refine Kd.C_drew ?_) | exact HR467_2.out)) | (with_reducible refine Kd.C_alloc ?_ _) | (with_reducible refine Kd.C_drewN ?_ _) | (with_reducible refine Kd.C_drew ?_)))
             (case side4 => exact HC467_2.out)
             (case side5 => repeat (first | exact (Kd.V_reads' HO_457001.out).2.2 | (with_reducible refine Kd.C_alloc ?_ _) | (with_reducible refine Kd.C_drewN ?_ _) | (with_reducible refine Kd.C_drew ?_)))
             (case side6 => exact (Kd.V_reads' HO_457001.out).2.1)
             (case side7 => repeat (first | exact (Kd.V_reads' HO_457002.out).2.2 | (with_reducible refine Kd.C_alloc ?_ _) | (with_reducible refine Kd.C_drewN ?_ _) | (with_reducible refine Kd.C_drew ?_)))
             (case side8 => exact (Kd.V_reads' HO_457002.out).2.1)
             rintro e w26 ⟨rfl, hb⟩
             have HS3_ := (hb.cell (World.block_lt_of_cell? _ _ (hHeld.2.2.2.1))).trans (hHeld.2.2.2.1)
             have HS4_ := (hb.cell (World.block_lt_of_cell? _ _ (hHeld.2.2.2.2.1))).trans (hHeld.2.2.2.2.1)
             have HS5_ := (hb.cell (World.block_lt_of_cell? _ _ (hHeld.2.2.2.2.2.1))).trans (hHeld.2.2.2.2.2.1)
             have HS6_ := (hb.cell (World.block_lt_of_cell? _ _ (hHeld.2.2.2.2.2.2))).trans (hHeld.2.2.2.2.2.2)
             refine ⟨_, rfl, ?_⟩
             have n0_ := Aside0.mk (Kd.V_below (by (with_reducible repeat (first | apply Kd.V_alloc | apply Kd.V_drewN | apply Kd.V_drew)); exact HO_0.out) hb)
             have n1_ := Aside0.mk (Kd.V_below (by (with_reducible repeat (first | apply Kd.V_alloc | apply Kd.V_drewN | apply Kd.V_drew)); exact HO_457001.out) hb)
             have n2_ := Aside0.mk (Kd.V_below (by (with_reducible repeat (first | apply Kd.V_alloc | apply Kd.V_drewN | apply Kd.V_drew)); exact HO_457002.out) hb)
             have n3_ := Aside0.mk (Kd.V_below (by (with_reducible repeat (first | apply Kd.V_alloc | apply Kd.V_drewN | apply Kd.V_drew)); exact HL457_1.out) hb)
             have n4_ := Aside0.mk (Kd.V_below (by (with_reducible repeat (first | apply Kd.V_alloc | apply Kd.V_drewN | apply Kd.V_drew)); exact HL457_2.out) hb)
             have n5_ := Aside0.mk (Kd.V_below (by (with_reducible repeat (first | apply Kd.V_alloc | apply Kd.V_drewN | apply Kd.V_drew)); exact HO463.out) hb)
             have n6_ := Aside0.mk (Kd.N_below (by (with_reducible repeat (first | apply Kd.N_alloc | apply Kd.N_drewN | apply Kd.N_drew)); exact HO466.out) hb)
             have n7_ := Aside0.mk (Kd.V_below (by (with_reducible repeat (first | apply Kd.V_alloc | apply Kd.V_drewN | apply Kd.V_drew)); exact HL467_1.out) hb)
             have n8_ := Aside0.mk (Kd.V_below (by (with_reducible repeat (first | apply Kd.V_alloc | apply Kd.V_drewN | apply Kd.V_drew)); exact HL467_2.out) hb)
             have n9_ := Aside0.mk (blk_below (bk_ BK456.out) hb)
             have n10_ := Aside0.mk (Kd.C_below (by repeat (first | (with_reducible exact HR467_1.out) | (with_reducible refine Kd.C_alloc ?_ _) | (with_reducible refine Kd.C_drewN ?_ _) | (with_reducible refine Kd.C_drew ?_) | exact HR467_1.out)) hb)
             have n11_ := Aside0.mk (Kd.C_below (by repeat (first | (with_reducible exact HR467_2.out) | (with_reducible refine Kd.C_alloc ?_ _) | (with_reducible refine Kd.C_drewN ?_ _) | (with_reducible refine Kd.C_drew ?_) | exact HR467_2.out)) hb)
             have n12_ := Aside0.mk (below_step (bw_ HB.out) hb)
             clear HO_0
             clear HO_457001
             clear HO_457002
             clear HL457_1
             clear HL457_2
             clear HO463
             clear HO466
             clear HL467_1
             clear HL467_2
             clear BK456
             clear HR467_1
             clear HR467_2
             clear HB
             have HO_0 := n0_
             have HO_457001 := n1_
             have HO_457002 := n2_
             have HL457_1 := n3_
             have HL457_2 := n4_
             have HO463 := n5_
             have HO466 := n6_
             have HL467_1 := n7_
             have HL467_2 := n8_
             have BK456 := n9_
             have HR467_1 := n10_
             have HR467_2 := n11_
             have HB := n12_
             clear n0_ n1_ n2_ n3_ n4_ n5_ n6_ n7_ n8_ n9_ n10_ n11_ n12_
             (try clear hb)
             (try clear hb2)
             (try clear hk)
             (try clear hi)
             refine hK.out _ _ ⟨(blk_cell BK456.out 0).trans rfl, (blk_cell BK456.out 1).trans rfl, (blk_cell BK456.out 2).trans rfl, HS3_, HS4_, HS5_, HS6_⟩ (fun hHeld => ?_)
             clear hK K
             refine norm_ (a' := ?_) ?_ ?_
             rotate_left
             ·show Act.put _ (some 41) _ = _
              simp only [Act.put, q1_, q2_, q3_, i64_w, i32_w]
              rfl
             refine pure_ (i := 12) (N := some 42) (v := ?_) (a' := ?_) #[true, true, true, true, true, true, true, true, true, true, true, true, true, false] rfl rfl (any_of HT_.out (by kernel_rfl)) (fun _ _ _ h => h) (Or.inl ⟨by rfl, ?_⟩) ?_ ?_
             rotate_left
             ·intro w'
              go_simp
              with_reducible rfl
             rotate_left
             ·simp only [Act.put, q1_, q2_, q3_, i64_w, i32_w]
              rfl
             refine pure_ (i := 13) (N := some 43) (v := ?_) (a' := ?_) #[true, true, true, true, true, true, true, true, true, true, true, true, true, true] rfl rfl (any_of HT_.out (by kernel_rfl)) (fun _ _ _ h => h) (Or.inl ⟨by rfl, ?_⟩) ?_ ?_
             rotate_left
             ·intro w'
              go_simp
              with_reducible rfl
             rotate_left
             ·simp only [Act.put, q1_, q2_, q3_, i64_w, i32_w]
              rfl
             refine done_ (done_of HT_.out (by kernel_rfl)) ?_
             try go_wp2
             have n0_ := Aside0.mk (Kd.V_drew HO_0.out)
             have n1_ := Aside0.mk (Kd.V_drew HO_457001.out)
             have n2_ := Aside0.mk (Kd.V_drew HO_457002.out)
             have n3_ := Aside0.mk (Kd.V_drew HL457_1.out)
             have n4_ := Aside0.mk (Kd.V_drew HL457_2.out)
             have n5_ := Aside0.mk (Kd.V_drew HO463.out)
             have n6_ := Aside0.mk (Kd.N_drew HO466.out)
             have n7_ := Aside0.mk (Kd.V_drew HL467_1.out)
             have n8_ := Aside0.mk (Kd.V_drew HL467_2.out)
             have n9_ := Aside0.mk (blk_drew BK456.out)
             have n10_ := Aside0.mk (Kd.C_drew HR467_1.out)
             have n11_ := Aside0.mk (Kd.C_drew HR467_2.out)
             have n12_ := Aside0.mk (below_drew1 HB.out)
             clear HO_0
             clear HO_457001
             clear HO_457002
             clear HL457_1
             clear HL457_2
             clear HO463
             clear HO466
             clear HL467_1
             clear HL467_2
             clear BK456
             clear HR467_1
             clear HR467_2
             clear HB
             have HO_0 := n0_
             have HO_457001 := n1_
             have HO_457002 := n2_
             have HL457_1 := n3_
             have HL457_2 := n4_
             have HO463 := n5_
             have HO466 := n6_
             have HL467_1 := n7_
             have HL467_2 := n8_
             have BK456 := n9_
             have HR467_1 := n10_
             have HR467_2 := n11_
             have HB := n12_
             clear n0_ n1_ n2_ n3_ n4_ n5_ n6_ n7_ n8_ n9_ n10_ n11_ n12_
             have p469 : 0 ≤ (x7_1 : Int) := of_decide_eq_true (by assumption)
             have q469 : x7_1 < (l0.length : Int) := of_decide_eq_true (by assumption)
             obtain ⟨ad469, A469_1, c469_1, A469_2, c469_2, e469, hx469_0, hx469_1, hx469_2, hx469_3, hl469_1, hi469_1, hl469_2, hi469_2⟩ := at_T44 (Kd.V_reads' HO_0.out).2.2 x7_1 p469 q469
             obtain rfl : ad457 = ad469 := (by injection e469)
             obtain ⟨ce469, hce469, hMe469, hcc469⟩ := Kd.V_get HO_0.out z44 x7_1 p469 (by first | exact q469 | exact of_decide_eq_true (by assumption) | (have e_ := (Kd.V_reads' HO_0.out).1; omega))
             obtain ⟨ua469_1, uc469_1, ua469_2, uc469_2, rfl, ul469_1, ge469_1, ul469_2, ge469_2⟩ := k44_openF hMe469
             have hv469_1 := hcc469 1 _ rfl
             rw [add_field _ _ 1 (by omega)] at hv469_1
             replace hv469_1 := Option.some.inj (hv469_1.symm.trans hx469_1)
             injection hv469_1 with hva_ hvn_ hvc_
             rw [hva_] at ge469_1
             rw [hvc_] at ul469_1
             have HL469_1 := Aside0.mk (show Kd.V Kd.string 9 _ w.heap.size _ _ ((rd_T44 l0 x7_1).f0.f1) from Kd.V_mk ul469_1 ge469_1)
             clear hva_ hvn_ hvc_ ge469_1 ul469_1
             have hv469_2 := hcc469 2 _ rfl
             rw [add_field _ _ 2 (by omega)] at hv469_2
             replace hv469_2 := Option.some.inj (hv469_2.symm.trans hx469_2)
             injection hv469_2 with hva_ hvn_ hvc_
             rw [hva_] at ge469_2
             rw [hvc_] at ul469_2
             have HL469_2 := Aside0.mk (show Kd.V (Kd.int .i64) 2 _ w.heap.size _ _ ((rd_T44 l0 x7_1).f0.f2) from Kd.V_mk ul469_2 ge469_2)
             clear hva_ hvn_ hvc_ ge469_2 ul469_2
             clear hcc469 hce469
             have HR469_1 := Aside0.mk hi469_1
             have HC469_1 := Aside0.mk hl469_1
             clear hi469_1 hl469_1
             have HR469_2 := Aside0.mk hi469_2
             have HC469_2 := Aside0.mk hl469_2
             clear hi469_2 hl469_2
             replace p469 := eq_true p469
             replace q469 := eq_true q469
             refine start_ (n := 13) (S := fun w' => w'.cell? ⟨gb456, 0, none⟩ = some (.int .i64 a1_0) ∧ w'.cell? ⟨gb456, 1, none⟩ = some (.slice A1_1 l1_1.length c1_1) ∧ w'.cell? ⟨gb456, 2, none⟩ = some (.slice A1_2 l1_2.length c1_2) ∧ w'.cell? (ad457.add ((x7_1).toNat * 4)) = some (.int .i64 ((rd_T44 l0 x7_1).f0.f0)) ∧ w'.cell? ⟨(ad457.add ((x7_1).toNat * 4)).block, (ad457.add ((x7_1).toNat * 4)).off + 1, none⟩ = some (.slice A469_1 ((rd_T44 l0 x7_1).f0.f1).length c469_1) ∧ w'.cell? ⟨(ad457.add ((x7_1).toNat * 4)).block, (ad457.add ((x7_1).toNat * 4)).off + 2, none⟩ = some (.slice A469_2 ((rd_T44 l0 x7_1).f0.f2).length c469_2) ∧ w'.cell? ⟨(ad457.add ((x7_1).toNat * 4)).block, (ad457.add ((x7_1).toNat * 4)).off + 3, none⟩ = some (.int .u64 ((rd_T44 l0 x7_1).f1))) (ds := [10, 11]) #[false, false, false, false, false, false, false, false, false, false, false, false, false] (by kernel_rfl) rfl rfl ⟨(blk_cell BK456.out 0).trans rfl, (blk_cell BK456.out 1).trans rfl, (blk_cell BK456.out 2).trans rfl, hx469_0, hx469_1, hx469_2, hx469_3⟩ (fun hHeld => ?_); refine with_tabW gristmillref04_Put.tab7 gristmillref04_Put.bits7 (fun HT_ HW_ => ?_)
             generalize w26.drew = w27 at HO_0 HO_457001 HO_457002 HL457_1 HL457_2 HO463 HO466 HL467_1 HL467_2 BK456 HR467_1 HR467_2 HB HL469_1 HL469_2 HR469_1 HR469_2 hx469_0 hx469_1 hx469_2 hx469_3 hHeld ⊢
             refine pure_ (i := 0) (N := some 44) (v := ?_) (a' := ?_) #[true, false, false, false, false, false, false, false, false, false, false, false, false] rfl rfl (any_of HT_.out (by kernel_rfl)) (fun _ _ _ h => h) (Or.inl ⟨by rfl, ?_⟩) ?_ ?_
             rotate_left
             ·intro w'
              go_simp
              with_reducible rfl
             rotate_left
             ·simp only [Act.put, q1_, q2_, q3_, i64_w, i32_w]
              rfl
             refine pure_ (i := 2) (N := some 46) (v := ?_) (a' := ?_) #[true, false, true, false, false, false, false, false, false, false, false, false, false] rfl rfl (any_of HT_.out (by kernel_rfl)) (fun _ _ _ h => h) (Or.inl ⟨by rfl, ?_⟩) ?_ ?_
             rotate_left
             ·intro w'
              go_simp
              with_reducible rfl
             rotate_left
             ·simp only [Act.put, q1_, q2_, q3_, i64_w, i32_w]
              rfl
             refine pure_ (i := 3) (N := some 47) (v := ?_) (a' := ?_) #[true, false, true, true, false, false, false, false, false, false, false, false, false] rfl rfl (any_of HT_.out (by kernel_rfl)) (fun _ _ _ h => h) (Or.inl ⟨by rfl, ?_⟩) ?_ ?_
             rotate_left
             ·intro w'
              go_simp
              with_reducible rfl
             rotate_left
             ·simp only [Act.put, q1_, q2_, q3_, i64_w, i32_w]
              rfl
             refine pure_ (i := 4) (N := some 48) (v := ?_) (a' := ?_) #[true, false, true, true, true, false, false, false, false, false, false, false, false] rfl rfl (any_of HT_.out (by kernel_rfl)) (fun _ _ _ h => h) (Or.inl ⟨by rfl, ?_⟩) ?_ ?_
             rotate_left
             ·intro w'
              go_simp
              with_reducible rfl
             rotate_left
             ·simp only [Act.put, q1_, q2_, q3_, i64_w, i32_w]
              rfl
             refine pure_ (i := 5) (N := some 49) (v := ?_) (a' := ?_) #[true, false, true, true, true, true, false, false, false, false, false, false, false] rfl rfl (any_of HT_.out (by kernel_rfl)) (fun _ _ _ h => h) (Or.inl ⟨by rfl, ?_⟩) ?_ ?_
             rotate_left
             ·intro w'
              go_simp
              with_reducible rfl
             rotate_left
             ·simp only [Act.put, q1_, q2_, q3_, i64_w, i32_w]
              rfl
             refine pure_ (i := 7) (N := some 51) (v := ?_) (a' := ?_) #[true, false, true, true, true, true, false, true, false, false, false, false, false] rfl rfl (any_of HT_.out (by kernel_rfl)) (fun _ _ _ h => h) (Or.inl ⟨by rfl, ?_⟩) ?_ ?_
             rotate_left
             ·intro w'
              go_simp
              with_reducible rfl
             rotate_left
             ·simp only [Act.put, q1_, q2_, q3_, i64_w, i32_w]
              rfl
             refine take_ (i := 1) (N := some 45) (v := ?_) (a' := ?_) #[true, true, true, true, true, true, false, true, false, false, false, false, false] rfl rfl (take_ofW HT_.out HW_.out (by kernel_rfl)) (fun _ _ _ h => h) (Or.inl ⟨by rfl, ?_⟩) hHeld ?_ ?_
             rotate_left
             ·rintro w' ⟨s0, s1, s2, s3, s4, s5, s6⟩
              go_simp
              with_reducible rfl
             rotate_left
             ·simp only [Act.put, q1_, q2_, q3_, i64_w, i32_w]
              rfl
             refine take_ (i := 6) (N := some 50) (v := ?_) (a' := ?_) #[true, true, true, true, true, true, true, true, false, false, false, false, false] rfl rfl (take_ofW HT_.out HW_.out (by kernel_rfl)) (fun _ _ _ h => h) (Or.inl ⟨by rfl, ?_⟩) hHeld ?_ ?_
             rotate_left
             ·rintro w' ⟨s0, s1, s2, s3, s4, s5, s6⟩
              go_simp
              with_reducible rfl
             rotate_left
             ·simp only [Act.put, q1_, q2_, q3_, i64_w, i32_w]
              rfl
             refine pure_ (i := 8) (N := some 52) (v := ?_) (a' := ?_) #[true, true, true, true, true, true, true, true, true, false, false, false, false] rfl rfl (any_of HT_.out (by kernel_rfl)) (fun _ _ _ h => h) (Or.inl ⟨by rfl, ?_⟩) ?_ ?_
             rotate_left
             ·intro w'
              go_simp
              with_reducible rfl
             rotate_left
             ·simp only [Act.put, q1_, q2_, q3_, i64_w, i32_w]
              rfl
             refine pure_ (i := 9) (N := some 53) (v := ?_) (a' := ?_) #[true, true, true, true, true, true, true, true, true, true, false, false, false] rfl rfl (any_of HT_.out (by kernel_rfl)) (fun _ _ _ h => h) (Or.inl ⟨by rfl, ?_⟩) ?_ ?_
             rotate_left
             ·intro w'
              go_simp
              with_reducible rfl
             rotate_left
             ·simp only [Act.put, q1_, q2_, q3_, i64_w, i32_w]
              rfl
             refine last_ (i := 10) (N := some 54) #[true, true, true, true, true, true, true, true, true, true, true, false, false] rfl rfl (one_of HT_.out (by kernel_rfl)) (by decide) (fun K hK => ?_)
             refine value_ (w1 := ?_) (v := ?_) (by rfl) rfl ?_ ?_
             rotate_left 2
             ·go_simp
              constructor
              ·rfl
              ·rfl
             refine hK.out _ _ ?_
             clear hK K
             refine norm_ (a' := ?_) ?_ ?_
             rotate_left
             ·show Act.put _ (some 54) _ = _
              simp only [Act.put, q1_, q2_, q3_, i64_w, i32_w]
              rfl
             refine last_ (i := 11) (N := some 55) #[true, true, true, true, true, true, true, true, true, true, true, true, false] rfl rfl (one_of HT_.out (by kernel_rfl)) (by decide) (fun K hK => ?_)
             refine Kd.N_append_step k44 (w0 := w) w.heap.size (by rfl) (.tmp 44) (.tmp 54) 24 44 (.agg #[(.int .i64 0), (.slice none 0 0), (.slice none 0 0), (.int .u64 0)]) 64 rfl Try.underlying24 info44 rfl (by decide) (by omega) v465 y464 (⟨(⟨a1_0, l1_1, l1_2⟩ : S42), IntKind.u64.wrap (((rd_T44 l0 x7_1).f1) + a2)⟩ : S44) [.int .i64 a1_0, .slice A1_1 l1_1.length c1_1, .slice A1_2 l1_2.length c1_2, .int .u64 (IntKind.u64.wrap (((rd_T44 l0 x7_1).f1) + a2))] (fun k_ => ((P0_ k_ ∨ P1_1_ k_ ∨ P1_2_ k_) ∨ w.heap.size ≤ k_) ∧ k_ ≠ gb456) (fun k_ => ((fun k_ => ((P0_ k_ ∨ P1_1_ k_ ∨ P1_2_ k_) ∨ w.heap.size ≤ k_) ∧ k_ ≠ gb456)) k_ ∧ some k_ ≠ (v465 : Value).ownBlock) rfl rfl ?aP (fun _ hk => hk) ?aF ?aO ?aB ?aS ?aL ?_
             (case aP => exact (k44_mkF _ _ (⟨(⟨a1_0, l1_1, l1_2⟩ : S42), IntKind.u64.wrap (((rd_T44 l0 x7_1).f1) + a2)⟩ : S44) (Kd.V_reads' (Kd.V_mono (ok' := (fun k_ => ((fun k_ => ((P0_ k_ ∨ P1_1_ k_ ∨ P1_2_ k_) ∨ w.heap.size ≤ k_) ∧ k_ ≠ gb456)) k_ ∧ some k_ ≠ (v465 : Value).ownBlock)) (HO_457001.out) (fun k_ hk => ⟨⟨hk.1.1, hk.1.2⟩, hk.2⟩))).2.1 (Kd.V_F (Kd.V_mono (ok' := (fun k_ => ((fun k_ => ((P0_ k_ ∨ P1_1_ k_ ∨ P1_2_ k_) ∨ w.heap.size ≤ k_) ∧ k_ ≠ gb456)) k_ ∧ some k_ ≠ (v465 : Value).ownBlock)) (HO_457001.out) (fun k_ hk => ⟨⟨hk.1.1, hk.1.2⟩, hk.2⟩))) (Kd.V_reads' (Kd.V_mono (ok' := (fun k_ => ((fun k_ => ((P0_ k_ ∨ P1_1_ k_ ∨ P1_2_ k_) ∨ w.heap.size ≤ k_) ∧ k_ ≠ gb456)) k_ ∧ some k_ ≠ (v465 : Value).ownBlock)) (HO_457002.out) (fun k_ hk => ⟨⟨hk.1.1, hk.1.2⟩, hk.2⟩))).2.1 (Kd.V_F (Kd.V_mono (ok' := (fun k_ => ((fun k_ => ((P0_ k_ ∨ P1_1_ k_ ∨ P1_2_ k_) ∨ w.heap.size ≤ k_) ∧ k_ ≠ gb456)) k_ ∧ some k_ ≠ (v465 : Value).ownBlock)) (HO_457002.out) (fun k_ hk => ⟨⟨hk.1.1, hk.1.2⟩, hk.2⟩)))))
             (case aB => exact (bw_ HB.out))
             (case aF => exact (fun k_ hk => ⟨(.inr (Nat.le_trans (below_size (bw_ HB.out)) hk)), Kd.freshB (g := gb456) (o := .cells #[.int .i64 a1_0, .slice A1_1 l1_1.length c1_1, .slice A1_2 l1_2.length c1_2] 42 (0, 0)) (bk_ BK456.out) k_ hk⟩))
             (case aO => exact (by (with_reducible repeat (first | apply Kd.N_alloc | apply Kd.N_drewN | apply Kd.N_drew)); exact HO466.out))
             (case aS => exact (below_size (bw_ HB.out)))
             (case aL => have := LMc16.out; omega)
             intro v471 w28 ho hb hg hat
             rw [← Ny470.out] at ho
             have n0_ := Aside0.mk (Kd.V_afterv (ok := (fun k_ => ((P0_ k_ ∨ P1_1_ k_ ∨ P1_2_ k_) ∨ w.heap.size ≤ k_) ∧ k_ ≠ gb456)) (by (with_reducible repeat (first | apply Kd.V_alloc | apply Kd.V_drewN | apply Kd.V_drew)); exact HO_0.out) hg hat)
             have n1_ := Aside0.mk (Kd.V_afterv (ok := (fun k_ => ((P0_ k_ ∨ P1_1_ k_ ∨ P1_2_ k_) ∨ w.heap.size ≤ k_) ∧ k_ ≠ gb456)) (by (with_reducible repeat (first | apply Kd.V_alloc | apply Kd.V_drewN | apply Kd.V_drew)); exact HO_457001.out) hg hat)
             have n2_ := Aside0.mk (Kd.V_afterv (ok := (fun k_ => ((P0_ k_ ∨ P1_1_ k_ ∨ P1_2_ k_) ∨ w.heap.size ≤ k_) ∧ k_ ≠ gb456)) (by (with_reducible repeat (first | apply Kd.V_alloc | apply Kd.V_drewN | apply Kd.V_drew)); exact HO_457002.out) hg hat)
             have n3_ := Aside0.mk (blk_grown (g := gb456) (o := .cells #[.int .i64 a1_0, .slice A1_1 l1_1.length c1_1, .slice A1_2 l1_2.length c1_2] 42 (0, 0)) (bk_ BK456.out) hg (Kd.N_ne HO466.out BK456.out (by decide)))
             have n4_ := Aside0.mk (Kd.V_afterv (ok := (fun k_ => ((P0_ k_ ∨ P1_1_ k_ ∨ P1_2_ k_) ∨ w.heap.size ≤ k_) ∧ k_ ≠ gb456)) (by (with_reducible repeat (first | apply Kd.V_alloc | apply Kd.V_drewN | apply Kd.V_drew)); exact HL457_1.out) hg hat)
             have n5_ := Aside0.mk (Kd.V_afterv (ok := (fun k_ => ((P0_ k_ ∨ P1_1_ k_ ∨ P1_2_ k_) ∨ w.heap.size ≤ k_) ∧ k_ ≠ gb456)) (by (with_reducible repeat (first | apply Kd.V_alloc | apply Kd.V_drewN | apply Kd.V_drew)); exact HL457_2.out) hg hat)
             have n6_ := Aside0.mk (Kd.V_afterv (ok := (fun k_ => ((P0_ k_ ∨ P1_1_ k_ ∨ P1_2_ k_) ∨ w.heap.size ≤ k_) ∧ k_ ≠ gb456)) (by (with_reducible repeat (first | apply Kd.V_alloc | apply Kd.V_drewN | apply Kd.V_drew)); exact HO463.out) hg hat)
             have n7_ := Aside0.mk (Kd.V_afterv (ok := (fun k_ => ((P0_ k_ ∨ P1_1_ k_ ∨ P1_2_ k_) ∨ w.heap.size ≤ k_) ∧ k_ ≠ gb456)) (by (with_reducible repeat (first | apply Kd.V_alloc | apply Kd.V_drewN | apply Kd.V_drew)); exact HL467_1.out) hg hat)
             have n8_ := Aside0.mk (Kd.V_afterv (ok := (fun k_ => ((P0_ k_ ∨ P1_1_ k_ ∨ P1_2_ k_) ∨ w.heap.size ≤ k_) ∧ k_ ≠ gb456)) (by (with_reducible repeat (first | apply Kd.V_alloc | apply Kd.V_drewN | apply Kd.V_drew)); exact HL467_2.out) hg hat)
             have n9_ := Aside0.mk (Kd.V_afterv (ok := (fun k_ => ((P0_ k_ ∨ P1_1_ k_ ∨ P1_2_ k_) ∨ w.heap.size ≤ k_) ∧ k_ ≠ gb456)) (by (with_reducible repeat (first | apply Kd.V_alloc | apply Kd.V_drewN | apply Kd.V_drew)); exact HL469_1.out) hg hat)
             have n10_ := Aside0.mk (Kd.V_afterv (ok := (fun k_ => ((P0_ k_ ∨ P1_1_ k_ ∨ P1_2_ k_) ∨ w.heap.size ≤ k_) ∧ k_ ≠ gb456)) (by (with_reducible repeat (first | apply Kd.V_alloc | apply Kd.V_drewN | apply Kd.V_drew)); exact HL469_2.out) hg hat)
             have n11_ := Aside0.mk (hb)
             have n12_ := Aside0.mk (ho)
             clear HO_0
             clear HO_457001
             clear HO_457002
             clear BK456
             clear HL457_1
             clear HL457_2
             clear HO463
             clear HL467_1
             clear HL467_2
             clear HL469_1
             clear HL469_2
             clear HB
             clear HO466
             have HO_0 := n0_
             have HO_457001 := n1_
             have HO_457002 := n2_
             have BK456 := n3_
             have HL457_1 := n4_
             have HL457_2 := n5_
             have HO463 := n6_
             have HL467_1 := n7_
             have HL467_2 := n8_
             have HL469_1 := n9_
             have HL469_2 := n10_
             have HB := n11_
             have HO472 := n12_
             clear n0_ n1_ n2_ n3_ n4_ n5_ n6_ n7_ n8_ n9_ n10_ n11_ n12_
             clear ho hb hg hat
             refine hK.out _ _ ?_
             clear hK K
             refine norm_ (a' := ?_) ?_ ?_
             rotate_left
             ·show Act.put _ (some 55) _ = _
              simp only [Act.put, q1_, q2_, q3_, i64_w, i32_w]
              rfl
             refine pure_ (i := 12) (N := some 8) (v := ?_) (a' := ?_) #[true, true, true, true, true, true, true, true, true, true, true, true, true] rfl rfl (any_of HT_.out (by kernel_rfl)) (fun _ _ _ h => h) (Or.inl ⟨by rfl, ?_⟩) ?_ ?_
             rotate_left
             ·intro w'
              go_simp
              with_reducible rfl
             rotate_left
             ·simp only [Act.put, q1_, q2_, q3_, i64_w, i32_w]
              rfl
             refine done_ (done_of HT_.out (by kernel_rfl)) ?_
             have q29 : ((ji17) : Int) ≤ ((l0.length : Int) : Int) := of_decide_eq_true (by assumption)
             obtain ⟨i029, hi029, _, hsz29, _⟩ := info_parts info44
             have hroom29 : l0.length ≤ c0 := (Kd.V_reads' HO_0.out).2.1
             have hC29 : Kd.F k44 _ _ (some ad457) l0.length l0 := (Kd.V_at (base := w.heap.size) HO_0.out).2.2
             have q029 : (0 : Int) ≤ ((ji17) : Int) := of_decide_eq_true (by assumption)
             have hcut29 := cut_from (P := Try.prog) 24 44 .i64 Try.underlying24 hi029 4 hsz29 (some ad457) l0.length c0 (ji17) q029 q29
             have hr29 := Kd.F_cut (m := ((ji17) : Int).toNat) (c := c0) hC29 (by omega) hroom29
             obtain ⟨A29, hA29⟩ : ∃ A1, A1 = (if c0 = ((ji17) : Int).toNat then (some ad457) else ((some ad457) : Option Addr).map (·.add (((ji17) : Int).toNat * 4))) := ⟨_, rfl⟩
             obtain ⟨c29, hc29⟩ : ∃ c1, c1 = c0 - ((ji17) : Int).toNat := ⟨_, rfl⟩
             have hy29 : y473.length = l0.length - ((ji17) : Int).toNat := (by rw [Ny473.out, List.length_drop] <;> omega)
             rw [show (l0).drop ((ji17) : Int).toNat = y473 from Ny473.out.symm] at hr29
             replace hr29 : Kd.F k44 _ _ A29 y473.length y473 := (by rw [hA29]; exact hr29)
             rw [← hy29, ← hA29, ← hc29] at hcut29
             have HO477 := Aside0.mk (show Kd.V k44 44 _ w.heap.size _ (.slice A29 y473.length c29) y473 from Kd.V_mk (by rw [hy29, hc29]; exact Nat.sub_le_sub_right hroom29 _) hr29)
             have HC477 := Aside0.mk (show y473.length ≤ c29 from by rw [hy29, hc29]; exact Nat.sub_le_sub_right hroom29 _)
             clear hr29 hC29 hroom29 hi029 hsz29 hc29
             have KY29 := Aside0.mk hy29
             have KA29 := Aside0.mk hA29
             clear hy29 hA29
             replace q29 := eq_true q29
             try go_wp2_with (first | ((with_reducible refine gate_builtin (b := .append) (xs := #[.tmp 56, .tmp 60]) rfl ?_); at_builtin; refine Kd.N_append_rows k44 (w0 := w) w.heap.size rfl (.tmp 56) (.tmp 60) 24 44 (.agg #[(.int .i64 0), (.slice none 0 0), (.slice none 0 0), (.int .u64 0)]) 64 rfl Try.underlying24 info44 rfl (by decide) (by omega) v471 y470 y473 _ _ _ (fun k_ => ((P0_ k_ ∨ P1_1_ k_ ∨ P1_2_ k_) ∨ w.heap.size ≤ k_) ∧ k_ ≠ gb456) (fun k_ => ((fun k_ => ((P0_ k_ ∨ P1_1_ k_ ∨ P1_2_ k_) ∨ w.heap.size ≤ k_) ∧ k_ ≠ gb456)) k_ ∧ some k_ ≠ (v471 : Value).ownBlock) rfl rfl ?aO ?aR (fun _ hk => hk) ?aF ?aB ?aS ?aL ?_; (case aR => exact (by skip; exact Kd.V_F (Kd.V_mono (ok' := (fun k_ => ((fun k_ => ((P0_ k_ ∨ P1_1_ k_ ∨ P1_2_ k_) ∨ w.heap.size ≤ k_) ∧ k_ ≠ gb456)) k_ ∧ some k_ ≠ (v471 : Value).ownBlock)) (HO477.out) (fun k_ hk => ⟨⟨hk.1.1, hk.1.2⟩, hk.2⟩)))); (case aB => exact (bw_ HB.out)); (case aF => exact (fun k_ hk => ⟨(.inr (Nat.le_trans (below_size (bw_ HB.out)) hk)), Kd.freshB (g := gb456) (o := .cells #[.int .i64 a1_0, .slice A1_1 l1_1.length c1_1, .slice A1_2 l1_2.length c1_2] 42 (0, 0)) (bk_ BK456.out) k_ hk⟩)); (case aO => exact (by (with_reducible repeat (first | apply Kd.N_alloc | apply Kd.N_drewN | apply Kd.N_drew)); exact HO472.out)); (case aS => exact (below_size (bw_ HB.out))); (case aL => have := LMc20.out; omega); intro v479 w30 ho hb hg hat; rw [← Ny478.out] at ho; have n0_ := Aside0.mk (Kd.V_afterv (ok := (fun k_ => ((P0_ k_ ∨ P1_1_ k_ ∨ P1_2_ k_) ∨ w.heap.size ≤ k_) ∧ k_ ≠ gb456)) (by (with_reducible repeat (first | apply Kd.V_alloc | apply Kd.V_drewN | apply Kd.V_drew)); exact HO_0.out) hg hat); have n1_ := Aside0.mk (Kd.V_afterv (ok := (fun k_ => ((P0_ k_ ∨ P1_1_ k_ ∨ P1_2_ k_) ∨ w.heap.size ≤ k_) ∧ k_ ≠ gb456)) (by (with_reducible repeat (first | apply Kd.V_alloc | apply Kd.V_drewN | apply Kd.V_drew)); exact HO_457001.out) hg hat); have n2_ := Aside0.mk (Kd.V_afterv (ok := (fun k_ => ((P0_ k_ ∨ P1_1_ k_ ∨ P1_2_ k_) ∨ w.heap.size ≤ k_) ∧ k_ ≠ gb456)) (by (with_reducible repeat (first | apply Kd.V_alloc | apply Kd.V_drewN | apply Kd.V_drew)); exact HO_457002.out) hg hat); have n3_ := Aside0.mk (blk_grown (g := gb456) (o := .cells #[.int .i64 a1_0, .slice A1_1 l1_1.length c1_1, .slice A1_2 l1_2.length c1_2] 42 (0, 0)) (bk_ BK456.out) hg (Kd.N_ne HO472.out BK456.out (by decide))); have n4_ := Aside0.mk (Kd.V_afterv (ok := (fun k_ => ((P0_ k_ ∨ P1_1_ k_ ∨ P1_2_ k_) ∨ w.heap.size ≤ k_) ∧ k_ ≠ gb456)) (by (with_reducible repeat (first | apply Kd.V_alloc | apply Kd.V_drewN | apply Kd.V_drew)); exact HL457_1.out) hg hat); have n5_ := Aside0.mk (Kd.V_afterv (ok := (fun k_ => ((P0_ k_ ∨ P1_1_ k_ ∨ P1_2_ k_) ∨ w.heap.size ≤ k_) ∧ k_ ≠ gb456)) (by (with_reducible repeat (first | apply Kd.V_alloc | apply Kd.V_drewN | apply Kd.V_drew)); exact HL457_2.out) hg hat); have n6_ := Aside0.mk (Kd.V_afterv (ok := (fun k_ => ((P0_ k_ ∨ P1_1_ k_ ∨ P1_2_ k_) ∨ w.heap.size ≤ k_) ∧ k_ ≠ gb456)) (by (with_reducible repeat (first | apply Kd.V_alloc | apply Kd.V_drewN | apply Kd.V_drew)); exact HO463.out) hg hat); have n7_ := Aside0.mk (Kd.V_afterv (ok := (fun k_ => ((P0_ k_ ∨ P1_1_ k_ ∨ P1_2_ k_) ∨ w.heap.size ≤ k_) ∧ k_ ≠ gb456)) (by (with_reducible repeat (first | apply Kd.V_alloc | apply Kd.V_drewN | apply Kd.V_drew)); exact HL467_1.out) hg hat); have n8_ := Aside0.mk (Kd.V_afterv (ok := (fun k_ => ((P0_ k_ ∨ P1_1_ k_ ∨ P1_2_ k_) ∨ w.heap.size ≤ k_) ∧ k_ ≠ gb456)) (by (with_reducible repeat (first | apply Kd.V_alloc | apply Kd.V_drewN | apply Kd.V_drew)); exact HL467_2.out) hg hat); have n9_ := Aside0.mk (Kd.V_afterv (ok := (fun k_ => ((P0_ k_ ∨ P1_1_ k_ ∨ P1_2_ k_) ∨ w.heap.size ≤ k_) ∧ k_ ≠ gb456)) (by (with_reducible repeat (first | apply Kd.V_alloc | apply Kd.V_drewN | apply Kd.V_drew)); exact HL469_1.out) hg hat); have n10_ := Aside0.mk (Kd.V_afterv (ok := (fun k_ => ((P0_ k_ ∨ P1_1_ k_ ∨ P1_2_ k_) ∨ w.heap.size ≤ k_) ∧ k_ ≠ gb456)) (by (with_reducible repeat (first | apply Kd.V_alloc | apply Kd.V_drewN | apply Kd.V_drew)); exact HL469_2.out) hg hat); have n11_ := Aside0.mk (Kd.V_afterv (ok := (fun k_ => ((P0_ k_ ∨ P1_1_ k_ ∨ P1_2_ k_) ∨ w.heap.size ≤ k_) ∧ k_ ≠ gb456)) (by (with_reducible repeat (first | apply Kd.V_alloc | apply Kd.V_drewN | apply Kd.V_drew)); exact HO477.out) hg hat); have n12_ := Aside0.mk (hb); have n13_ := Aside0.mk (ho); clear HO_0 HO_457001 HO_457002 BK456 HL457_1 HL457_2 HO463 HL467_1 HL467_2 HL469_1 HL469_2 HO477 HB HO472; have HO_0 := n0_; have HO_457001 := n1_; have HO_457002 := n2_; have BK456 := n3_; have HL457_1 := n4_; have HL457_2 := n5_; have HO463 := n6_; have HL467_1 := n7_; have HL467_2 := n8_; have HL469_1 := n9_; have HL469_2 := n10_; have HO477 := n11_; have HB := n12_; have HO480 := n13_; clear n0_ n1_ n2_ n3_ n4_ n5_ n6_ n7_ n8_ n9_ n10_ n11_ n12_ n13_; clear ho hb hg hat))
             go_ret
             exact ⟨_, by first | rfl | (simp [errW_none, errW_some] <;> rfl) | (simp only [← hji17]; first | rfl | (simp [errW_none, errW_some] <;> rfl)) | (simp [*, errW_none, errW_some] <;> rfl), by (with_reducible repeat (first | apply Kd.N_alloc | apply Kd.N_drewN | apply Kd.N_drew)); exact Kd.N_mono HO480.out (fun _ hk => hk.1), by repeat (first | (with_reducible first | exact HB.out | apply below_alloc | apply pw_below_drewN | apply below_drew1 | refine below_set ?_ GE456.out) | exact HB.out)⟩
            ·rw [if_neg c20] at H
             exact absurd H (by simp)
           ·rw [if_neg c19] at H
            exact absurd H (by simp)
          ·rw [if_neg c18] at H
           exact absurd H (by simp)
         ·rw [if_neg c16] at H
          exact absurd H (by simp)
        ·rw [if_neg c15] at H
         have c15b0 : (t468 == 0) = false := beq_eq_false_iff_ne.mpr c15
         have c15b1 : (t468 != 0) = true := bne_iff_ne.mpr c15
         by_cases c31 : y464.length < 2199023255552
         ·rw [if_pos c31] at H
          have LMc31 := Aside0.mk c31
          clear c31
          obtain ⟨y481, hy481⟩ : ∃ y_ : List (S44), y_ = (y464 ++ [(⟨(⟨a1_0, l1_1, l1_2⟩ : S42), a2⟩ : S44)]) := ⟨_, rfl⟩
          replace H : ((some (l0.drop (x7_1 : Int).toNat : List (S44))).bind fun y484 => (if y481.length + y484.length < 2199023255552 then (some (y481 ++ y484)) else (none))) = some r := by first | (rw [hy481]; with_reducible exact H) | (have H2_ := (Option.bind_some _ _).symm.trans H; rw [hy481]; with_reducible exact H2_) | (have H2_ := (Option.bind_some _ _).symm.trans H; with_reducible exact H2_) | with_reducible exact H | (rw [hy481]; exact H) | exact H
          have Ny481 := Aside0.mk hy481
          clear hy481
          have c32b0 := eq_true (of_decide_eq_true (by assumption) : 0 ≤ x7_1)
          have c33b0 := eq_true (of_decide_eq_true (by assumption) : x7_1 ≤ (l0.length : Int))
          obtain ⟨y484, hy484⟩ : ∃ y_ : List (S44), y_ = (l0.drop (x7_1 : Int).toNat) := ⟨_, rfl⟩
          replace H : (if y481.length + y484.length < 2199023255552 then (some (y481 ++ y484)) else (none)) = some r := by first | (rw [hy484]; with_reducible exact H) | (have H2_ := (Option.bind_some _ _).symm.trans H; rw [hy484]; with_reducible exact H2_) | (have H2_ := (Option.bind_some _ _).symm.trans H; with_reducible exact H2_) | with_reducible exact H | (rw [hy484]; exact H) | exact H
          have Ny484 := Aside0.mk hy484
          clear hy484
          by_cases c34 : y481.length + y484.length < 2199023255552
          ·rw [if_pos c34] at H
           have LMc34 := Aside0.mk c34
           clear c34
           obtain ⟨y489, hy489⟩ : ∃ y_ : List (S44), y_ = (y481 ++ y484) := ⟨_, rfl⟩
           replace H : (some y489) = some r := by first | (rw [hy489]; with_reducible exact H) | (have H2_ := (Option.bind_some _ _).symm.trans H; rw [hy489]; with_reducible exact H2_) | (have H2_ := (Option.bind_some _ _).symm.trans H; with_reducible exact H2_) | with_reducible exact H | (rw [hy489]; exact H) | exact H
           have Ny489 := Aside0.mk hy489
           clear hy489
           obtain rfl := Option.some.inj H
           try go_wp2
           have n0_ := Aside0.mk (Kd.V_drew HO_0.out)
           have n1_ := Aside0.mk (Kd.V_drew HO_457001.out)
           have n2_ := Aside0.mk (Kd.V_drew HO_457002.out)
           have n3_ := Aside0.mk (blk_drew BK456.out)
           have n4_ := Aside0.mk (below_drew1 HB.out)
           clear HO_0
           clear HO_457001
           clear HO_457002
           clear BK456
           clear HB
           have HO_0 := n0_
           have HO_457001 := n1_
           have HO_457002 := n2_
           have BK456 := n3_
           have HB := n4_
           clear n0_ n1_ n2_ n3_ n4_
           have p457 : 0 ≤ (x7_1 : Int) := of_decide_eq_true (by assumption)
           have q457 : x7_1 < (l0.length : Int) := of_decide_eq_true (by assumption)
           obtain ⟨ad457, A457_1, c457_1, A457_2, c457_2, e457, hx457_0, hx457_1, hx457_2, hx457_3, hl457_1, hi457_1, hl457_2, hi457_2⟩ := at_T44 (Kd.V_reads' HO_0.out).2.2 x7_1 p457 q457
           cases e457
           obtain ⟨ce457, hce457, hMe457, hcc457⟩ := Kd.V_get HO_0.out z44 x7_1 p457 (by first | exact q457 | exact of_decide_eq_true (by assumption) | (have e_ := (Kd.V_reads' HO_0.out).1; omega))
           obtain ⟨ua457_1, uc457_1, ua457_2, uc457_2, rfl, ul457_1, ge457_1, ul457_2, ge457_2⟩ := k44_openF hMe457
           have hv457_1 := hcc457 1 _ rfl
           rw [add_field _ _ 1 (by omega)] at hv457_1
           replace hv457_1 := Option.some.inj (hv457_1.symm.trans hx457_1)
           injection hv457_1 with hva_ hvn_ hvc_
           rw [hva_] at ge457_1
           rw [hvc_] at ul457_1
           have HL457_1 := Aside0.mk (show Kd.V Kd.string 9 _ w.heap.size _ _ ((rd_T44 l0 x7_1).f0.f1) from Kd.V_mk ul457_1 ge457_1)
           clear hva_ hvn_ hvc_ ge457_1 ul457_1
           have hv457_2 := hcc457 2 _ rfl
           rw [add_field _ _ 2 (by omega)] at hv457_2
           replace hv457_2 := Option.some.inj (hv457_2.symm.trans hx457_2)
           injection hv457_2 with hva_ hvn_ hvc_
           rw [hva_] at ge457_2
           rw [hvc_] at ul457_2
           have HL457_2 := Aside0.mk (show Kd.V (Kd.int .i64) 2 _ w.heap.size _ _ ((rd_T44 l0 x7_1).f0.f2) from Kd.V_mk ul457_2 ge457_2)
           clear hva_ hvn_ hvc_ ge457_2 ul457_2
           clear hcc457 hce457
           have HR457_1 := Aside0.mk hi457_1
           have HC457_1 := Aside0.mk hl457_1
           clear hi457_1 hl457_1
           have HR457_2 := Aside0.mk hi457_2
           have HC457_2 := Aside0.mk hl457_2
           clear hi457_2 hl457_2
           replace p457 := eq_true p457
           replace q457 := eq_true q457
           refine start_ (n := 14) (S := fun w' => w'.cell? ⟨gb456, 0, none⟩ = some (.int .i64 a1_0) ∧ w'.cell? ⟨gb456, 1, none⟩ = some (.slice A1_1 l1_1.length c1_1) ∧ w'.cell? ⟨gb456, 2, none⟩ = some (.slice A1_2 l1_2.length c1_2) ∧ w'.cell? (ad457.add ((x7_1).toNat * 4)) = some (.int .i64 ((rd_T44 l0 x7_1).f0.f0)) ∧ w'.cell? ⟨(ad457.add ((x7_1).toNat * 4)).block, (ad457.add ((x7_1).toNat * 4)).off + 1, none⟩ = some (.slice A457_1 ((rd_T44 l0 x7_1).f0.f1).length c457_1) ∧ w'.cell? ⟨(ad457.add ((x7_1).toNat * 4)).block, (ad457.add ((x7_1).toNat * 4)).off + 2, none⟩ = some (.slice A457_2 ((rd_T44 l0 x7_1).f0.f2).length c457_2) ∧ w'.cell? ⟨(ad457.add ((x7_1).toNat * 4)).block, (ad457.add ((x7_1).toNat * 4)).off + 3, none⟩ = some (.int .u64 ((rd_T44 l0 x7_1).f1))) (ds := []) #[false, false, false, false, false, false, false, false, false, false, false, false, false, false] (by kernel_rfl) rfl rfl ⟨(blk_cell BK456.out 0).trans rfl, (blk_cell BK456.out 1).trans rfl, (blk_cell BK456.out 2).trans rfl, hx457_0, hx457_1, hx457_2, hx457_3⟩ (fun hHeld => ?_); refine with_tabW gristmillref04_Put.tab2 gristmillref04_Put.bits2 (fun HT_ HW_ => ?_)
           generalize wr.drew = w35 at HO_0 HO_457001 HO_457002 BK456 HB HL457_1 HL457_2 HR457_1 HR457_2 hx457_0 hx457_1 hx457_2 hx457_3 hHeld ⊢
           refine pure_ (i := 0) (N := some 9) (v := ?_) (a' := ?_) #[true, false, false, false, false, false, false, false, false, false, false, false, false, false] rfl rfl (any_of HT_.out (by kernel_rfl)) (fun _ _ _ h => h) (Or.inl ⟨by rfl, ?_⟩) ?_ ?_
           rotate_left
           ·intro w'
            go_simp
            with_reducible rfl
           rotate_left
           ·simp only [Act.put, q1_, q2_, q3_, i64_w, i32_w]
            rfl
           refine pure_ (i := 1) (N := some 10) (v := ?_) (a' := ?_) #[true, true, false, false, false, false, false, false, false, false, false, false, false, false] rfl rfl (any_of HT_.out (by kernel_rfl)) (fun _ _ _ h => h) (Or.inl ⟨by rfl, ?_⟩) ?_ ?_
           rotate_left
           ·intro w'
            go_simp
            with_reducible rfl
           rotate_left
           ·simp only [Act.put, q1_, q2_, q3_, i64_w, i32_w]
            rfl
           refine pure_ (i := 2) (N := some 11) (v := ?_) (a' := ?_) #[true, true, true, false, false, false, false, false, false, false, false, false, false, false] rfl rfl (any_of HT_.out (by kernel_rfl)) (fun _ _ _ h => h) (Or.inl ⟨by rfl, ?_⟩) ?_ ?_
           rotate_left
           ·intro w'
            go_simp
            with_reducible rfl
           rotate_left
           ·simp only [Act.put, q1_, q2_, q3_, i64_w, i32_w]
            rfl
           refine pure_ (i := 3) (N := some 12) (v := ?_) (a' := ?_) #[true, true, true, true, false, false, false, false, false, false, false, false, false, false] rfl rfl (any_of HT_.out (by kernel_rfl)) (fun _ _ _ h => h) (Or.inl ⟨by rfl, ?_⟩) ?_ ?_
           rotate_left
           ·intro w'
            go_simp
            with_reducible rfl
           rotate_left
           ·simp only [Act.put, q1_, q2_, q3_, i64_w, i32_w]
            rfl
           refine pure_ (i := 4) (N := some 13) (v := ?_) (a' := ?_) #[true, true, true, true, true, false, false, false, false, false, false, false, false, false] rfl rfl (any_of HT_.out (by kernel_rfl)) (fun _ _ _ h => h) (Or.inl ⟨by rfl, ?_⟩) ?_ ?_
           rotate_left
           ·intro w'
            go_simp
            with_reducible rfl
           rotate_left
           ·simp only [Act.put, q1_, q2_, q3_, i64_w, i32_w]
            rfl
           refine pure_ (i := 5) (N := some 14) (v := ?_) (a' := ?_) #[true, true, true, true, true, true, false, false, false, false, false, false, false, false] rfl rfl (any_of HT_.out (by kernel_rfl)) (fun _ _ _ h => h) (Or.inl ⟨by rfl, ?_⟩) ?_ ?_
           rotate_left
           ·intro w'
            go_simp
            with_reducible rfl
           rotate_left
           ·simp only [Act.put, q1_, q2_, q3_, i64_w, i32_w]
            rfl
           refine pure_ (i := 6) (N := some 15) (v := ?_) (a' := ?_) #[true, true, true, true, true, true, true, false, false, false, false, false, false, false] rfl rfl (any_of HT_.out (by kernel_rfl)) (fun _ _ _ h => h) (Or.inl ⟨by rfl, ?_⟩) ?_ ?_
           rotate_left
           ·intro w'
            go_simp
            with_reducible rfl
           rotate_left
           ·simp only [Act.put, q1_, q2_, q3_, i64_w, i32_w]
            rfl
           refine pure_ (i := 7) (N := some 16) (v := ?_) (a' := ?_) #[true, true, true, true, true, true, true, true, false, false, false, false, false, false] rfl rfl (any_of HT_.out (by kernel_rfl)) (fun _ _ _ h => h) (Or.inl ⟨by rfl, ?_⟩) ?_ ?_
           rotate_left
           ·intro w'
            go_simp
            with_reducible rfl
           rotate_left
           ·simp only [Act.put, q1_, q2_, q3_, i64_w, i32_w]
            rfl
           refine pure_ (i := 8) (N := some 17) (v := ?_) (a' := ?_) #[true, true, true, true, true, true, true, true, true, false, false, false, false, false] rfl rfl (any_of HT_.out (by kernel_rfl)) (fun _ _ _ h => h) (Or.inl ⟨by rfl, ?_⟩) ?_ ?_
           rotate_left
           ·intro w'
            go_simp
            with_reducible rfl
           rotate_left
           ·simp only [Act.put, q1_, q2_, q3_, i64_w, i32_w]
            rfl
           refine take_ (i := 9) (N := some 18) (v := ?_) (a' := ?_) #[true, true, true, true, true, true, true, true, true, true, false, false, false, false] rfl rfl (take_ofW HT_.out HW_.out (by kernel_rfl)) (fun _ _ _ h => h) (Or.inl ⟨by rfl, ?_⟩) hHeld ?_ ?_
           rotate_left
           ·rintro w' ⟨s0, s1, s2, s3, s4, s5, s6⟩
            go_simp
            with_reducible rfl
           rotate_left
           ·simp only [Act.put, q1_, q2_, q3_, i64_w, i32_w]
            rfl
           refine take_ (i := 10) (N := some 19) (v := ?_) (a' := ?_) #[true, true, true, true, true, true, true, true, true, true, true, false, false, false] rfl rfl (take_ofW HT_.out HW_.out (by kernel_rfl)) (fun _ _ _ h => h) (Or.inl ⟨by rfl, ?_⟩) hHeld ?_ ?_
           rotate_left
           ·rintro w' ⟨s0, s1, s2, s3, s4, s5, s6⟩
            go_simp
            with_reducible rfl
           rotate_left
           ·simp only [Act.put, q1_, q2_, q3_, i64_w, i32_w]
            rfl
           refine one_ (i := 11) (N := some 20) #[true, true, true, true, true, true, true, true, true, true, true, true, false, false] rfl rfl (one_of HT_.out (by kernel_rfl)) (by decide) (fun K hK => ?_)
           refine goes_ Try.func43 (by kernel_rfl) rfl #[.agg #[.int .i64 ((rd_T44 l0 x7_1).f0.f0), .slice A457_1 ((rd_T44 l0 x7_1).f0.f1).length c457_1, .slice A457_2 ((rd_T44 l0 x7_1).f0.f2).length c457_2], .agg #[.int .i64 a1_0, .slice A1_1 l1_1.length c1_1, .slice A1_2 l1_2.length c1_2]] (by rfl) rfl rfl (by (try simp only [List.map_toArray, List.map_cons, List.map_nil]); first | done | rfl | (simp only [List.length_drop, List.length_take]; rfl)) ?_
           with_reducible refine (gristmillref04_Compare.calls k1 ((rd_T44 l0 x7_1).f0.f0) _ _ ((rd_T44 l0 x7_1).f0.f1) _ _ ((rd_T44 l0 x7_1).f0.f2) a1_0 _ _ l1_1 _ _ l1_2 t458 _ ?side1 ?side2 ?side3 ?side4 ?side5 ?side6 ?side7 ?side8 A7.out).mono ?_
           (case side1 => repeat (first | exact (by repeat (first | (with_reducible exact HR457_1.out) | (with_reducible refine Kd.C_alloc ?_ _) | (with_reducible refine Kd.C_drewN ?_ _) | (with_reducible refine Kd.C_drew ?_) | exact HR457_1.out)) | (with_reducible refine Kd.C_alloc ?_ _) | (with_reducible refine Kd.C_drewN ?_ _) | (with_reducible refine Kd.C_drew ?_)))
           (case side2 => exact HC457_1.out)
           (case side3 => repeat (first | exact (by repeat (first | (with_reducible exact HR457_2.out) | (with_reducible refine Kd.C_alloc ?_ _) | (with_reducible refine Kd.C_drewN ?_ _) | (with_reducible refine Kd.C_drew ?_) | exact HR457_2.out)) | (with_reducible refine Kd.C_alloc ?_ _) | (with_reducible refine Kd.C_drewN ?_ _) | (with_reducible refine Kd.C_drew ?_)))
           (case side4 => exact HC457_2.out)
           (case side5 => repeat (first | exact (Kd.V_reads' HO_457001.out).2.2 | (with_reducible refine Kd.C_alloc ?_ _) | (with_reducible refine Kd.C_drewN ?_ _) | (with_reducible refine Kd.C_drew ?_)))
           (case side6 => exact (Kd.V_reads' HO_457001.out).2.1)
           (case side7 => repeat (first | exact (Kd.V_reads' HO_457002.out).2.2 | (with_reducible refine Kd.C_alloc ?_ _) | (with_reducible refine Kd.C_drewN ?_ _) | (with_reducible refine Kd.C_drew ?_)))
           (case side8 => exact (Kd.V_reads' HO_457002.out).2.1)
           rintro e w36 ⟨rfl, hb⟩
           have HS3_ := (hb.cell (World.block_lt_of_cell? _ _ (hHeld.2.2.2.1))).trans (hHeld.2.2.2.1)
           have HS4_ := (hb.cell (World.block_lt_of_cell? _ _ (hHeld.2.2.2.2.1))).trans (hHeld.2.2.2.2.1)
           have HS5_ := (hb.cell (World.block_lt_of_cell? _ _ (hHeld.2.2.2.2.2.1))).trans (hHeld.2.2.2.2.2.1)
           have HS6_ := (hb.cell (World.block_lt_of_cell? _ _ (hHeld.2.2.2.2.2.2))).trans (hHeld.2.2.2.2.2.2)
           refine ⟨_, rfl, ?_⟩
           have n0_ := Aside0.mk (Kd.V_below (by (with_reducible repeat (first | apply Kd.V_alloc | apply Kd.V_drewN | apply Kd.V_drew)); exact HO_0.out) hb)
           have n1_ := Aside0.mk (Kd.V_below (by (with_reducible repeat (first | apply Kd.V_alloc | apply Kd.V_drewN | apply Kd.V_drew)); exact HO_457001.out) hb)
           have n2_ := Aside0.mk (Kd.V_below (by (with_reducible repeat (first | apply Kd.V_alloc | apply Kd.V_drewN | apply Kd.V_drew)); exact HO_457002.out) hb)
           have n3_ := Aside0.mk (Kd.V_below (by (with_reducible repeat (first | apply Kd.V_alloc | apply Kd.V_drewN | apply Kd.V_drew)); exact HL457_1.out) hb)
           have n4_ := Aside0.mk (Kd.V_below (by (with_reducible repeat (first | apply Kd.V_alloc | apply Kd.V_drewN | apply Kd.V_drew)); exact HL457_2.out) hb)
           have n5_ := Aside0.mk (blk_below (bk_ BK456.out) hb)
           have n6_ := Aside0.mk (Kd.C_below (by repeat (first | (with_reducible exact HR457_1.out) | (with_reducible refine Kd.C_alloc ?_ _) | (with_reducible refine Kd.C_drewN ?_ _) | (with_reducible refine Kd.C_drew ?_) | exact HR457_1.out)) hb)
           have n7_ := Aside0.mk (Kd.C_below (by repeat (first | (with_reducible exact HR457_2.out) | (with_reducible refine Kd.C_alloc ?_ _) | (with_reducible refine Kd.C_drewN ?_ _) | (with_reducible refine Kd.C_drew ?_) | exact HR457_2.out)) hb)
           have n8_ := Aside0.mk (below_step (bw_ HB.out) hb)
           clear HO_0
           clear HO_457001
           clear HO_457002
           clear HL457_1
           clear HL457_2
           clear BK456
           clear HR457_1
           clear HR457_2
           clear HB
           have HO_0 := n0_
           have HO_457001 := n1_
           have HO_457002 := n2_
           have HL457_1 := n3_
           have HL457_2 := n4_
           have BK456 := n5_
           have HR457_1 := n6_
           have HR457_2 := n7_
           have HB := n8_
           clear n0_ n1_ n2_ n3_ n4_ n5_ n6_ n7_ n8_
           (try clear hb)
           (try clear hb2)
           (try clear hk)
           (try clear hi)
           refine hK.out _ _ ⟨(blk_cell BK456.out 0).trans rfl, (blk_cell BK456.out 1).trans rfl, (blk_cell BK456.out 2).trans rfl, HS3_, HS4_, HS5_, HS6_⟩ (fun hHeld => ?_)
           clear hK K
           refine norm_ (a' := ?_) ?_ ?_
           rotate_left
           ·show Act.put _ (some 20) _ = _
            simp only [Act.put, q1_, q2_, q3_, i64_w, i32_w]
            rfl
           refine pure_ (i := 12) (N := some 21) (v := ?_) (a' := ?_) #[true, true, true, true, true, true, true, true, true, true, true, true, true, false] rfl rfl (any_of HT_.out (by kernel_rfl)) (fun _ _ _ h => h) (Or.inl ⟨by rfl, ?_⟩) ?_ ?_
           rotate_left
           ·intro w'
            go_simp
            with_reducible rfl
           rotate_left
           ·simp only [Act.put, q1_, q2_, q3_, i64_w, i32_w]
            rfl
           refine pure_ (i := 13) (N := some 22) (v := ?_) (a' := ?_) #[true, true, true, true, true, true, true, true, true, true, true, true, true, true] rfl rfl (any_of HT_.out (by kernel_rfl)) (fun _ _ _ h => h) (Or.inl ⟨by rfl, ?_⟩) ?_ ?_
           rotate_left
           ·intro w'
            go_simp
            with_reducible rfl
           rotate_left
           ·simp only [Act.put, q1_, q2_, q3_, i64_w, i32_w]
            rfl
           refine done_ (done_of HT_.out (by kernel_rfl)) ?_
           have q37 : (x7_1 : Int) ≤ ((l0.length : Int) : Int) := of_decide_eq_true (by assumption)
           obtain ⟨i037, hi037, _, hsz37, _⟩ := info_parts info44
           have hroom37 : l0.length ≤ c0 := (Kd.V_reads' HO_0.out).2.1
           have hC37 : Kd.F k44 _ _ (some ad457) l0.length l0 := (Kd.V_at (base := w.heap.size) HO_0.out).2.2
           have hcut37 := cut_to (P := Try.prog) 24 44 .i64 Try.underlying24 hi037 (some ad457) l0.length c0 x7_1 (of_decide_eq_true (by assumption)) q37 hroom37
           have hr37 := Kd.F_take (m := (x7_1 : Int).toNat) hC37 (by omega)
           have hy37 : y459.length = (x7_1 : Int).toNat := (by rw [Ny459.out, List.length_take]; omega)
           rw [← Ny459.out] at hr37
           rw [← hy37] at hcut37
           have HO463 := Aside0.mk (show Kd.V k44 44 _ w.heap.size _ (.slice (some ad457) y459.length c0) y459 from Kd.V_mk (by omega) hr37)
           have HC463 := Aside0.mk (show y459.length ≤ c0 from by omega)
           clear hr37 hC37 hroom37 hi037 hsz37
           have KY37 := Aside0.mk hy37
           clear hy37
           replace q37 := eq_true q37
           try go_wp2_with (first | ((with_reducible refine gate_builtin (b := .append) (xs := #[.tmp 25, .tmp 28]) rfl ?_); at_builtin; refine Kd.N_append_rows k44 (w0 := w) w.heap.size rfl (.tmp 25) (.tmp 28) 24 44 (.agg #[(.int .i64 0), (.slice none 0 0), (.slice none 0 0), (.int .u64 0)]) 64 rfl Try.underlying24 info44 rfl (by decide) (by omega) (.slice none 0 0) ([] : List (S44)) y459 _ _ _ (fun k_ => ((P0_ k_ ∨ P1_1_ k_ ∨ P1_2_ k_) ∨ w.heap.size ≤ k_) ∧ k_ ≠ gb456) (fun k_ => ((fun k_ => ((P0_ k_ ∨ P1_1_ k_ ∨ P1_2_ k_) ∨ w.heap.size ≤ k_) ∧ k_ ≠ gb456)) k_ ∧ some k_ ≠ (.slice none 0 0 : Value).ownBlock) rfl rfl ?aO ?aR (fun _ hk => hk) ?aF ?aB ?aS ?aL ?_; (case aR => exact (by skip; exact Kd.V_F (Kd.V_mono (ok' := (fun k_ => ((fun k_ => ((P0_ k_ ∨ P1_1_ k_ ∨ P1_2_ k_) ∨ w.heap.size ≤ k_) ∧ k_ ≠ gb456)) k_ ∧ some k_ ≠ (.slice none 0 0 : Value).ownBlock)) (HO463.out) (fun k_ hk => ⟨⟨hk.1, hk.2⟩, (by simp [Value.ownBlock])⟩)))); (case aB => exact (bw_ HB.out)); (case aF => exact (fun k_ hk => ⟨(.inr (Nat.le_trans (below_size (bw_ HB.out)) hk)), Kd.freshB (g := gb456) (o := .cells #[.int .i64 a1_0, .slice A1_1 l1_1.length c1_1, .slice A1_2 l1_2.length c1_2] 42 (0, 0)) (bk_ BK456.out) k_ hk⟩)); (case aO => exact ((Kd.N_nil _ _ _ _ (fun k_ => ((P0_ k_ ∨ P1_1_ k_ ∨ P1_2_ k_) ∨ w.heap.size ≤ k_) ∧ k_ ≠ gb456)))); (case aS => exact (below_size (bw_ HB.out))); (case aL => have := LMc13.out; omega); intro v465 w38 ho hb hg hat; rw [← Ny464.out] at ho; have n0_ := Aside0.mk (Kd.V_afterv (Kd.V_apart_nil (by (with_reducible repeat (first | apply Kd.V_alloc | apply Kd.V_drewN | apply Kd.V_drew)); exact HO_0.out)) hg hat); have n1_ := Aside0.mk (Kd.V_afterv (Kd.V_apart_nil (by (with_reducible repeat (first | apply Kd.V_alloc | apply Kd.V_drewN | apply Kd.V_drew)); exact HO_457001.out)) hg hat); have n2_ := Aside0.mk (Kd.V_afterv (Kd.V_apart_nil (by (with_reducible repeat (first | apply Kd.V_alloc | apply Kd.V_drewN | apply Kd.V_drew)); exact HO_457002.out)) hg hat); have n3_ := Aside0.mk (blk_grown (g := gb456) (o := .cells #[.int .i64 a1_0, .slice A1_1 l1_1.length c1_1, .slice A1_2 l1_2.length c1_2] 42 (0, 0)) (bk_ BK456.out) hg (by simp [Value.ownBlock])); have n4_ := Aside0.mk (Kd.V_afterv (Kd.V_apart_nil (by (with_reducible repeat (first | apply Kd.V_alloc | apply Kd.V_drewN | apply Kd.V_drew)); exact HL457_1.out)) hg hat); have n5_ := Aside0.mk (Kd.V_afterv (Kd.V_apart_nil (by (with_reducible repeat (first | apply Kd.V_alloc | apply Kd.V_drewN | apply Kd.V_drew)); exact HL457_2.out)) hg hat); have n6_ := Aside0.mk (Kd.V_afterv (Kd.V_apart_nil (by (with_reducible repeat (first | apply Kd.V_alloc | apply Kd.V_drewN | apply Kd.V_drew)); exact HO463.out)) hg hat); have n7_ := Aside0.mk (hb); have n8_ := Aside0.mk (ho); clear HO_0 HO_457001 HO_457002 BK456 HL457_1 HL457_2 HO463 HB; have HO_0 := n0_; have HO_457001 := n1_; have HO_457002 := n2_; have BK456 := n3_; have HL457_1 := n4_; have HL457_2 := n5_; have HO463 := n6_; have HB := n7_; have HO466 := n8_; clear n0_ n1_ n2_ n3_ n4_ n5_ n6_ n7_ n8_; clear ho hb hg hat))
           have n0_ := Aside0.mk (Kd.V_drew HO_0.out)
           have n1_ := Aside0.mk (Kd.V_drew HO_457001.out)
           have n2_ := Aside0.mk (Kd.V_drew HO_457002.out)
           have n3_ := Aside0.mk (Kd.V_drew HL457_1.out)
           have n4_ := Aside0.mk (Kd.V_drew HL457_2.out)
           have n5_ := Aside0.mk (Kd.V_drew HO463.out)
           have n6_ := Aside0.mk (Kd.N_drew HO466.out)
           have n7_ := Aside0.mk (blk_drew BK456.out)
           have n8_ := Aside0.mk (below_drew1 HB.out)
           clear HO_0
           clear HO_457001
           clear HO_457002
           clear HL457_1
           clear HL457_2
           clear HO463
           clear HO466
           clear BK456
           clear HB
           have HO_0 := n0_
           have HO_457001 := n1_
           have HO_457002 := n2_
           have HL457_1 := n3_
           have HL457_2 := n4_
           have HO463 := n5_
           have HO466 := n6_
           have BK456 := n7_
           have HB := n8_
           clear n0_ n1_ n2_ n3_ n4_ n5_ n6_ n7_ n8_
           have p467 : 0 ≤ (x7_1 : Int) := of_decide_eq_true (by assumption)
           have q467 : x7_1 < (l0.length : Int) := of_decide_eq_true (by assumption)
           obtain ⟨ad467, A467_1, c467_1, A467_2, c467_2, e467, hx467_0, hx467_1, hx467_2, hx467_3, hl467_1, hi467_1, hl467_2, hi467_2⟩ := at_T44 (Kd.V_reads' HO_0.out).2.2 x7_1 p467 q467
           obtain rfl : ad457 = ad467 := (by injection e467)
           obtain ⟨ce467, hce467, hMe467, hcc467⟩ := Kd.V_get HO_0.out z44 x7_1 p467 (by first | exact q467 | exact of_decide_eq_true (by assumption) | (have e_ := (Kd.V_reads' HO_0.out).1; omega))
           obtain ⟨ua467_1, uc467_1, ua467_2, uc467_2, rfl, ul467_1, ge467_1, ul467_2, ge467_2⟩ := k44_openF hMe467
           have hv467_1 := hcc467 1 _ rfl
           rw [add_field _ _ 1 (by omega)] at hv467_1
           replace hv467_1 := Option.some.inj (hv467_1.symm.trans hx467_1)
           injection hv467_1 with hva_ hvn_ hvc_
           rw [hva_] at ge467_1
           rw [hvc_] at ul467_1
           have HL467_1 := Aside0.mk (show Kd.V Kd.string 9 _ w.heap.size _ _ ((rd_T44 l0 x7_1).f0.f1) from Kd.V_mk ul467_1 ge467_1)
           clear hva_ hvn_ hvc_ ge467_1 ul467_1
           have hv467_2 := hcc467 2 _ rfl
           rw [add_field _ _ 2 (by omega)] at hv467_2
           replace hv467_2 := Option.some.inj (hv467_2.symm.trans hx467_2)
           injection hv467_2 with hva_ hvn_ hvc_
           rw [hva_] at ge467_2
           rw [hvc_] at ul467_2
           have HL467_2 := Aside0.mk (show Kd.V (Kd.int .i64) 2 _ w.heap.size _ _ ((rd_T44 l0 x7_1).f0.f2) from Kd.V_mk ul467_2 ge467_2)
           clear hva_ hvn_ hvc_ ge467_2 ul467_2
           clear hcc467 hce467
           have HR467_1 := Aside0.mk hi467_1
           have HC467_1 := Aside0.mk hl467_1
           clear hi467_1 hl467_1
           have HR467_2 := Aside0.mk hi467_2
           have HC467_2 := Aside0.mk hl467_2
           clear hi467_2 hl467_2
           replace p467 := eq_true p467
           replace q467 := eq_true q467
           refine start_ (n := 14) (S := fun w' => w'.cell? ⟨gb456, 0, none⟩ = some (.int .i64 a1_0) ∧ w'.cell? ⟨gb456, 1, none⟩ = some (.slice A1_1 l1_1.length c1_1) ∧ w'.cell? ⟨gb456, 2, none⟩ = some (.slice A1_2 l1_2.length c1_2) ∧ w'.cell? (ad457.add ((x7_1).toNat * 4)) = some (.int .i64 ((rd_T44 l0 x7_1).f0.f0)) ∧ w'.cell? ⟨(ad457.add ((x7_1).toNat * 4)).block, (ad457.add ((x7_1).toNat * 4)).off + 1, none⟩ = some (.slice A467_1 ((rd_T44 l0 x7_1).f0.f1).length c467_1) ∧ w'.cell? ⟨(ad457.add ((x7_1).toNat * 4)).block, (ad457.add ((x7_1).toNat * 4)).off + 2, none⟩ = some (.slice A467_2 ((rd_T44 l0 x7_1).f0.f2).length c467_2) ∧ w'.cell? ⟨(ad457.add ((x7_1).toNat * 4)).block, (ad457.add ((x7_1).toNat * 4)).off + 3, none⟩ = some (.int .u64 ((rd_T44 l0 x7_1).f1))) (ds := []) #[false, false, false, false, false, false, false, false, false, false, false, false, false, false] (by kernel_rfl) rfl rfl ⟨(blk_cell BK456.out 0).trans rfl, (blk_cell BK456.out 1).trans rfl, (blk_cell BK456.out 2).trans rfl, hx467_0, hx467_1, hx467_2, hx467_3⟩ (fun hHeld => ?_); refine with_tabW gristmillref04_Put.tab6 gristmillref04_Put.bits6 (fun HT_ HW_ => ?_)
           generalize w38.drew = w39 at HO_0 HO_457001 HO_457002 HL457_1 HL457_2 HO463 HO466 BK456 HB HL467_1 HL467_2 HR467_1 HR467_2 hx467_0 hx467_1 hx467_2 hx467_3 hHeld ⊢
           refine pure_ (i := 0) (N := some 30) (v := ?_) (a' := ?_) #[true, false, false, false, false, false, false, false, false, false, false, false, false, false] rfl rfl (any_of HT_.out (by kernel_rfl)) (fun _ _ _ h => h) (Or.inl ⟨by rfl, ?_⟩) ?_ ?_
           rotate_left
           ·intro w'
            go_simp
            with_reducible rfl
           rotate_left
           ·simp only [Act.put, q1_, q2_, q3_, i64_w, i32_w]
            rfl
           refine pure_ (i := 1) (N := some 31) (v := ?_) (a' := ?_) #[true, true, false, false, false, false, false, false, false, false, false, false, false, false] rfl rfl (any_of HT_.out (by kernel_rfl)) (fun _ _ _ h => h) (Or.inl ⟨by rfl, ?_⟩) ?_ ?_
           rotate_left
           ·intro w'
            go_simp
            with_reducible rfl
           rotate_left
           ·simp only [Act.put, q1_, q2_, q3_, i64_w, i32_w]
            rfl
           refine pure_ (i := 2) (N := some 32) (v := ?_) (a' := ?_) #[true, true, true, false, false, false, false, false, false, false, false, false, false, false] rfl rfl (any_of HT_.out (by kernel_rfl)) (fun _ _ _ h => h) (Or.inl ⟨by rfl, ?_⟩) ?_ ?_
           rotate_left
           ·intro w'
            go_simp
            with_reducible rfl
           rotate_left
           ·simp only [Act.put, q1_, q2_, q3_, i64_w, i32_w]
            rfl
           refine pure_ (i := 3) (N := some 33) (v := ?_) (a' := ?_) #[true, true, true, true, false, false, false, false, false, false, false, false, false, false] rfl rfl (any_of HT_.out (by kernel_rfl)) (fun _ _ _ h => h) (Or.inl ⟨by rfl, ?_⟩) ?_ ?_
           rotate_left
           ·intro w'
            go_simp
            with_reducible rfl
           rotate_left
           ·simp only [Act.put, q1_, q2_, q3_, i64_w, i32_w]
            rfl
           refine pure_ (i := 4) (N := some 34) (v := ?_) (a' := ?_) #[true, true, true, true, true, false, false, false, false, false, false, false, false, false] rfl rfl (any_of HT_.out (by kernel_rfl)) (fun _ _ _ h => h) (Or.inl ⟨by rfl, ?_⟩) ?_ ?_
           rotate_left
           ·intro w'
            go_simp
            with_reducible rfl
           rotate_left
           ·simp only [Act.put, q1_, q2_, q3_, i64_w, i32_w]
            rfl
           refine pure_ (i := 5) (N := some 35) (v := ?_) (a' := ?_) #[true, true, true, true, true, true, false, false, false, false, false, false, false, false] rfl rfl (any_of HT_.out (by kernel_rfl)) (fun _ _ _ h => h) (Or.inl ⟨by rfl, ?_⟩) ?_ ?_
           rotate_left
           ·intro w'
            go_simp
            with_reducible rfl
           rotate_left
           ·simp only [Act.put, q1_, q2_, q3_, i64_w, i32_w]
            rfl
           refine pure_ (i := 6) (N := some 36) (v := ?_) (a' := ?_) #[true, true, true, true, true, true, true, false, false, false, false, false, false, false] rfl rfl (any_of HT_.out (by kernel_rfl)) (fun _ _ _ h => h) (Or.inl ⟨by rfl, ?_⟩) ?_ ?_
           rotate_left
           ·intro w'
            go_simp
            with_reducible rfl
           rotate_left
           ·simp only [Act.put, q1_, q2_, q3_, i64_w, i32_w]
            rfl
           refine pure_ (i := 7) (N := some 37) (v := ?_) (a' := ?_) #[true, true, true, true, true, true, true, true, false, false, false, false, false, false] rfl rfl (any_of HT_.out (by kernel_rfl)) (fun _ _ _ h => h) (Or.inl ⟨by rfl, ?_⟩) ?_ ?_
           rotate_left
           ·intro w'
            go_simp
            with_reducible rfl
           rotate_left
           ·simp only [Act.put, q1_, q2_, q3_, i64_w, i32_w]
            rfl
           refine pure_ (i := 8) (N := some 38) (v := ?_) (a' := ?_) #[true, true, true, true, true, true, true, true, true, false, false, false, false, false] rfl rfl (any_of HT_.out (by kernel_rfl)) (fun _ _ _ h => h) (Or.inl ⟨by rfl, ?_⟩) ?_ ?_
           rotate_left
           ·intro w'
            go_simp
            with_reducible rfl
           rotate_left
           ·simp only [Act.put, q1_, q2_, q3_, i64_w, i32_w]
            rfl
           refine take_ (i := 9) (N := some 39) (v := ?_) (a' := ?_) #[true, true, true, true, true, true, true, true, true, true, false, false, false, false] rfl rfl (take_ofW HT_.out HW_.out (by kernel_rfl)) (fun _ _ _ h => h) (Or.inl ⟨by rfl, ?_⟩) hHeld ?_ ?_
           rotate_left
           ·rintro w' ⟨s0, s1, s2, s3, s4, s5, s6⟩
            go_simp
            with_reducible rfl
           rotate_left
           ·simp only [Act.put, q1_, q2_, q3_, i64_w, i32_w]
            rfl
           refine take_ (i := 10) (N := some 40) (v := ?_) (a' := ?_) #[true, true, true, true, true, true, true, true, true, true, true, false, false, false] rfl rfl (take_ofW HT_.out HW_.out (by kernel_rfl)) (fun _ _ _ h => h) (Or.inl ⟨by rfl, ?_⟩) hHeld ?_ ?_
           rotate_left
           ·rintro w' ⟨s0, s1, s2, s3, s4, s5, s6⟩
            go_simp
            with_reducible rfl
           rotate_left
           ·simp only [Act.put, q1_, q2_, q3_, i64_w, i32_w]
            rfl
           refine one_ (i := 11) (N := some 41) #[true, true, true, true, true, true, true, true, true, true, true, true, false, false] rfl rfl (one_of HT_.out (by kernel_rfl)) (by decide) (fun K hK => ?_)
           refine goes_ Try.func43 (by kernel_rfl) rfl #[.agg #[.int .i64 ((rd_T44 l0 x7_1).f0.f0), .slice A467_1 ((rd_T44 l0 x7_1).f0.f1).length c467_1, .slice A467_2 ((rd_T44 l0 x7_1).f0.f2).length c467_2], .agg #[.int .i64 a1_0, .slice A1_1 l1_1.length c1_1, .slice A1_2 l1_2.length c1_2]] (by rfl) rfl rfl (by (try simp only [List.map_toArray, List.map_cons, List.map_nil]); first | done | rfl | (simp only [List.length_drop, List.length_take]; rfl)) ?_
           with_reducible refine (gristmillref04_Compare.calls k1 ((rd_T44 l0 x7_1).f0.f0) _ _ ((rd_T44 l0 x7_1).f0.f1) _ _ ((rd_T44 l0 x7_1).f0.f2) a1_0 _ _ l1_1 _ _ l1_2 t468 _ ?side1 ?side2 ?side3 ?side4 ?side5 ?side6 ?side7 ?side8 A14.out).mono ?_
           (case side1 => repeat (first | exact (by repeat (first | (with_reducible exact HR467_1.out) | (with_reducible refine Kd.C_alloc ?_ _) | (with_reducible refine Kd.C_drewN ?_ _) | (with_reducible refine Kd.C_drew ?_) | exact HR467_1.out)) | (with_reducible refine Kd.C_alloc ?_ _) | (with_reducible refine Kd.C_drewN ?_ _) | (with_reducible refine Kd.C_drew ?_)))
           (case side2 => exact HC467_1.out)
           (case side3 => repeat (first | exact (by repeat (first | (with_reducible exact HR467_2.out) | (with_reducible refine Kd.C_alloc ?_ _) | (with_reducible refine Kd.C_drewN ?_ _) | (with_reducible refine Kd.C_drew ?_) | exact HR467_2.out)) | (with_reducible refine Kd.C_alloc ?_ _) | (with_reducible refine Kd.C_drewN ?_ _) | (with_reducible refine Kd.C_drew ?_)))
           (case side4 => exact HC467_2.out)
           (case side5 => repeat (first | exact (Kd.V_reads' HO_457001.out).2.2 | (with_reducible refine Kd.C_alloc ?_ _) | (with_reducible refine Kd.C_drewN ?_ _) | (with_reducible refine Kd.C_drew ?_)))
           (case side6 => exact (Kd.V_reads' HO_457001.out).2.1)
           (case side7 => repeat (first | exact (Kd.V_reads' HO_457002.out).2.2 | (with_reducible refine Kd.C_alloc ?_ _) | (with_reducible refine Kd.C_drewN ?_ _) | (with_reducible refine Kd.C_drew ?_)))
           (case side8 => exact (Kd.V_reads' HO_457002.out).2.1)
           rintro e w40 ⟨rfl, hb⟩
           have HS3_ := (hb.cell (World.block_lt_of_cell? _ _ (hHeld.2.2.2.1))).trans (hHeld.2.2.2.1)
           have HS4_ := (hb.cell (World.block_lt_of_cell? _ _ (hHeld.2.2.2.2.1))).trans (hHeld.2.2.2.2.1)
           have HS5_ := (hb.cell (World.block_lt_of_cell? _ _ (hHeld.2.2.2.2.2.1))).trans (hHeld.2.2.2.2.2.1)
           have HS6_ := (hb.cell (World.block_lt_of_cell? _ _ (hHeld.2.2.2.2.2.2))).trans (hHeld.2.2.2.2.2.2)
           refine ⟨_, rfl, ?_⟩
           have n0_ := Aside0.mk (Kd.V_below (by (with_reducible repeat (first | apply Kd.V_alloc | apply Kd.V_drewN | apply Kd.V_drew)); exact HO_0.out) hb)
           have n1_ := Aside0.mk (Kd.V_below (by (with_reducible repeat (first | apply Kd.V_alloc | apply Kd.V_drewN | apply Kd.V_drew)); exact HO_457001.out) hb)
           have n2_ := Aside0.mk (Kd.V_below (by (with_reducible repeat (first | apply Kd.V_alloc | apply Kd.V_drewN | apply Kd.V_drew)); exact HO_457002.out) hb)
           have n3_ := Aside0.mk (Kd.V_below (by (with_reducible repeat (first | apply Kd.V_alloc | apply Kd.V_drewN | apply Kd.V_drew)); exact HL457_1.out) hb)
           have n4_ := Aside0.mk (Kd.V_below (by (with_reducible repeat (first | apply Kd.V_alloc | apply Kd.V_drewN | apply Kd.V_drew)); exact HL457_2.out) hb)
           have n5_ := Aside0.mk (Kd.V_below (by (with_reducible repeat (first | apply Kd.V_alloc | apply Kd.V_drewN | apply Kd.V_drew)); exact HO463.out) hb)
           have n6_ := Aside0.mk (Kd.N_below (by (with_reducible repeat (first | apply Kd.N_alloc | apply Kd.N_drewN | apply Kd.N_drew)); exact HO466.out) hb)
           have n7_ := Aside0.mk (Kd.V_below (by (with_reducible repeat (first | apply Kd.V_alloc | apply Kd.V_drewN | apply Kd.V_drew)); exact HL467_1.out) hb)
           have n8_ := Aside0.mk (Kd.V_below (by (with_reducible repeat (first | apply Kd.V_alloc | apply Kd.V_drewN | apply Kd.V_drew)); exact HL467_2.out) hb)
           have n9_ := Aside0.mk (blk_below (bk_ BK456.out) hb)
           have n10_ := Aside0.mk (Kd.C_below (by repeat (first | (with_reducible exact HR467_1.out) | (with_reducible refine Kd.C_alloc ?_ _) | (with_reducible refine Kd.C_drewN ?_ _) | (with_reducible refine Kd.C_drew ?_) | exact HR467_1.out)) hb)
           have n11_ := Aside0.mk (Kd.C_below (by repeat (first | (with_reducible exact HR467_2.out) | (with_reducible refine Kd.C_alloc ?_ _) | (with_reducible refine Kd.C_drewN ?_ _) | (with_reducible refine Kd.C_drew ?_) | exact HR467_2.out)) hb)
           have n12_ := Aside0.mk (below_step (bw_ HB.out) hb)
           clear HO_0
           clear HO_457001
           clear HO_457002
           clear HL457_1
           clear HL457_2
           clear HO463
           clear HO466
           clear HL467_1
           clear HL467_2
           clear BK456
           clear HR467_1
           clear HR467_2
           clear HB
           have HO_0 := n0_
           have HO_457001 := n1_
           have HO_457002 := n2_
           have HL457_1 := n3_
           have HL457_2 := n4_
           have HO463 := n5_
           have HO466 := n6_
           have HL467_1 := n7_
           have HL467_2 := n8_
           have BK456 := n9_
           have HR467_1 := n10_
           have HR467_2 := n11_
           have HB := n12_
           clear n0_ n1_ n2_ n3_ n4_ n5_ n6_ n7_ n8_ n9_ n10_ n11_ n12_
           (try clear hb)
           (try clear hb2)
           (try clear hk)
           (try clear hi)
           refine hK.out _ _ ⟨(blk_cell BK456.out 0).trans rfl, (blk_cell BK456.out 1).trans rfl, (blk_cell BK456.out 2).trans rfl, HS3_, HS4_, HS5_, HS6_⟩ (fun hHeld => ?_)
           clear hK K
           refine norm_ (a' := ?_) ?_ ?_
           rotate_left
           ·show Act.put _ (some 41) _ = _
            simp only [Act.put, q1_, q2_, q3_, i64_w, i32_w]
            rfl
           refine pure_ (i := 12) (N := some 42) (v := ?_) (a' := ?_) #[true, true, true, true, true, true, true, true, true, true, true, true, true, false] rfl rfl (any_of HT_.out (by kernel_rfl)) (fun _ _ _ h => h) (Or.inl ⟨by rfl, ?_⟩) ?_ ?_
           rotate_left
           ·intro w'
            go_simp
            with_reducible rfl
           rotate_left
           ·simp only [Act.put, q1_, q2_, q3_, i64_w, i32_w]
            rfl
           refine pure_ (i := 13) (N := some 43) (v := ?_) (a' := ?_) #[true, true, true, true, true, true, true, true, true, true, true, true, true, true] rfl rfl (any_of HT_.out (by kernel_rfl)) (fun _ _ _ h => h) (Or.inl ⟨by rfl, ?_⟩) ?_ ?_
           rotate_left
           ·intro w'
            go_simp
            with_reducible rfl
           rotate_left
           ·simp only [Act.put, q1_, q2_, q3_, i64_w, i32_w]
            rfl
           refine done_ (done_of HT_.out (by kernel_rfl)) ?_
           have hcz41_0 : w40.cell? ⟨gb456, 0, none⟩ = some (.int .i64 a1_0) := (blk_cell BK456.out 0).trans rfl
           have hcz41_1 : w40.cell? ⟨gb456, 1, none⟩ = some (.slice A1_1 l1_1.length c1_1) := (blk_cell BK456.out 1).trans rfl
           have hcz41_2 : w40.cell? ⟨gb456, 2, none⟩ = some (.slice A1_2 l1_2.length c1_2) := (blk_cell BK456.out 2).trans rfl
           have hfz41_0 := blk_frozen BK456.out 0
           have hfz41_1 := blk_frozen BK456.out 1
           have hfz41_2 := blk_frozen BK456.out 2
           try go_wp2_with (first | ((with_reducible refine gate_builtin (b := .append) (xs := #[.tmp 62, .tmp 66]) rfl ?_); at_builtin; refine Kd.N_append k44 (w0 := w) w.heap.size rfl (.tmp 62) (.tmp 66) 24 44 (.agg #[(.int .i64 0), (.slice none 0 0), (.slice none 0 0), (.int .u64 0)]) 64 rfl Try.underlying24 info44 rfl (by decide) (by omega) v465 y464 (⟨(⟨a1_0, l1_1, l1_2⟩ : S42), a2⟩ : S44) [.int .i64 a1_0, .slice A1_1 l1_1.length c1_1, .slice A1_2 l1_2.length c1_2, .int .u64 a2] (fun k_ => ((P0_ k_ ∨ P1_1_ k_ ∨ P1_2_ k_) ∨ w.heap.size ≤ k_) ∧ k_ ≠ gb456) (fun k_ => ((fun k_ => ((P0_ k_ ∨ P1_1_ k_ ∨ P1_2_ k_) ∨ w.heap.size ≤ k_) ∧ k_ ≠ gb456)) k_ ∧ some k_ ≠ (v465 : Value).ownBlock) rfl rfl ?aP (fun _ hk => hk) ?aF ?aO ?aB ?aS ?aL ?_; (case aP => exact (k44_mkF _ _ (⟨(⟨a1_0, l1_1, l1_2⟩ : S42), a2⟩ : S44) (Kd.V_reads' (Kd.V_mono (ok' := (fun k_ => ((fun k_ => ((P0_ k_ ∨ P1_1_ k_ ∨ P1_2_ k_) ∨ w.heap.size ≤ k_) ∧ k_ ≠ gb456)) k_ ∧ some k_ ≠ (v465 : Value).ownBlock)) (HO_457001.out) (fun k_ hk => ⟨⟨hk.1.1, hk.1.2⟩, hk.2⟩))).2.1 (Kd.V_F (Kd.V_mono (ok' := (fun k_ => ((fun k_ => ((P0_ k_ ∨ P1_1_ k_ ∨ P1_2_ k_) ∨ w.heap.size ≤ k_) ∧ k_ ≠ gb456)) k_ ∧ some k_ ≠ (v465 : Value).ownBlock)) (HO_457001.out) (fun k_ hk => ⟨⟨hk.1.1, hk.1.2⟩, hk.2⟩))) (Kd.V_reads' (Kd.V_mono (ok' := (fun k_ => ((fun k_ => ((P0_ k_ ∨ P1_1_ k_ ∨ P1_2_ k_) ∨ w.heap.size ≤ k_) ∧ k_ ≠ gb456)) k_ ∧ some k_ ≠ (v465 : Value).ownBlock)) (HO_457002.out) (fun k_ hk => ⟨⟨hk.1.1, hk.1.2⟩, hk.2⟩))).2.1 (Kd.V_F (Kd.V_mono (ok' := (fun k_ => ((fun k_ => ((P0_ k_ ∨ P1_1_ k_ ∨ P1_2_ k_) ∨ w.heap.size ≤ k_) ∧ k_ ≠ gb456)) k_ ∧ some k_ ≠ (v465 : Value).ownBlock)) (HO_457002.out) (fun k_ hk => ⟨⟨hk.1.1, hk.1.2⟩, hk.2⟩))))); (case aB => exact (bw_ HB.out)); (case aF => exact (fun k_ hk => ⟨(.inr (Nat.le_trans (below_size (bw_ HB.out)) hk)), Kd.freshB (g := gb456) (o := .cells #[.int .i64 a1_0, .slice A1_1 l1_1.length c1_1, .slice A1_2 l1_2.length c1_2] 42 (0, 0)) (bk_ BK456.out) k_ hk⟩)); (case aO => exact (by (with_reducible repeat (first | apply Kd.N_alloc | apply Kd.N_drewN | apply Kd.N_drew)); exact HO466.out)); (case aS => exact (below_size (bw_ HB.out))); (case aL => have := LMc31.out; omega); intro v482 w42 ho hb hg hat; rw [← Ny481.out] at ho; have n0_ := Aside0.mk (Kd.V_afterv (ok := (fun k_ => ((P0_ k_ ∨ P1_1_ k_ ∨ P1_2_ k_) ∨ w.heap.size ≤ k_) ∧ k_ ≠ gb456)) (by (with_reducible repeat (first | apply Kd.V_alloc | apply Kd.V_drewN | apply Kd.V_drew)); exact HO_0.out) hg hat); have n1_ := Aside0.mk (Kd.V_afterv (ok := (fun k_ => ((P0_ k_ ∨ P1_1_ k_ ∨ P1_2_ k_) ∨ w.heap.size ≤ k_) ∧ k_ ≠ gb456)) (by (with_reducible repeat (first | apply Kd.V_alloc | apply Kd.V_drewN | apply Kd.V_drew)); exact HO_457001.out) hg hat); have n2_ := Aside0.mk (Kd.V_afterv (ok := (fun k_ => ((P0_ k_ ∨ P1_1_ k_ ∨ P1_2_ k_) ∨ w.heap.size ≤ k_) ∧ k_ ≠ gb456)) (by (with_reducible repeat (first | apply Kd.V_alloc | apply Kd.V_drewN | apply Kd.V_drew)); exact HO_457002.out) hg hat); have n3_ := Aside0.mk (blk_grown (g := gb456) (o := .cells #[.int .i64 a1_0, .slice A1_1 l1_1.length c1_1, .slice A1_2 l1_2.length c1_2] 42 (0, 0)) (bk_ BK456.out) hg (Kd.N_ne HO466.out BK456.out (by decide))); have n4_ := Aside0.mk (Kd.V_afterv (ok := (fun k_ => ((P0_ k_ ∨ P1_1_ k_ ∨ P1_2_ k_) ∨ w.heap.size ≤ k_) ∧ k_ ≠ gb456)) (by (with_reducible repeat (first | apply Kd.V_alloc | apply Kd.V_drewN | apply Kd.V_drew)); exact HL457_1.out) hg hat); have n5_ := Aside0.mk (Kd.V_afterv (ok := (fun k_ => ((P0_ k_ ∨ P1_1_ k_ ∨ P1_2_ k_) ∨ w.heap.size ≤ k_) ∧ k_ ≠ gb456)) (by (with_reducible repeat (first | apply Kd.V_alloc | apply Kd.V_drewN | apply Kd.V_drew)); exact HL457_2.out) hg hat); have n6_ := Aside0.mk (Kd.V_afterv (ok := (fun k_ => ((P0_ k_ ∨ P1_1_ k_ ∨ P1_2_ k_) ∨ w.heap.size ≤ k_) ∧ k_ ≠ gb456)) (by (with_reducible repeat (first | apply Kd.V_alloc | apply Kd.V_drewN | apply Kd.V_drew)); exact HO463.out) hg hat); have n7_ := Aside0.mk (Kd.V_afterv (ok := (fun k_ => ((P0_ k_ ∨ P1_1_ k_ ∨ P1_2_ k_) ∨ w.heap.size ≤ k_) ∧ k_ ≠ gb456)) (by (with_reducible repeat (first | apply Kd.V_alloc | apply Kd.V_drewN | apply Kd.V_drew)); exact HL467_1.out) hg hat); have n8_ := Aside0.mk (Kd.V_afterv (ok := (fun k_ => ((P0_ k_ ∨ P1_1_ k_ ∨ P1_2_ k_) ∨ w.heap.size ≤ k_) ∧ k_ ≠ gb456)) (by (with_reducible repeat (first | apply Kd.V_alloc | apply Kd.V_drewN | apply Kd.V_drew)); exact HL467_2.out) hg hat); have n9_ := Aside0.mk (hb); have n10_ := Aside0.mk (ho); clear HO_0 HO_457001 HO_457002 BK456 HL457_1 HL457_2 HO463 HL467_1 HL467_2 HB HO466; have HO_0 := n0_; have HO_457001 := n1_; have HO_457002 := n2_; have BK456 := n3_; have HL457_1 := n4_; have HL457_2 := n5_; have HO463 := n6_; have HL467_1 := n7_; have HL467_2 := n8_; have HB := n9_; have HO483 := n10_; clear n0_ n1_ n2_ n3_ n4_ n5_ n6_ n7_ n8_ n9_ n10_; clear ho hb hg hat; have q43 : (x7_1 : Int) ≤ ((l0.length : Int) : Int) := of_decide_eq_true (by assumption); obtain ⟨i043, hi043, _, hsz43, _⟩ := info_parts info44; have hroom43 : l0.length ≤ c0 := (Kd.V_reads' HO_0.out).2.1; have hC43 : Kd.F k44 _ _ (some ad457) l0.length l0 := (Kd.V_at (base := w.heap.size) HO_0.out).2.2; have q043 : (0 : Int) ≤ (x7_1 : Int) := of_decide_eq_true (by assumption); have hcut43 := cut_from (P := Try.prog) 24 44 .i64 Try.underlying24 hi043 4 hsz43 (some ad457) l0.length c0 x7_1 q043 q43; have hr43 := Kd.F_cut (m := (x7_1 : Int).toNat) (c := c0) hC43 (by omega) hroom43; obtain ⟨A43, hA43⟩ : ∃ A1, A1 = (if c0 = (x7_1 : Int).toNat then (some ad457) else ((some ad457) : Option Addr).map (·.add ((x7_1 : Int).toNat * 4))) := ⟨_, rfl⟩; obtain ⟨c43, hc43⟩ : ∃ c1, c1 = c0 - (x7_1 : Int).toNat := ⟨_, rfl⟩; have hy43 : y484.length = l0.length - (x7_1 : Int).toNat := (by rw [Ny484.out, List.length_drop] <;> omega); rw [show (l0).drop (x7_1 : Int).toNat = y484 from Ny484.out.symm] at hr43; replace hr43 : Kd.F k44 _ _ A43 y484.length y484 := (by rw [hA43]; exact hr43); rw [← hy43, ← hA43, ← hc43] at hcut43; have HO488 := Aside0.mk (show Kd.V k44 44 _ w.heap.size _ (.slice A43 y484.length c43) y484 from Kd.V_mk (by rw [hy43, hc43]; exact Nat.sub_le_sub_right hroom43 _) hr43); have HC488 := Aside0.mk (show y484.length ≤ c43 from by rw [hy43, hc43]; exact Nat.sub_le_sub_right hroom43 _); clear hr43 hC43 hroom43 hi043 hsz43 hc43; have KY43 := Aside0.mk hy43; have KA43 := Aside0.mk hA43; clear hy43 hA43; replace q43 := eq_true q43) | ((with_reducible refine gate_builtin (b := .append) (xs := #[.tmp 68, .tmp 71]) rfl ?_); at_builtin; refine Kd.N_append_rows k44 (w0 := w) w.heap.size rfl (.tmp 68) (.tmp 71) 24 44 (.agg #[(.int .i64 0), (.slice none 0 0), (.slice none 0 0), (.int .u64 0)]) 64 rfl Try.underlying24 info44 rfl (by decide) (by omega) v482 y481 y484 _ _ _ (fun k_ => ((P0_ k_ ∨ P1_1_ k_ ∨ P1_2_ k_) ∨ w.heap.size ≤ k_) ∧ k_ ≠ gb456) (fun k_ => ((fun k_ => ((P0_ k_ ∨ P1_1_ k_ ∨ P1_2_ k_) ∨ w.heap.size ≤ k_) ∧ k_ ≠ gb456)) k_ ∧ some k_ ≠ (v482 : Value).ownBlock) rfl rfl ?aO ?aR (fun _ hk => hk) ?aF ?aB ?aS ?aL ?_; (case aR => exact (by skip; exact Kd.V_F (Kd.V_mono (ok' := (fun k_ => ((fun k_ => ((P0_ k_ ∨ P1_1_ k_ ∨ P1_2_ k_) ∨ w.heap.size ≤ k_) ∧ k_ ≠ gb456)) k_ ∧ some k_ ≠ (v482 : Value).ownBlock)) (HO488.out) (fun k_ hk => ⟨⟨hk.1.1, hk.1.2⟩, hk.2⟩)))); (case aB => exact (bw_ HB.out)); (case aF => exact (fun k_ hk => ⟨(.inr (Nat.le_trans (below_size (bw_ HB.out)) hk)), Kd.freshB (g := gb456) (o := .cells #[.int .i64 a1_0, .slice A1_1 l1_1.length c1_1, .slice A1_2 l1_2.length c1_2] 42 (0, 0)) (bk_ BK456.out) k_ hk⟩)); (case aO => exact (by (with_reducible repeat (first | apply Kd.N_alloc | apply Kd.N_drewN | apply Kd.N_drew)); exact HO483.out)); (case aS => exact (below_size (bw_ HB.out))); (case aL => have := LMc34.out; omega); intro v490 w44 ho hb hg hat; rw [← Ny489.out] at ho; have n0_ := Aside0.mk (Kd.V_afterv (ok := (fun k_ => ((P0_ k_ ∨ P1_1_ k_ ∨ P1_2_ k_) ∨ w.heap.size ≤ k_) ∧ k_ ≠ gb456)) (by (with_reducible repeat (first | apply Kd.V_alloc | apply Kd.V_drewN | apply Kd.V_drew)); exact HO_0.out) hg hat); have n1_ := Aside0.mk (Kd.V_afterv (ok := (fun k_ => ((P0_ k_ ∨ P1_1_ k_ ∨ P1_2_ k_) ∨ w.heap.size ≤ k_) ∧ k_ ≠ gb456)) (by (with_reducible repeat (first | apply Kd.V_alloc | apply Kd.V_drewN | apply Kd.V_drew)); exact HO_457001.out) hg hat); have n2_ := Aside0.mk (Kd.V_afterv (ok := (fun k_ => ((P0_ k_ ∨ P1_1_ k_ ∨ P1_2_ k_) ∨ w.heap.size ≤ k_) ∧ k_ ≠ gb456)) (by (with_reducible repeat (first | apply Kd.V_alloc | apply Kd.V_drewN | apply Kd.V_drew)); exact HO_457002.out) hg hat); have n3_ := Aside0.mk (blk_grown (g := gb456) (o := .cells #[.int .i64 a1_0, .slice A1_1 l1_1.length c1_1, .slice A1_2 l1_2.length c1_2] 42 (0, 0)) (bk_ BK456.out) hg (Kd.N_ne HO483.out BK456.out (by decide))); have n4_ := Aside0.mk (Kd.V_afterv (ok := (fun k_ => ((P0_ k_ ∨ P1_1_ k_ ∨ P1_2_ k_) ∨ w.heap.size ≤ k_) ∧ k_ ≠ gb456)) (by (with_reducible repeat (first | apply Kd.V_alloc | apply Kd.V_drewN | apply Kd.V_drew)); exact HL457_1.out) hg hat); have n5_ := Aside0.mk (Kd.V_afterv (ok := (fun k_ => ((P0_ k_ ∨ P1_1_ k_ ∨ P1_2_ k_) ∨ w.heap.size ≤ k_) ∧ k_ ≠ gb456)) (by (with_reducible repeat (first | apply Kd.V_alloc | apply Kd.V_drewN | apply Kd.V_drew)); exact HL457_2.out) hg hat); have n6_ := Aside0.mk (Kd.V_afterv (ok := (fun k_ => ((P0_ k_ ∨ P1_1_ k_ ∨ P1_2_ k_) ∨ w.heap.size ≤ k_) ∧ k_ ≠ gb456)) (by (with_reducible repeat (first | apply Kd.V_alloc | apply Kd.V_drewN | apply Kd.V_drew)); exact HO463.out) hg hat); have n7_ := Aside0.mk (Kd.V_afterv (ok := (fun k_ => ((P0_ k_ ∨ P1_1_ k_ ∨ P1_2_ k_) ∨ w.heap.size ≤ k_) ∧ k_ ≠ gb456)) (by (with_reducible repeat (first | apply Kd.V_alloc | apply Kd.V_drewN | apply Kd.V_drew)); exact HL467_1.out) hg hat); have n8_ := Aside0.mk (Kd.V_afterv (ok := (fun k_ => ((P0_ k_ ∨ P1_1_ k_ ∨ P1_2_ k_) ∨ w.heap.size ≤ k_) ∧ k_ ≠ gb456)) (by (with_reducible repeat (first | apply Kd.V_alloc | apply Kd.V_drewN | apply Kd.V_drew)); exact HL467_2.out) hg hat); have n9_ := Aside0.mk (Kd.V_afterv (ok := (fun k_ => ((P0_ k_ ∨ P1_1_ k_ ∨ P1_2_ k_) ∨ w.heap.size ≤ k_) ∧ k_ ≠ gb456)) (by (with_reducible repeat (first | apply Kd.V_alloc | apply Kd.V_drewN | apply Kd.V_drew)); exact HO488.out) hg hat); have n10_ := Aside0.mk (hb); have n11_ := Aside0.mk (ho); clear HO_0 HO_457001 HO_457002 BK456 HL457_1 HL457_2 HO463 HL467_1 HL467_2 HO488 HB HO483; have HO_0 := n0_; have HO_457001 := n1_; have HO_457002 := n2_; have BK456 := n3_; have HL457_1 := n4_; have HL457_2 := n5_; have HO463 := n6_; have HL467_1 := n7_; have HL467_2 := n8_; have HO488 := n9_; have HB := n10_; have HO491 := n11_; clear n0_ n1_ n2_ n3_ n4_ n5_ n6_ n7_ n8_ n9_ n10_ n11_; clear ho hb hg hat))
           go_ret
           exact ⟨_, by first | rfl | (simp [errW_none, errW_some] <;> rfl) | (simp [*, errW_none, errW_some] <;> rfl), by (with_reducible repeat (first | apply Kd.N_alloc | apply Kd.N_drewN | apply Kd.N_drew)); exact Kd.N_mono HO491.out (fun _ hk => hk.1), by repeat (first | (with_reducible first | exact HB.out | apply below_alloc | apply pw_below_drewN | apply below_drew1 | refine below_set ?_ GE456.out) | exact HB.out)⟩
          ·rw [if_neg c34] at H
           exact absurd H (by simp)
         ·rw [if_neg c31] at H
          exact absurd H (by simp)
       ·rw [if_neg c13] at H
        exact absurd H (by simp)
      ·rw [if_neg c12] at H
       exact absurd H (by simp)
    ·rw [if_neg c6] at H
     exact absurd H (by simp)
   ·rw [if_neg c5] at H
    have c5b0 : decide (x7_1 < (l0.length : Int)) = false := decide_eq_false c5
    clear c5
    by_cases c45 : 0 ≤ x7_1
    ·rw [if_pos c45] at H
     have c45b0 := eq_true c45
     have c45b1 : decide (0 ≤ x7_1) = true := decide_eq_true c45
     clear c45
     by_cases c46 : x7_1 ≤ (l0.length : Int)
     ·rw [if_pos c46] at H
      have c46b0 := eq_true c46
      have c46b1 : decide (x7_1 ≤ (l0.length : Int)) = true := decide_eq_true c46
      clear c46
      obtain ⟨y492, hy492⟩ : ∃ y_ : List (S44), y_ = (l0.take (x7_1 : Int).toNat) := ⟨_, rfl⟩
      replace H : (if ([] : List (S44)).length + y492.length < 2199023255552 then ((some (([] : List (S44)) ++ y492 : List (S44))).bind fun y497 => (if y497.length < 2199023255552 then ((some (y497 ++ [(⟨(⟨a1_0, l1_1, l1_2⟩ : S42), a2⟩ : S44)] : List (S44))).bind fun y500 => ((some (l0.drop (x7_1 : Int).toNat : List (S44))).bind fun y503 => (if y500.length + y503.length < 2199023255552 then (some (y500 ++ y503)) else (none)))) else (none))) else (none)) = some r := by first | (rw [hy492]; with_reducible exact H) | (have H2_ := (Option.bind_some _ _).symm.trans H; rw [hy492]; with_reducible exact H2_) | (have H2_ := (Option.bind_some _ _).symm.trans H; with_reducible exact H2_) | with_reducible exact H | (rw [hy492]; exact H) | exact H
      have Ny492 := Aside0.mk hy492
      clear hy492
      by_cases c47 : ([] : List (S44)).length + y492.length < 2199023255552
      ·rw [if_pos c47] at H
       have LMc47 := Aside0.mk c47
       clear c47
       obtain ⟨y497, hy497⟩ : ∃ y_ : List (S44), y_ = (([] : List (S44)) ++ y492) := ⟨_, rfl⟩
       replace H : (if y497.length < 2199023255552 then ((some (y497 ++ [(⟨(⟨a1_0, l1_1, l1_2⟩ : S42), a2⟩ : S44)] : List (S44))).bind fun y500 => ((some (l0.drop (x7_1 : Int).toNat : List (S44))).bind fun y503 => (if y500.length + y503.length < 2199023255552 then (some (y500 ++ y503)) else (none)))) else (none)) = some r := by first | (rw [hy497]; with_reducible exact H) | (have H2_ := (Option.bind_some _ _).symm.trans H; rw [hy497]; with_reducible exact H2_) | (have H2_ := (Option.bind_some _ _).symm.trans H; with_reducible exact H2_) | with_reducible exact H | (rw [hy497]; exact H) | exact H
       have Ny497 := Aside0.mk hy497
       clear hy497
       by_cases c48 : y497.length < 2199023255552
       ·rw [if_pos c48] at H
        have LMc48 := Aside0.mk c48
        clear c48
        obtain ⟨y500, hy500⟩ : ∃ y_ : List (S44), y_ = (y497 ++ [(⟨(⟨a1_0, l1_1, l1_2⟩ : S42), a2⟩ : S44)]) := ⟨_, rfl⟩
        replace H : ((some (l0.drop (x7_1 : Int).toNat : List (S44))).bind fun y503 => (if y500.length + y503.length < 2199023255552 then (some (y500 ++ y503)) else (none))) = some r := by first | (rw [hy500]; with_reducible exact H) | (have H2_ := (Option.bind_some _ _).symm.trans H; rw [hy500]; with_reducible exact H2_) | (have H2_ := (Option.bind_some _ _).symm.trans H; with_reducible exact H2_) | with_reducible exact H | (rw [hy500]; exact H) | exact H
        have Ny500 := Aside0.mk hy500
        clear hy500
        have c49b0 := eq_true (of_decide_eq_true (by assumption) : 0 ≤ x7_1)
        have c50b0 := eq_true (of_decide_eq_true (by assumption) : x7_1 ≤ (l0.length : Int))
        obtain ⟨y503, hy503⟩ : ∃ y_ : List (S44), y_ = (l0.drop (x7_1 : Int).toNat) := ⟨_, rfl⟩
        replace H : (if y500.length + y503.length < 2199023255552 then (some (y500 ++ y503)) else (none)) = some r := by first | (rw [hy503]; with_reducible exact H) | (have H2_ := (Option.bind_some _ _).symm.trans H; rw [hy503]; with_reducible exact H2_) | (have H2_ := (Option.bind_some _ _).symm.trans H; with_reducible exact H2_) | with_reducible exact H | (rw [hy503]; exact H) | exact H
        have Ny503 := Aside0.mk hy503
        clear hy503
        by_cases c51 : y500.length + y503.length < 2199023255552
        ·rw [if_pos c51] at H
         have LMc51 := Aside0.mk c51
         clear c51
         obtain ⟨y508, hy508⟩ : ∃ y_ : List (S44), y_ = (y500 ++ y503) := ⟨_, rfl⟩
         replace H : (some y508) = some r := by first | (rw [hy508]; with_reducible exact H) | (have H2_ := (Option.bind_some _ _).symm.trans H; rw [hy508]; with_reducible exact H2_) | (have H2_ := (Option.bind_some _ _).symm.trans H; with_reducible exact H2_) | with_reducible exact H | (rw [hy508]; exact H) | exact H
         have Ny508 := Aside0.mk hy508
         clear hy508
         obtain rfl := Option.some.inj H
         try go_wp2
         have n0_ := Aside0.mk (Kd.V_drew HO_0.out)
         have n1_ := Aside0.mk (Kd.V_drew HO_457001.out)
         have n2_ := Aside0.mk (Kd.V_drew HO_457002.out)
         have n3_ := Aside0.mk (blk_drew BK456.out)
         have n4_ := Aside0.mk (below_drew1 HB.out)
         clear HO_0
         clear HO_457001
         clear HO_457002
         clear BK456
         clear HB
         have HO_0 := n0_
         have HO_457001 := n1_
         have HO_457002 := n2_
         have BK456 := n3_
         have HB := n4_
         clear n0_ n1_ n2_ n3_ n4_
         refine start_ (n := 14) (S := fun w' => True) (ds := []) #[false, false, false, false, false, false, false, false, false, false, false, false, false, false] (by kernel_rfl) rfl rfl trivial (fun hHeld => ?_); refine with_tabW gristmillref04_Put.tab2 gristmillref04_Put.bits2 (fun HT_ HW_ => ?_)
         generalize wr.drew = w52 at HO_0 HO_457001 HO_457002 BK456 HB hHeld ⊢
         refine pure_ (i := 0) (N := some 9) (v := ?_) (a' := ?_) #[true, false, false, false, false, false, false, false, false, false, false, false, false, false] rfl rfl (any_of HT_.out (by kernel_rfl)) (fun _ _ _ h => h) (Or.inl ⟨by rfl, ?_⟩) ?_ ?_
         rotate_left
         ·intro w'
          go_simp
          with_reducible rfl
         rotate_left
         ·simp only [Act.put, q1_, q2_, q3_, i64_w, i32_w]
          rfl
         refine pure_ (i := 1) (N := some 10) (v := ?_) (a' := ?_) #[true, true, false, false, false, false, false, false, false, false, false, false, false, false] rfl rfl (any_of HT_.out (by kernel_rfl)) (fun _ _ _ h => h) (Or.inl ⟨by rfl, ?_⟩) ?_ ?_
         rotate_left
         ·intro w'
          go_simp
          with_reducible rfl
         rotate_left
         ·simp only [Act.put, q1_, q2_, q3_, i64_w, i32_w]
          rfl
         refine pure_ (i := 2) (N := some 11) (v := ?_) (a' := ?_) #[true, true, true, false, false, false, false, false, false, false, false, false, false, false] rfl rfl (any_of HT_.out (by kernel_rfl)) (fun _ _ _ h => h) (Or.inl ⟨by rfl, ?_⟩) ?_ ?_
         rotate_left
         ·intro w'
          go_simp
          with_reducible rfl
         rotate_left
         ·simp only [Act.put, q1_, q2_, q3_, i64_w, i32_w]
          rfl
         refine pure_ (i := 3) (N := some 12) (v := ?_) (a' := ?_) #[true, true, true, true, false, false, false, false, false, false, false, false, false, false] rfl rfl (any_of HT_.out (by kernel_rfl)) (fun _ _ _ h => h) (Or.inl ⟨by rfl, ?_⟩) ?_ ?_
         rotate_left
         ·intro w'
          go_simp
          with_reducible rfl
         rotate_left
         ·simp only [Act.put, q1_, q2_, q3_, i64_w, i32_w]
          rfl
         refine pure_ (i := 4) (N := some 13) (v := ?_) (a' := ?_) #[true, true, true, true, true, false, false, false, false, false, false, false, false, false] rfl rfl (any_of HT_.out (by kernel_rfl)) (fun _ _ _ h => h) (Or.inl ⟨by rfl, ?_⟩) ?_ ?_
         rotate_left
         ·intro w'
          go_simp
          with_reducible rfl
         rotate_left
         ·simp only [Act.put, q1_, q2_, q3_, i64_w, i32_w]
          rfl
         refine pure_ (i := 5) (N := some 14) (v := undef) (a' := ?_) #[true, true, true, true, true, true, false, false, false, false, false, false, false, false] rfl rfl (any_of HT_.out (by kernel_rfl)) (fun _ _ _ h => h) (Or.inr ⟨by rfl, rfl⟩) ?_ ?_
         rotate_left
         ·simp only [Act.put, q1_, q2_, q3_, i64_w, i32_w]
          rfl
         refine pure_ (i := 6) (N := some 15) (v := undef) (a' := ?_) #[true, true, true, true, true, true, true, false, false, false, false, false, false, false] rfl rfl (any_of HT_.out (by kernel_rfl)) (fun _ _ _ h => h) (Or.inr ⟨by rfl, rfl⟩) ?_ ?_
         rotate_left
         ·simp only [Act.put, q1_, q2_, q3_, i64_w, i32_w]
          rfl
         refine pure_ (i := 7) (N := some 16) (v := undef) (a' := ?_) #[true, true, true, true, true, true, true, true, false, false, false, false, false, false] rfl rfl (any_of HT_.out (by kernel_rfl)) (fun _ _ _ h => h) (Or.inr ⟨by rfl, rfl⟩) ?_ ?_
         rotate_left
         ·simp only [Act.put, q1_, q2_, q3_, i64_w, i32_w]
          rfl
         refine pure_ (i := 8) (N := some 17) (v := undef) (a' := ?_) #[true, true, true, true, true, true, true, true, true, false, false, false, false, false] rfl rfl (any_of HT_.out (by kernel_rfl)) (fun _ _ _ h => h) (Or.inr ⟨by rfl, rfl⟩) ?_ ?_
         rotate_left
         ·simp only [Act.put, q1_, q2_, q3_, i64_w, i32_w]
          rfl
         refine pure_ (i := 9) (N := some 18) (v := undef) (a' := ?_) #[true, true, true, true, true, true, true, true, true, true, false, false, false, false] rfl rfl (any_of HT_.out (by kernel_rfl)) (fun _ _ _ h => h) (Or.inr ⟨by rfl, rfl⟩) ?_ ?_
         rotate_left
         ·simp only [Act.put, q1_, q2_, q3_, i64_w, i32_w]
          rfl
         refine pure_ (i := 10) (N := some 19) (v := undef) (a' := ?_) #[true, true, true, true, true, true, true, true, true, true, true, false, false, false] rfl rfl (any_of HT_.out (by kernel_rfl)) (fun _ _ _ h => h) (Or.inr ⟨by rfl, rfl⟩) ?_ ?_
         rotate_left
         ·simp only [Act.put, q1_, q2_, q3_, i64_w, i32_w]
          rfl
         refine pure_ (i := 11) (N := some 20) (v := undef) (a' := ?_) #[true, true, true, true, true, true, true, true, true, true, true, true, false, false] rfl rfl (any_of HT_.out (by kernel_rfl)) (fun _ _ _ h => h) (Or.inr ⟨by rfl, rfl⟩) ?_ ?_
         rotate_left
         ·simp only [Act.put, q1_, q2_, q3_, i64_w, i32_w]
          rfl
         refine pure_ (i := 12) (N := some 21) (v := undef) (a' := ?_) #[true, true, true, true, true, true, true, true, true, true, true, true, true, false] rfl rfl (any_of HT_.out (by kernel_rfl)) (fun _ _ _ h => h) (Or.inr ⟨by rfl, rfl⟩) ?_ ?_
         rotate_left
         ·simp only [Act.put, q1_, q2_, q3_, i64_w, i32_w]
          rfl
         refine pure_ (i := 13) (N := some 22) (v := ?_) (a' := ?_) #[true, true, true, true, true, true, true, true, true, true, true, true, true, true] rfl rfl (any_of HT_.out (by kernel_rfl)) (fun _ _ _ h => h) (Or.inl ⟨by rfl, ?_⟩) ?_ ?_
         rotate_left
         ·intro w'
          go_simp
          with_reducible rfl
         rotate_left
         ·simp only [Act.put, q1_, q2_, q3_, i64_w, i32_w]
          rfl
         refine done_ (done_of HT_.out (by kernel_rfl)) ?_
         have q53 : (x7_1 : Int) ≤ ((l0.length : Int) : Int) := of_decide_eq_true (by assumption)
         obtain ⟨i053, hi053, _, hsz53, _⟩ := info_parts info44
         have hroom53 : l0.length ≤ c0 := (Kd.V_reads' HO_0.out).2.1
         have hC53 : Kd.F k44 _ _ A0 l0.length l0 := (Kd.V_at (base := w.heap.size) HO_0.out).2.2
         have hcut53 := cut_to (P := Try.prog) 24 44 .i64 Try.underlying24 hi053 A0 l0.length c0 x7_1 (of_decide_eq_true (by assumption)) q53 hroom53
         have hr53 := Kd.F_take (m := (x7_1 : Int).toNat) hC53 (by omega)
         have hy53 : y492.length = (x7_1 : Int).toNat := (by rw [Ny492.out, List.length_take]; omega)
         rw [← Ny492.out] at hr53
         rw [← hy53] at hcut53
         have HO496 := Aside0.mk (show Kd.V k44 44 _ w.heap.size _ (.slice A0 y492.length c0) y492 from Kd.V_mk (by omega) hr53)
         have HC496 := Aside0.mk (show y492.length ≤ c0 from by omega)
         clear hr53 hC53 hroom53 hi053 hsz53
         have KY53 := Aside0.mk hy53
         clear hy53
         replace q53 := eq_true q53
         try go_wp2_with (first | ((with_reducible refine gate_builtin (b := .append) (xs := #[.tmp 25, .tmp 28]) rfl ?_); at_builtin; refine Kd.N_append_rows k44 (w0 := w) w.heap.size rfl (.tmp 25) (.tmp 28) 24 44 (.agg #[(.int .i64 0), (.slice none 0 0), (.slice none 0 0), (.int .u64 0)]) 64 rfl Try.underlying24 info44 rfl (by decide) (by omega) (.slice none 0 0) ([] : List (S44)) y492 _ _ _ (fun k_ => ((P0_ k_ ∨ P1_1_ k_ ∨ P1_2_ k_) ∨ w.heap.size ≤ k_) ∧ k_ ≠ gb456) (fun k_ => ((fun k_ => ((P0_ k_ ∨ P1_1_ k_ ∨ P1_2_ k_) ∨ w.heap.size ≤ k_) ∧ k_ ≠ gb456)) k_ ∧ some k_ ≠ (.slice none 0 0 : Value).ownBlock) rfl rfl ?aO ?aR (fun _ hk => hk) ?aF ?aB ?aS ?aL ?_; (case aR => exact (by skip; exact Kd.V_F (Kd.V_mono (ok' := (fun k_ => ((fun k_ => ((P0_ k_ ∨ P1_1_ k_ ∨ P1_2_ k_) ∨ w.heap.size ≤ k_) ∧ k_ ≠ gb456)) k_ ∧ some k_ ≠ (.slice none 0 0 : Value).ownBlock)) (HO496.out) (fun k_ hk => ⟨⟨hk.1, hk.2⟩, (by simp [Value.ownBlock])⟩)))); (case aB => exact (bw_ HB.out)); (case aF => exact (fun k_ hk => ⟨(.inr (Nat.le_trans (below_size (bw_ HB.out)) hk)), Kd.freshB (g := gb456) (o := .cells #[.int .i64 a1_0, .slice A1_1 l1_1.length c1_1, .slice A1_2 l1_2.length c1_2] 42 (0, 0)) (bk_ BK456.out) k_ hk⟩)); (case aO => exact ((Kd.N_nil _ _ _ _ (fun k_ => ((P0_ k_ ∨ P1_1_ k_ ∨ P1_2_ k_) ∨ w.heap.size ≤ k_) ∧ k_ ≠ gb456)))); (case aS => exact (below_size (bw_ HB.out))); (case aL => have := LMc47.out; omega); intro v498 w54 ho hb hg hat; rw [← Ny497.out] at ho; have n0_ := Aside0.mk (Kd.V_afterv (Kd.V_apart_nil (by (with_reducible repeat (first | apply Kd.V_alloc | apply Kd.V_drewN | apply Kd.V_drew)); exact HO_0.out)) hg hat); have n1_ := Aside0.mk (Kd.V_afterv (Kd.V_apart_nil (by (with_reducible repeat (first | apply Kd.V_alloc | apply Kd.V_drewN | apply Kd.V_drew)); exact HO_457001.out)) hg hat); have n2_ := Aside0.mk (Kd.V_afterv (Kd.V_apart_nil (by (with_reducible repeat (first | apply Kd.V_alloc | apply Kd.V_drewN | apply Kd.V_drew)); exact HO_457002.out)) hg hat); have n3_ := Aside0.mk (blk_grown (g := gb456) (o := .cells #[.int .i64 a1_0, .slice A1_1 l1_1.length c1_1, .slice A1_2 l1_2.length c1_2] 42 (0, 0)) (bk_ BK456.out) hg (by simp [Value.ownBlock])); have n4_ := Aside0.mk (Kd.V_afterv (Kd.V_apart_nil (by (with_reducible repeat (first | apply Kd.V_alloc | apply Kd.V_drewN | apply Kd.V_drew)); exact HO496.out)) hg hat); have n5_ := Aside0.mk (hb); have n6_ := Aside0.mk (ho); clear HO_0 HO_457001 HO_457002 BK456 HO496 HB; have HO_0 := n0_; have HO_457001 := n1_; have HO_457002 := n2_; have BK456 := n3_; have HO496 := n4_; have HB := n5_; have HO499 := n6_; clear n0_ n1_ n2_ n3_ n4_ n5_ n6_; clear ho hb hg hat))
         have n0_ := Aside0.mk (Kd.V_drew HO_0.out)
         have n1_ := Aside0.mk (Kd.V_drew HO_457001.out)
         have n2_ := Aside0.mk (Kd.V_drew HO_457002.out)
         have n3_ := Aside0.mk (Kd.V_drew HO496.out)
         have n4_ := Aside0.mk (Kd.N_drew HO499.out)
         have n5_ := Aside0.mk (blk_drew BK456.out)
         have n6_ := Aside0.mk (below_drew1 HB.out)
         clear HO_0
         clear HO_457001
         clear HO_457002
         clear HO496
         clear HO499
         clear BK456
         clear HB
         have HO_0 := n0_
         have HO_457001 := n1_
         have HO_457002 := n2_
         have HO496 := n3_
         have HO499 := n4_
         have BK456 := n5_
         have HB := n6_
         clear n0_ n1_ n2_ n3_ n4_ n5_ n6_
         refine start_ (n := 14) (S := fun w' => True) (ds := []) #[false, false, false, false, false, false, false, false, false, false, false, false, false, false] (by kernel_rfl) rfl rfl trivial (fun hHeld => ?_); refine with_tabW gristmillref04_Put.tab6 gristmillref04_Put.bits6 (fun HT_ HW_ => ?_)
         generalize w54.drew = w55 at HO_0 HO_457001 HO_457002 HO496 HO499 BK456 HB hHeld ⊢
         refine pure_ (i := 0) (N := some 30) (v := ?_) (a' := ?_) #[true, false, false, false, false, false, false, false, false, false, false, false, false, false] rfl rfl (any_of HT_.out (by kernel_rfl)) (fun _ _ _ h => h) (Or.inl ⟨by rfl, ?_⟩) ?_ ?_
         rotate_left
         ·intro w'
          go_simp
          with_reducible rfl
         rotate_left
         ·simp only [Act.put, q1_, q2_, q3_, i64_w, i32_w]
          rfl
         refine pure_ (i := 1) (N := some 31) (v := ?_) (a' := ?_) #[true, true, false, false, false, false, false, false, false, false, false, false, false, false] rfl rfl (any_of HT_.out (by kernel_rfl)) (fun _ _ _ h => h) (Or.inl ⟨by rfl, ?_⟩) ?_ ?_
         rotate_left
         ·intro w'
          go_simp
          with_reducible rfl
         rotate_left
         ·simp only [Act.put, q1_, q2_, q3_, i64_w, i32_w]
          rfl
         refine pure_ (i := 2) (N := some 32) (v := ?_) (a' := ?_) #[true, true, true, false, false, false, false, false, false, false, false, false, false, false] rfl rfl (any_of HT_.out (by kernel_rfl)) (fun _ _ _ h => h) (Or.inl ⟨by rfl, ?_⟩) ?_ ?_
         rotate_left
         ·intro w'
          go_simp
          with_reducible rfl
         rotate_left
         ·simp only [Act.put, q1_, q2_, q3_, i64_w, i32_w]
          rfl
         refine pure_ (i := 3) (N := some 33) (v := ?_) (a' := ?_) #[true, true, true, true, false, false, false, false, false, false, false, false, false, false] rfl rfl (any_of HT_.out (by kernel_rfl)) (fun _ _ _ h => h) (Or.inl ⟨by rfl, ?_⟩) ?_ ?_
         rotate_left
         ·intro w'
          go_simp
          with_reducible rfl
         rotate_left
         ·simp only [Act.put, q1_, q2_, q3_, i64_w, i32_w]
          rfl
         refine pure_ (i := 4) (N := some 34) (v := ?_) (a' := ?_) #[true, true, true, true, true, false, false, false, false, false, false, false, false, false] rfl rfl (any_of HT_.out (by kernel_rfl)) (fun _ _ _ h => h) (Or.inl ⟨by rfl, ?_⟩) ?_ ?_
         rotate_left
         ·intro w'
          go_simp
          with_reducible rfl
         rotate_left
         ·simp only [Act.put, q1_, q2_, q3_, i64_w, i32_w]
          rfl
         refine pure_ (i := 5) (N := some 35) (v := undef) (a' := ?_) #[true, true, true, true, true, true, false, false, false, false, false, false, false, false] rfl rfl (any_of HT_.out (by kernel_rfl)) (fun _ _ _ h => h) (Or.inr ⟨by rfl, rfl⟩) ?_ ?_
         rotate_left
         ·simp only [Act.put, q1_, q2_, q3_, i64_w, i32_w]
          rfl
         refine pure_ (i := 6) (N := some 36) (v := undef) (a' := ?_) #[true, true, true, true, true, true, true, false, false, false, false, false, false, false] rfl rfl (any_of HT_.out (by kernel_rfl)) (fun _ _ _ h => h) (Or.inr ⟨by rfl, rfl⟩) ?_ ?_
         rotate_left
         ·simp only [Act.put, q1_, q2_, q3_, i64_w, i32_w]
          rfl
         refine pure_ (i := 7) (N := some 37) (v := undef) (a' := ?_) #[true, true, true, true, true, true, true, true, false, false, false, false, false, false] rfl rfl (any_of HT_.out (by kernel_rfl)) (fun _ _ _ h => h) (Or.inr ⟨by rfl, rfl⟩) ?_ ?_
         rotate_left
         ·simp only [Act.put, q1_, q2_, q3_, i64_w, i32_w]
          rfl
         refine pure_ (i := 8) (N := some 38) (v := undef) (a' := ?_) #[true, true, true, true, true, true, true, true, true, false, false, false, false, false] rfl rfl (any_of HT_.out (by kernel_rfl)) (fun _ _ _ h => h) (Or.inr ⟨by rfl, rfl⟩) ?_ ?_
         rotate_left
         ·simp only [Act.put, q1_, q2_, q3_, i64_w, i32_w]
          rfl
         refine pure_ (i := 9) (N := some 39) (v := undef) (a' := ?_) #[true, true, true, true, true, true, true, true, true, true, false, false, false, false] rfl rfl (any_of HT_.out (by kernel_rfl)) (fun _ _ _ h => h) (Or.inr ⟨by rfl, rfl⟩) ?_ ?_
         rotate_left
         ·simp only [Act.put, q1_, q2_, q3_, i64_w, i32_w]
          rfl
         refine pure_ (i := 10) (N := some 40) (v := undef) (a' := ?_) #[true, true, true, true, true, true, true, true, true, true, true, false, false, false] rfl rfl (any_of HT_.out (by kernel_rfl)) (fun _ _ _ h => h) (Or.inr ⟨by rfl, rfl⟩) ?_ ?_
         rotate_left
         ·simp only [Act.put, q1_, q2_, q3_, i64_w, i32_w]
          rfl
         refine pure_ (i := 11) (N := some 41) (v := undef) (a' := ?_) #[true, true, true, true, true, true, true, true, true, true, true, true, false, false] rfl rfl (any_of HT_.out (by kernel_rfl)) (fun _ _ _ h => h) (Or.inr ⟨by rfl, rfl⟩) ?_ ?_
         rotate_left
         ·simp only [Act.put, q1_, q2_, q3_, i64_w, i32_w]
          rfl
         refine pure_ (i := 12) (N := some 42) (v := undef) (a' := ?_) #[true, true, true, true, true, true, true, true, true, true, true, true, true, false] rfl rfl (any_of HT_.out (by kernel_rfl)) (fun _ _ _ h => h) (Or.inr ⟨by rfl, rfl⟩) ?_ ?_
         rotate_left
         ·simp only [Act.put, q1_, q2_, q3_, i64_w, i32_w]
          rfl
         refine pure_ (i := 13) (N := some 43) (v := ?_) (a' := ?_) #[true, true, true, true, true, true, true, true, true, true, true, true, true, true] rfl rfl (any_of HT_.out (by kernel_rfl)) (fun _ _ _ h => h) (Or.inl ⟨by rfl, ?_⟩) ?_ ?_
         rotate_left
         ·intro w'
          go_simp
          with_reducible rfl
         rotate_left
         ·simp only [Act.put, q1_, q2_, q3_, i64_w, i32_w]
          rfl
         refine done_ (done_of HT_.out (by kernel_rfl)) ?_
         have hcz56_0 : w55.cell? ⟨gb456, 0, none⟩ = some (.int .i64 a1_0) := (blk_cell BK456.out 0).trans rfl
         have hcz56_1 : w55.cell? ⟨gb456, 1, none⟩ = some (.slice A1_1 l1_1.length c1_1) := (blk_cell BK456.out 1).trans rfl
         have hcz56_2 : w55.cell? ⟨gb456, 2, none⟩ = some (.slice A1_2 l1_2.length c1_2) := (blk_cell BK456.out 2).trans rfl
         have hfz56_0 := blk_frozen BK456.out 0
         have hfz56_1 := blk_frozen BK456.out 1
         have hfz56_2 := blk_frozen BK456.out 2
         try go_wp2_with (first | ((with_reducible refine gate_builtin (b := .append) (xs := #[.tmp 62, .tmp 66]) rfl ?_); at_builtin; refine Kd.N_append k44 (w0 := w) w.heap.size rfl (.tmp 62) (.tmp 66) 24 44 (.agg #[(.int .i64 0), (.slice none 0 0), (.slice none 0 0), (.int .u64 0)]) 64 rfl Try.underlying24 info44 rfl (by decide) (by omega) v498 y497 (⟨(⟨a1_0, l1_1, l1_2⟩ : S42), a2⟩ : S44) [.int .i64 a1_0, .slice A1_1 l1_1.length c1_1, .slice A1_2 l1_2.length c1_2, .int .u64 a2] (fun k_ => ((P0_ k_ ∨ P1_1_ k_ ∨ P1_2_ k_) ∨ w.heap.size ≤ k_) ∧ k_ ≠ gb456) (fun k_ => ((fun k_ => ((P0_ k_ ∨ P1_1_ k_ ∨ P1_2_ k_) ∨ w.heap.size ≤ k_) ∧ k_ ≠ gb456)) k_ ∧ some k_ ≠ (v498 : Value).ownBlock) rfl rfl ?aP (fun _ hk => hk) ?aF ?aO ?aB ?aS ?aL ?_; (case aP => exact (k44_mkF _ _ (⟨(⟨a1_0, l1_1, l1_2⟩ : S42), a2⟩ : S44) (Kd.V_reads' (Kd.V_mono (ok' := (fun k_ => ((fun k_ => ((P0_ k_ ∨ P1_1_ k_ ∨ P1_2_ k_) ∨ w.heap.size ≤ k_) ∧ k_ ≠ gb456)) k_ ∧ some k_ ≠ (v498 : Value).ownBlock)) (HO_457001.out) (fun k_ hk => ⟨⟨hk.1.1, hk.1.2⟩, hk.2⟩))).2.1 (Kd.V_F (Kd.V_mono (ok' := (fun k_ => ((fun k_ => ((P0_ k_ ∨ P1_1_ k_ ∨ P1_2_ k_) ∨ w.heap.size ≤ k_) ∧ k_ ≠ gb456)) k_ ∧ some k_ ≠ (v498 : Value).ownBlock)) (HO_457001.out) (fun k_ hk => ⟨⟨hk.1.1, hk.1.2⟩, hk.2⟩))) (Kd.V_reads' (Kd.V_mono (ok' := (fun k_ => ((fun k_ => ((P0_ k_ ∨ P1_1_ k_ ∨ P1_2_ k_) ∨ w.heap.size ≤ k_) ∧ k_ ≠ gb456)) k_ ∧ some k_ ≠ (v498 : Value).ownBlock)) (HO_457002.out) (fun k_ hk => ⟨⟨hk.1.1, hk.1.2⟩, hk.2⟩))).2.1 (Kd.V_F (Kd.V_mono (ok' := (fun k_ => ((fun k_ => ((P0_ k_ ∨ P1_1_ k_ ∨ P1_2_ k_) ∨ w.heap.size ≤ k_) ∧ k_ ≠ gb456)) k_ ∧ some k_ ≠ (v498 : Value).ownBlock)) (HO_457002.out) (fun k_ hk => ⟨⟨hk.1.1, hk.1.2⟩, hk.2⟩))))); (case aB => exact (bw_ HB.out)); (case aF => exact (fun k_ hk => ⟨(.inr (Nat.le_trans (below_size (bw_ HB.out)) hk)), Kd.freshB (g := gb456) (o := .cells #[.int .i64 a1_0, .slice A1_1 l1_1.length c1_1, .slice A1_2 l1_2.length c1_2] 42 (0, 0)) (bk_ BK456.out) k_ hk⟩)); (case aO => exact (by (with_reducible repeat (first | apply Kd.N_alloc | apply Kd.N_drewN | apply Kd.N_drew)); exact HO499.out)); (case aS => exact (below_size (bw_ HB.out))); (case aL => have := LMc48.out; omega); intro v501 w57 ho hb hg hat; rw [← Ny500.out] at ho; have n0_ := Aside0.mk (Kd.V_afterv (ok := (fun k_ => ((P0_ k_ ∨ P1_1_ k_ ∨ P1_2_ k_) ∨ w.heap.size ≤ k_) ∧ k_ ≠ gb456)) (by (with_reducible repeat (first | apply Kd.V_alloc | apply Kd.V_drewN | apply Kd.V_drew)); exact HO_0.out) hg hat); have n1_ := Aside0.mk (Kd.V_afterv (ok := (fun k_ => ((P0_ k_ ∨ P1_1_ k_ ∨ P1_2_ k_) ∨ w.heap.size ≤ k_) ∧ k_ ≠ gb456)) (by (with_reducible repeat (first | apply Kd.V_alloc | apply Kd.V_drewN | apply Kd.V_drew)); exact HO_457001.out) hg hat); have n2_ := Aside0.mk (Kd.V_afterv (ok := (fun k_ => ((P0_ k_ ∨ P1_1_ k_ ∨ P1_2_ k_) ∨ w.heap.size ≤ k_) ∧ k_ ≠ gb456)) (by (with_reducible repeat (first | apply Kd.V_alloc | apply Kd.V_drewN | apply Kd.V_drew)); exact HO_457002.out) hg hat); have n3_ := Aside0.mk (blk_grown (g := gb456) (o := .cells #[.int .i64 a1_0, .slice A1_1 l1_1.length c1_1, .slice A1_2 l1_2.length c1_2] 42 (0, 0)) (bk_ BK456.out) hg (Kd.N_ne HO499.out BK456.out (by decide))); have n4_ := Aside0.mk (Kd.V_afterv (ok := (fun k_ => ((P0_ k_ ∨ P1_1_ k_ ∨ P1_2_ k_) ∨ w.heap.size ≤ k_) ∧ k_ ≠ gb456)) (by (with_reducible repeat (first | apply Kd.V_alloc | apply Kd.V_drewN | apply Kd.V_drew)); exact HO496.out) hg hat); have n5_ := Aside0.mk (hb); have n6_ := Aside0.mk (ho); clear HO_0 HO_457001 HO_457002 BK456 HO496 HB HO499; have HO_0 := n0_; have HO_457001 := n1_; have HO_457002 := n2_; have BK456 := n3_; have HO496 := n4_; have HB := n5_; have HO502 := n6_; clear n0_ n1_ n2_ n3_ n4_ n5_ n6_; clear ho hb hg hat; have q58 : (x7_1 : Int) ≤ ((l0.length : Int) : Int) := of_decide_eq_true (by assumption); obtain ⟨i058, hi058, _, hsz58, _⟩ := info_parts info44; have hroom58 : l0.length ≤ c0 := (Kd.V_reads' HO_0.out).2.1; have hC58 : Kd.F k44 _ _ A0 l0.length l0 := (Kd.V_at (base := w.heap.size) HO_0.out).2.2; have q058 : (0 : Int) ≤ (x7_1 : Int) := of_decide_eq_true (by assumption); have hcut58 := cut_from (P := Try.prog) 24 44 .i64 Try.underlying24 hi058 4 hsz58 A0 l0.length c0 x7_1 q058 q58; have hr58 := Kd.F_cut (m := (x7_1 : Int).toNat) (c := c0) hC58 (by omega) hroom58; obtain ⟨A58, hA58⟩ : ∃ A1, A1 = (if c0 = (x7_1 : Int).toNat then A0 else (A0 : Option Addr).map (·.add ((x7_1 : Int).toNat * 4))) := ⟨_, rfl⟩; obtain ⟨c58, hc58⟩ : ∃ c1, c1 = c0 - (x7_1 : Int).toNat := ⟨_, rfl⟩; have hy58 : y503.length = l0.length - (x7_1 : Int).toNat := (by rw [Ny503.out, List.length_drop] <;> omega); rw [show (l0).drop (x7_1 : Int).toNat = y503 from Ny503.out.symm] at hr58; replace hr58 : Kd.F k44 _ _ A58 y503.length y503 := (by rw [hA58]; exact hr58); rw [← hy58, ← hA58, ← hc58] at hcut58; have HO507 := Aside0.mk (show Kd.V k44 44 _ w.heap.size _ (.slice A58 y503.length c58) y503 from Kd.V_mk (by rw [hy58, hc58]; exact Nat.sub_le_sub_right hroom58 _) hr58); have HC507 := Aside0.mk (show y503.length ≤ c58 from by rw [hy58, hc58]; exact Nat.sub_le_sub_right hroom58 _); clear hr58 hC58 hroom58 hi058 hsz58 hc58; have KY58 := Aside0.mk hy58; have KA58 := Aside0.mk hA58; clear hy58 hA58; replace q58 := eq_true q58) | ((with_reducible refine gate_builtin (b := .append) (xs := #[.tmp 68, .tmp 71]) rfl ?_); at_builtin; refine Kd.N_append_rows k44 (w0 := w) w.heap.size rfl (.tmp 68) (.tmp 71) 24 44 (.agg #[(.int .i64 0), (.slice none 0 0), (.slice none 0 0), (.int .u64 0)]) 64 rfl Try.underlying24 info44 rfl (by decide) (by omega) v501 y500 y503 _ _ _ (fun k_ => ((P0_ k_ ∨ P1_1_ k_ ∨ P1_2_ k_) ∨ w.heap.size ≤ k_) ∧ k_ ≠ gb456) (fun k_ => ((fun k_ => ((P0_ k_ ∨ P1_1_ k_ ∨ P1_2_ k_) ∨ w.heap.size ≤ k_) ∧ k_ ≠ gb456)) k_ ∧ some k_ ≠ (v501 : Value).ownBlock) rfl rfl ?aO ?aR (fun _ hk => hk) ?aF ?aB ?aS ?aL ?_; (case aR => exact (by skip; exact Kd.V_F (Kd.V_mono (ok' := (fun k_ => ((fun k_ => ((P0_ k_ ∨ P1_1_ k_ ∨ P1_2_ k_) ∨ w.heap.size ≤ k_) ∧ k_ ≠ gb456)) k_ ∧ some k_ ≠ (v501 : Value).ownBlock)) (HO507.out) (fun k_ hk => ⟨⟨hk.1.1, hk.1.2⟩, hk.2⟩)))); (case aB => exact (bw_ HB.out)); (case aF => exact (fun k_ hk => ⟨(.inr (Nat.le_trans (below_size (bw_ HB.out)) hk)), Kd.freshB (g := gb456) (o := .cells #[.int .i64 a1_0, .slice A1_1 l1_1.length c1_1, .slice A1_2 l1_2.length c1_2] 42 (0, 0)) (bk_ BK456.out) k_ hk⟩)); (case aO => exact (by (with_reducible repeat (first | apply Kd.N_alloc | apply Kd.N_drewN | apply Kd.N_drew)); exact HO502.out)); (case aS => exact (below_size (bw_ HB.out))); (case aL => have := LMc51.out; omega); intro v509 w59 ho hb hg hat; rw [← Ny508.out] at ho; have n0_ := Aside0.mk (Kd.V_afterv (ok := (fun k_ => ((P0_ k_ ∨ P1_1_ k_ ∨ P1_2_ k_) ∨ w.heap.size ≤ k_) ∧ k_ ≠ gb456)) (by (with_reducible repeat (first | apply Kd.V_alloc | apply Kd.V_drewN | apply Kd.V_drew)); exact HO_0.out) hg hat); have n1_ := Aside0.mk (Kd.V_afterv (ok := (fun k_ => ((P0_ k_ ∨ P1_1_ k_ ∨ P1_2_ k_) ∨ w.heap.size ≤ k_) ∧ k_ ≠ gb456)) (by (with_reducible repeat (first | apply Kd.V_alloc | apply Kd.V_drewN | apply Kd.V_drew)); exact HO_457001.out) hg hat); have n2_ := Aside0.mk (Kd.V_afterv (ok := (fun k_ => ((P0_ k_ ∨ P1_1_ k_ ∨ P1_2_ k_) ∨ w.heap.size ≤ k_) ∧ k_ ≠ gb456)) (by (with_reducible repeat (first | apply Kd.V_alloc | apply Kd.V_drewN | apply Kd.V_drew)); exact HO_457002.out) hg hat); have n3_ := Aside0.mk (blk_grown (g := gb456) (o := .cells #[.int .i64 a1_0, .slice A1_1 l1_1.length c1_1, .slice A1_2 l1_2.length c1_2] 42 (0, 0)) (bk_ BK456.out) hg (Kd.N_ne HO502.out BK456.out (by decide))); have n4_ := Aside0.mk (Kd.V_afterv (ok := (fun k_ => ((P0_ k_ ∨ P1_1_ k_ ∨ P1_2_ k_) ∨ w.heap.size ≤ k_) ∧ k_ ≠ gb456)) (by (with_reducible repeat (first | apply Kd.V_alloc | apply Kd.V_drewN | apply Kd.V_drew)); exact HO496.out) hg hat); have n5_ := Aside0.mk (Kd.V_afterv (ok := (fun k_ => ((P0_ k_ ∨ P1_1_ k_ ∨ P1_2_ k_) ∨ w.heap.size ≤ k_) ∧ k_ ≠ gb456)) (by (with_reducible repeat (first | apply Kd.V_alloc | apply Kd.V_drewN | apply Kd.V_drew)); exact HO507.out) hg hat); have n6_ := Aside0.mk (hb); have n7_ := Aside0.mk (ho); clear HO_0 HO_457001 HO_457002 BK456 HO496 HO507 HB HO502; have HO_0 := n0_; have HO_457001 := n1_; have HO_457002 := n2_; have BK456 := n3_; have HO496 := n4_; have HO507 := n5_; have HB := n6_; have HO510 := n7_; clear n0_ n1_ n2_ n3_ n4_ n5_ n6_ n7_; clear ho hb hg hat))
         go_ret
         exact ⟨_, by first | rfl | (simp [errW_none, errW_some] <;> rfl) | (simp [*, errW_none, errW_some] <;> rfl), by (with_reducible repeat (first | apply Kd.N_alloc | apply Kd.N_drewN | apply Kd.N_drew)); exact Kd.N_mono HO510.out (fun _ hk => hk.1), by repeat (first | (with_reducible first | exact HB.out | apply below_alloc | apply pw_below_drewN | apply below_drew1 | refine below_set ?_ GE456.out) | exact HB.out)⟩
        ·rw [if_neg c51] at H
         exact absurd H (by simp)
       ·rw [if_neg c48] at H
        exact absurd H (by simp)
      ·rw [if_neg c47] at H
       exact absurd H (by simp)
     ·rw [if_neg c46] at H
      exact absurd H (by simp)
    ·rw [if_neg c45] at H
     exact absurd H (by simp)
end Go.Proofs.Ytmjhgeinhhhodaa.P
end
