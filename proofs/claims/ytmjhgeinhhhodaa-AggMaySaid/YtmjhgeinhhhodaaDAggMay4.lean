/- Texts of this repo, joined, without what this claim does not use: P27, Rises, ExtAwake. -/
import Derived.Test.YtmjhgeinhhhodaaDAggMay1
import Derived.Test.YtmjhgeinhhhodaaDAggMay2
import Derived.Test.YtmjhgeinhhhodaaDAggMay3
section
namespace Go.Proofs.Ytmjhgeinhhhodaa.P
open Go.RowKit Go.Proofs.YtmjhgeinhhhodaaW.PrintWords Go.Proofs.YtmjhgeinhhhodaaW.PrintLast Go.Proofs.YtmjhgeinhhhodaaW.PrintMore
attribute [local go_sem] max2_int min2_int max_two min_two max_three min_three max_four min_four   -- for this text's walks alone
set_option linter.unusedVariables false
set_option linter.unusedSimpArgs false
open Go.Proofs.Ytmjhgeinhhhodaa.Ext (q1_ q2_ q3_ bk_ bw_ sz_ ne_ bx_)
attribute [local go_sem high] Go.Proofs.Ytmjhgeinhhhodaa.Ext.gtr_str Go.Proofs.Ytmjhgeinhhhodaa.Ext.leq_str Go.Proofs.Ytmjhgeinhhhodaa.Ext.geq_str
def agg_May.f (k : Nat) (a0_0 : Int) (a0_1 : Int) (a1_0 : Int) (a1_1 : Int) (a2_0 : Int) (a2_1 : Int) (l2_2 : List ByteArray) : Option (Bool) := (agg_Check.f a0_0 a0_1 (([(⟨a1_0, a1_1⟩ : S23)] : List (S23)))).bind fun t567 => (if t567 = 0 then (if a1_0 = 5 then ((slices_IsSorted_string_string.f k l2_2).bind fun t568 => (if t568 = true then ((slices_Clone_string_string.f l2_2).bind fun t569 => ((slices_Compact_string_string.f t569).bind fun t572 => ((slices_ContainsFunc_string_string_at_agg_May_1.f l2_2).bind fun t575 => (if a2_1 = 0 then (if (t572.length : Int) = (l2_2.length : Int) then (if t575 = true then (some false) else (if (IntKind.u64.wrap ((l2_2.length : Int))) ≤ a2_0 then (some ((decide ((l2_2.length : Int) > 0)) == (decide (a2_0 > 0)))) else (some false))) else (some false)) else (some false))))) else ((slices_ContainsFunc_string_string_at_agg_May_1.f l2_2).bind fun t576 => (if a2_1 = 0 then (some false) else (some false))))) else (if (l2_2.length : Int) = 0 then (if a2_1 = 0 then (some true) else (if a2_0 = 0 then (some false) else (some (a1_0 != 1)))) else (some false))) else (some false))
set_option maxHeartbeats 8000000 in
set_option maxRecDepth 100000 in
theorem agg_May.calls (k : Nat) (a0_0 : Int) (a0_1 : Int) (a1_0 : Int) (a1_1 : Int) (a2_0 : Int) (a2_1 : Int) (A2_2 : Option Addr) (c2_2 : Nat) (l2_2 : List ByteArray) (r : Bool) (w : World) (hr2_2 : Kd.C Kd.string w A2_2 l2_2.length l2_2) (hc2_2 : l2_2.length ≤ c2_2) (h : agg_May.f k a0_0 a0_1 a1_0 a1_1 a2_0 a2_1 l2_2 = some r) :
  Calls Try.prog 23 #[.agg #[.int .i64 a0_0, .int .i64 a0_1], .agg #[.int .i64 a1_0, .int .i64 a1_1], .agg #[.int .u64 a2_0, .int .i64 a2_1, .slice A2_2 l2_2.length c2_2]] w fun e w' => e = .returned (.bool r) ∧ Below w.heap.size w w' := by
 have hu27 := Try.underlying27
 have hu23 := Try.underlying23
 have hu33 := Try.underlying33
 have HR2_2 := Aside0.mk hr2_2
 have HC2_2 := Aside0.mk hc2_2
 clear hr2_2 hc2_2
 have HB := Aside0.mk (Below.refl w.heap.size w)
 have H : ((agg_Check.f a0_0 a0_1 (([(⟨a1_0, a1_1⟩ : S23)] : List (S23)))).bind fun t567 => (if t567 = 0 then (if a1_0 = 5 then ((slices_IsSorted_string_string.f k l2_2).bind fun t568 => (if t568 = true then ((slices_Clone_string_string.f l2_2).bind fun t569 => ((slices_Compact_string_string.f t569).bind fun t572 => ((slices_ContainsFunc_string_string_at_agg_May_1.f l2_2).bind fun t575 => (if a2_1 = 0 then (if (t572.length : Int) = (l2_2.length : Int) then (if t575 = true then (some false) else (if (IntKind.u64.wrap ((l2_2.length : Int))) ≤ a2_0 then (some ((decide ((l2_2.length : Int) > 0)) == (decide (a2_0 > 0)))) else (some false))) else (some false)) else (some false))))) else ((slices_ContainsFunc_string_string_at_agg_May_1.f l2_2).bind fun t576 => (if a2_1 = 0 then (some false) else (some false))))) else (if (l2_2.length : Int) = 0 then (if a2_1 = 0 then (some true) else (if a2_0 = 0 then (some false) else (some (a1_0 != 1)))) else (some false))) else (some false))) = some r := h
 clear h
 obtain ⟨y564, hy564⟩ : ∃ y_ : List (S23), y_ = (([(⟨a1_0, a1_1⟩ : S23)] : List (S23))) := ⟨_, rfl⟩
 replace H : ((agg_Check.f a0_0 a0_1 y564).bind fun t567 => (if t567 = 0 then (if a1_0 = 5 then ((slices_IsSorted_string_string.f k l2_2).bind fun t568 => (if t568 = true then ((slices_Clone_string_string.f l2_2).bind fun t569 => ((slices_Compact_string_string.f t569).bind fun t572 => ((slices_ContainsFunc_string_string_at_agg_May_1.f l2_2).bind fun t575 => (if a2_1 = 0 then (if (t572.length : Int) = (l2_2.length : Int) then (if t575 = true then (some false) else (if (IntKind.u64.wrap ((l2_2.length : Int))) ≤ a2_0 then (some ((decide ((l2_2.length : Int) > 0)) == (decide (a2_0 > 0)))) else (some false))) else (some false)) else (some false))))) else ((slices_ContainsFunc_string_string_at_agg_May_1.f l2_2).bind fun t576 => (if a2_1 = 0 then (some false) else (some false))))) else (if (l2_2.length : Int) = 0 then (if a2_1 = 0 then (some true) else (if a2_0 = 0 then (some false) else (some (a1_0 != 1)))) else (some false))) else (some false))) = some r := by first | (rw [hy564]; with_reducible exact H) | (have H2_ := (Option.bind_some _ _).symm.trans H; rw [hy564]; with_reducible exact H2_) | (have H2_ := (Option.bind_some _ _).symm.trans H; with_reducible exact H2_) | with_reducible exact H | (rw [hy564]; exact H) | exact H
 have Ny564 := Aside0.mk hy564
 clear hy564
 replace H := Option.bind_eq_some_iff.mp H
 obtain ⟨t567, A40, H⟩ := H
 replace H : (if t567 = 0 then (if a1_0 = 5 then ((slices_IsSorted_string_string.f k l2_2).bind fun t568 => (if t568 = true then ((slices_Clone_string_string.f l2_2).bind fun t569 => ((slices_Compact_string_string.f t569).bind fun t572 => ((slices_ContainsFunc_string_string_at_agg_May_1.f l2_2).bind fun t575 => (if a2_1 = 0 then (if (t572.length : Int) = (l2_2.length : Int) then (if t575 = true then (some false) else (if (IntKind.u64.wrap ((l2_2.length : Int))) ≤ a2_0 then (some ((decide ((l2_2.length : Int) > 0)) == (decide (a2_0 > 0)))) else (some false))) else (some false)) else (some false))))) else ((slices_ContainsFunc_string_string_at_agg_May_1.f l2_2).bind fun t576 => (if a2_1 = 0 then (some false) else (some false))))) else (if (l2_2.length : Int) = 0 then (if a2_1 = 0 then (some true) else (if a2_0 = 0 then (some false) else (some (a1_0 != 1)))) else (some false))) else (some false)) = some r := H
 have A4 := Aside0.mk A40
 clear A40
 by_cases c5 : t567 = 0
 ·rw [if_pos c5] at H
  have c5b0 : (t567 == 0) = true := beq_iff_eq.mpr c5
  have c5b1 : (t567 != 0) = false := bne_eq_false_iff_eq.mpr c5
  clear c5
  by_cases c6 : a1_0 = 5
  ·rw [if_pos c6] at H
   have c6b0 : (a1_0 == 5) = true := beq_iff_eq.mpr c6
   have c6b1 : (a1_0 != 5) = false := bne_eq_false_iff_eq.mpr c6
   clear c6
   replace H := Option.bind_eq_some_iff.mp H
   obtain ⟨t568, A70, H⟩ := H
   replace H : (if t568 = true then ((slices_Clone_string_string.f l2_2).bind fun t569 => ((slices_Compact_string_string.f t569).bind fun t572 => ((slices_ContainsFunc_string_string_at_agg_May_1.f l2_2).bind fun t575 => (if a2_1 = 0 then (if (t572.length : Int) = (l2_2.length : Int) then (if t575 = true then (some false) else (if (IntKind.u64.wrap ((l2_2.length : Int))) ≤ a2_0 then (some ((decide ((l2_2.length : Int) > 0)) == (decide (a2_0 > 0)))) else (some false))) else (some false)) else (some false))))) else ((slices_ContainsFunc_string_string_at_agg_May_1.f l2_2).bind fun t576 => (if a2_1 = 0 then (some false) else (some false)))) = some r := H
   have A7 := Aside0.mk A70
   clear A70
   by_cases c8 : t568 = true
   ·subst c8
    have H1 : ((slices_Clone_string_string.f l2_2).bind fun t569 => ((slices_Compact_string_string.f t569).bind fun t572 => ((slices_ContainsFunc_string_string_at_agg_May_1.f l2_2).bind fun t575 => (if a2_1 = 0 then (if (t572.length : Int) = (l2_2.length : Int) then (if t575 = true then (some false) else (if (IntKind.u64.wrap ((l2_2.length : Int))) ≤ a2_0 then (some ((decide ((l2_2.length : Int) > 0)) == (decide (a2_0 > 0)))) else (some false))) else (some false)) else (some false))))) = some r := by rw [if_pos rfl] at H; exact H
    clear H
    have H := H1
    clear H1
    replace H := Option.bind_eq_some_iff.mp H
    obtain ⟨t569, A90, H⟩ := H
    replace H : ((slices_Compact_string_string.f t569).bind fun t572 => ((slices_ContainsFunc_string_string_at_agg_May_1.f l2_2).bind fun t575 => (if a2_1 = 0 then (if (t572.length : Int) = (l2_2.length : Int) then (if t575 = true then (some false) else (if (IntKind.u64.wrap ((l2_2.length : Int))) ≤ a2_0 then (some ((decide ((l2_2.length : Int) > 0)) == (decide (a2_0 > 0)))) else (some false))) else (some false)) else (some false)))) = some r := H
    have A9 := Aside0.mk A90
    clear A90
    replace H := Option.bind_eq_some_iff.mp H
    obtain ⟨t572, A100, H⟩ := H
    replace H : ((slices_ContainsFunc_string_string_at_agg_May_1.f l2_2).bind fun t575 => (if a2_1 = 0 then (if (t572.length : Int) = (l2_2.length : Int) then (if t575 = true then (some false) else (if (IntKind.u64.wrap ((l2_2.length : Int))) ≤ a2_0 then (some ((decide ((l2_2.length : Int) > 0)) == (decide (a2_0 > 0)))) else (some false))) else (some false)) else (some false))) = some r := H
    have A10 := Aside0.mk A100
    clear A100
    replace H := Option.bind_eq_some_iff.mp H
    obtain ⟨t575, A110, H⟩ := H
    replace H : (if a2_1 = 0 then (if (t572.length : Int) = (l2_2.length : Int) then (if t575 = true then (some false) else (if (IntKind.u64.wrap ((l2_2.length : Int))) ≤ a2_0 then (some ((decide ((l2_2.length : Int) > 0)) == (decide (a2_0 > 0)))) else (some false))) else (some false)) else (some false)) = some r := H
    have A11 := Aside0.mk A110
    clear A110
    by_cases c12 : a2_1 = 0
    ·rw [if_pos c12] at H
     have c12b0 : (a2_1 == 0) = true := beq_iff_eq.mpr c12
     have c12b1 : (a2_1 != 0) = false := bne_eq_false_iff_eq.mpr c12
     clear c12
     by_cases c13 : (t572.length : Int) = (l2_2.length : Int)
     ·rw [if_pos c13] at H
      have c13b0 : ((t572.length : Int) == (l2_2.length : Int)) = true := beq_iff_eq.mpr c13
      have c13b1 : ((t572.length : Int) != (l2_2.length : Int)) = false := bne_eq_false_iff_eq.mpr c13
      have c13b2 : (t572.length == l2_2.length) = true := by first | simpa using c13 | (simp at c13 ⊢; omega)
      clear c13
      by_cases c14 : t575 = true
      ·subst c14
       have H1 : (some false) = some r := by rw [if_pos rfl] at H; exact H
       clear H
       have H := H1
       clear H1
       obtain rfl := Option.some.inj H
       go_enter Try.func23, Try.ntmps23
       go_wp2_with (first | ((with_reducible refine gate_dst (N := 3) rfl ?_); (try (refine gate_guard (by rfl) ?_; dsimp only)); refine bx_ (N := 3) (cs := #[.int .i64 a0_0, .int .i64 a0_1]) (t := 27) ?_; intro gb561 hg w15 hbox hb; have n0_ := Aside0.mk (below_step (bw_ HB.out) hb); have n1_ := Aside0.mk (hbox); have n2_ := Aside0.mk (sz_ hg (bw_ HB.out)); have n3_ := n2_; clear HB; have HB := n0_; have BK561 := n1_; have GW561 := n2_; have GE561 := n3_; clear n0_ n1_ n2_ n3_; clear hb hbox hg) | ((with_reducible refine gate_dst (N := 4) rfl ?_); (try (refine gate_guard (by rfl) ?_; dsimp only)); refine bx_ (N := 4) (cs := #[.int .i64 a1_0, .int .i64 a1_1]) (t := 23) ?_; intro gb562 hg w16 hbox hb; have n0_ := Aside0.mk (blk_below (bk_ BK561.out) hb); have n1_ := Aside0.mk (below_step (bw_ HB.out) hb); have n2_ := Aside0.mk (hbox); have n3_ := Aside0.mk (sz_ hg (bw_ HB.out)); have n4_ := n3_; have n5_ := Aside0.mk (ne_ hg (blk_lt (bk_ BK561.out))); have n6_ := Aside0.mk n5_.out.symm; clear BK561 HB; have BK561 := n0_; have HB := n1_; have BK562 := n2_; have GW562 := n3_; have GE562 := n4_; have NB561_562 := n5_; have NB562_561 := n6_; clear n0_ n1_ n2_ n3_ n4_ n5_ n6_; clear hb hbox hg) | ((with_reducible refine gate_dst (N := 5) rfl ?_); (try (refine gate_guard (by rfl) ?_; dsimp only)); refine bx_ (N := 5) (cs := #[.int .u64 a2_0, .int .i64 a2_1, .slice A2_2 l2_2.length c2_2]) (t := 33) ?_; intro gb563 hg w17 hbox hb; have n0_ := Aside0.mk (blk_below (bk_ BK561.out) hb); have n1_ := Aside0.mk (blk_below (bk_ BK562.out) hb); have n2_ := Aside0.mk (below_step (bw_ HB.out) hb); have n3_ := Aside0.mk (hbox); have n4_ := Aside0.mk (sz_ hg (bw_ HB.out)); have n5_ := n4_; have n6_ := Aside0.mk (ne_ hg (blk_lt (bk_ BK561.out))); have n7_ := Aside0.mk n6_.out.symm; have n8_ := Aside0.mk (ne_ hg (blk_lt (bk_ BK562.out))); have n9_ := Aside0.mk n8_.out.symm; clear BK561 BK562 HB; have BK561 := n0_; have BK562 := n1_; have HB := n2_; have BK563 := n3_; have GW563 := n4_; have GE563 := n5_; have NB561_563 := n6_; have NB563_561 := n7_; have NB562_563 := n8_; have NB563_562 := n9_; clear n0_ n1_ n2_ n3_ n4_ n5_ n6_ n7_ n8_ n9_; clear hb hbox hg; have hnb18 := NB561_562.out; have hnc18 := NB562_561.out; have hnb19 := NB561_563.out; have hnc19 := NB563_561.out; have hcz20_0 : w17.cell? ⟨gb561, 0, none⟩ = some (.int .i64 a0_0) := (blk_cell BK561.out 0).trans rfl; have hcz20_1 : w17.cell? ⟨gb561, 1, none⟩ = some (.int .i64 a0_1) := (blk_cell BK561.out 1).trans rfl; have hfz20_0 := blk_frozen BK561.out 0; have hfz20_1 := blk_frozen BK561.out 1; have hnb21 := NB562_563.out; have hnc21 := NB563_562.out; have hcz22_0 : w17.cell? ⟨gb562, 0, none⟩ = some (.int .i64 a1_0) := (blk_cell BK562.out 0).trans rfl; have hcz22_1 : w17.cell? ⟨gb562, 1, none⟩ = some (.int .i64 a1_1) := (blk_cell BK562.out 1).trans rfl; have hfz22_0 := blk_frozen BK562.out 0; have hfz22_1 := blk_frozen BK562.out 1) | ((with_reducible refine gate_dst (N := 12) rfl ?_); (try (refine gate_guard (by rfl) ?_; dsimp only)); refine Kd.R_lit k23 _ 23 ?hg (N := 12) ?hd (xs := ([(⟨a1_0, a1_1⟩ : S23)] : List (S23))) (inner := [.int .i64 a1_0, .int .i64 a1_1]) (ok := fun _ => True) (okp := fun _ => True) ?hr ?hp (fun _ hk => hk) trivial (Below.refl _ _) (Nat.le_refl _) (by simp) ?_; (case hd => rfl); (case hg => rfl); (case hr => first | (go_simp; done) | (go_simp; rfl)); (case hp => exact (Reps.c2 (show Kd.M k23 _ _ _ (⟨a1_0, a1_1⟩ : S23) [.int .i64 a1_0, .int .i64 a1_1] from (k23_mkM _ _ _ (⟨a1_0, a1_1⟩ : S23) )) (Reps.none _ _))); intro v565 w23 ho24 hb hg_ hnew_; clear hg_ hnew_; (first | rw [← Ny564.out] at ho24 | (simp only [Int.reduceToNat] at ho24; rw [← Ny564.out] at ho24)); have n0_ := Aside0.mk (Kd.R_lower (Kd.R_newB ho24 (g := gb562) (o := .cells #[.int .i64 a1_0, .int .i64 a1_1] 23 (0, 0)) (bk_ BK562.out)) (below_size (bw_ HB.out))); have n1_ := Aside0.mk (blk_below (bk_ BK561.out) hb); have n2_ := Aside0.mk (blk_below (bk_ BK562.out) hb); have n3_ := Aside0.mk (blk_below (bk_ BK563.out) hb); have n4_ := Aside0.mk (below_step (bw_ HB.out) hb); clear BK561 BK562 BK563 HB; have HO566 := n0_; have BK561 := n1_; have BK562 := n2_; have BK563 := n3_; have HB := n4_; clear n0_ n1_ n2_ n3_ n4_; clear hb ho24; obtain ⟨Ao25, co25, eo25⟩ := Kd.R_slice HO566.out; subst eo25) | ((with_reducible refine gate_callee (f := 21) rfl ?_); refine goesL_ (some 13) rfl rfl Try.func21 (by kernel_rfl) rfl #[.agg #[.int .i64 a0_0, .int .i64 a0_1], .slice Ao25 y564.length co25] rfl (by (try simp only [List.map_toArray, List.map_cons, List.map_nil]); first | done | rfl | (simp only [List.length_drop, List.length_take]; rfl)) ?_; (with_reducible refine (agg_Check.calls a0_0 a0_1 _ _ y564 t567 _ ?side1 ?side2 A4.out).mono ?_); (case side1 => repeat (first | exact (Kd.R_reads' HO566.out).2.2 | (with_reducible refine Kd.C_alloc ?_ _) | (with_reducible refine Kd.C_drewN ?_ _) | (with_reducible refine Kd.C_drew ?_))); (case side2 => exact (Kd.R_reads' HO566.out).2.1); rintro e w26 ⟨rfl, hb⟩; refine ⟨_, rfl, ?_⟩; have n0_ := Aside0.mk (Kd.R_below (by (with_reducible repeat (first | apply Kd.R_alloc | apply Kd.R_drewN | apply Kd.R_drew)); exact HO566.out) hb); have n1_ := Aside0.mk (blk_below (bk_ BK561.out) hb); have n2_ := Aside0.mk (blk_below (bk_ BK562.out) hb); have n3_ := Aside0.mk (blk_below (bk_ BK563.out) hb); have n4_ := Aside0.mk (below_step (bw_ HB.out) hb); clear HO566 BK561 BK562 BK563 HB; have HO566 := n0_; have BK561 := n1_; have BK562 := n2_; have BK563 := n3_; have HB := n4_; clear n0_ n1_ n2_ n3_ n4_; (try clear hb); (try clear hb2); (try clear hk); (try clear hi); have hcz27_0 : w26.cell? ⟨gb562, 0, none⟩ = some (.int .i64 a1_0) := (blk_cell BK562.out 0).trans rfl; have hcz27_1 : w26.cell? ⟨gb562, 1, none⟩ = some (.int .i64 a1_1) := (blk_cell BK562.out 1).trans rfl; have hfz27_0 := blk_frozen BK562.out 0; have hfz27_1 := blk_frozen BK562.out 1; have hcz28_0 : w26.cell? ⟨gb563, 0, none⟩ = some (.int .u64 a2_0) := (blk_cell BK563.out 0).trans rfl; have hcz28_1 : w26.cell? ⟨gb563, 1, none⟩ = some (.int .i64 a2_1) := (blk_cell BK563.out 1).trans rfl; have hcz28_2 : w26.cell? ⟨gb563, 2, none⟩ = some (.slice A2_2 l2_2.length c2_2) := (blk_cell BK563.out 2).trans rfl; have hfz28_0 := blk_frozen BK563.out 0; have hfz28_1 := blk_frozen BK563.out 1; have hfz28_2 := blk_frozen BK563.out 2) | ((with_reducible refine gate_callee (f := 36) rfl ?_); refine goesL_ (some 42) rfl rfl Try.func36 (by kernel_rfl) rfl #[.slice A2_2 l2_2.length c2_2] rfl (by (try simp only [List.map_toArray, List.map_cons, List.map_nil]); first | done | rfl | (simp only [List.length_drop, List.length_take]; rfl)) ?_; (with_reducible refine (slices_IsSorted_string_string.calls k _ _ l2_2 true _ ?side1 ?side2 A7.out).mono ?_); (case side1 => repeat (first | exact (Kd.C_below HR2_2.out HB.out) | (with_reducible refine Kd.C_alloc ?_ _) | (with_reducible refine Kd.C_drewN ?_ _) | (with_reducible refine Kd.C_drew ?_))); (case side2 => exact HC2_2.out); rintro e w' ⟨rfl, ⟨nd, rfl⟩⟩; refine ⟨_, rfl, ?_⟩) | (go_at_call 29; (with_reducible refine (slices_Clone_string_string.calls _ _ l2_2 t569 _ ?side1 ?side2 A9.out).mono ?_); (case side1 => repeat (first | exact (Kd.C_below HR2_2.out (bw_ HB.out)) | (with_reducible refine Kd.C_alloc ?_ _) | (with_reducible refine Kd.C_drewN ?_ _) | (with_reducible refine Kd.C_drew ?_))); (case side2 => exact HC2_2.out); rintro e w29 ⟨v570, rfl, ho0, hb⟩; have n0_ := Aside0.mk (Kd.R_below (by (with_reducible repeat (first | apply Kd.R_alloc | apply Kd.R_drewN | apply Kd.R_drew)); exact HO566.out) hb); have n1_ := Aside0.mk (Kd.R_lower ho0 (below_size (bw_ HB.out))); have n2_ := Aside0.mk (blk_below (bk_ BK561.out) hb); have n3_ := Aside0.mk (blk_below (bk_ BK562.out) hb); have n4_ := Aside0.mk (blk_below (bk_ BK563.out) hb); have n5_ := Aside0.mk (below_step (bw_ HB.out) hb); clear HO566 BK561 BK562 BK563 HB; have HO566 := n0_; have HO571 := n1_; have BK561 := n2_; have BK562 := n3_; have BK563 := n4_; have HB := n5_; clear n0_ n1_ n2_ n3_ n4_ n5_; (try clear hb); (try clear hb2); (try clear hk); (try clear hi); (try clear ho0); obtain ⟨Ao30, co30, eo30⟩ := Kd.R_slice HO571.out; subst eo30) | (go_at_call 31; (with_reducible refine (slices_Compact_string_string.calls (fun k_ => some k_ = (.slice Ao30 t569.length co30 : Value).ownBlock) (.slice Ao30 t569.length co30) t569 t572 w _ ?side1 ?side2 A10.out).mono ?_); (case side1 => repeat (first | (with_reducible first | exact HB.out | apply below_alloc | apply pw_below_drewN | apply below_drew1 | refine below_set ?_ GE561.out | refine below_set ?_ GE562.out | refine below_set ?_ GE563.out) | exact HB.out)); (case side2 => exact Kd.R_tight rfl HO571.out); rintro e w31 ⟨v573, rfl, ho0, hb, hkp⟩; have n0_ := Aside0.mk (blk_kept (bk_ BK561.out) hkp (fun hs_ => (fun e_ => (Kd.R_ne HO571.out BK561.out (by decide)) e_) hs_)); have n1_ := Aside0.mk (blk_kept (bk_ BK562.out) hkp (fun hs_ => (fun e_ => (Kd.R_ne HO571.out BK562.out (by decide)) e_) hs_)); have n2_ := Aside0.mk (blk_kept (bk_ BK563.out) hkp (fun hs_ => (fun e_ => (Kd.R_ne HO571.out BK563.out (by decide)) e_) hs_)); have n3_ := Aside0.mk (Kd.R_mono (ok' := fun k_ => k_ ≠ gb562) (Kd.R_keptB ((Kd.R_apart' HO566.out (Kd.R_typed HO571.out) (by decide))) hkp (fun k_ hk_ hs_ => (hk_.2) hs_)) (fun k_ hk_ => hk_.1.1.2)); have n4_ := Aside0.mk (Kd.R_mono (ok' := fun k_ => True) ho0 (fun k_ hk_ => trivial)); have n5_ := Aside0.mk (hb); clear BK561 BK562 BK563 HO566 HB HO571; have BK561 := n0_; have BK562 := n1_; have BK563 := n2_; have HO566 := n3_; have HO574 := n4_; have HB := n5_; clear n0_ n1_ n2_ n3_ n4_ n5_; (try clear hb); (try clear hkp); (try clear ho0); obtain ⟨Ao32, co32, eo32⟩ := Kd.R_slice HO574.out; subst eo32; have hcz33_0 : w31.cell? ⟨gb563, 0, none⟩ = some (.int .u64 a2_0) := (blk_cell BK563.out 0).trans rfl; have hcz33_1 : w31.cell? ⟨gb563, 1, none⟩ = some (.int .i64 a2_1) := (blk_cell BK563.out 1).trans rfl; have hcz33_2 : w31.cell? ⟨gb563, 2, none⟩ = some (.slice A2_2 l2_2.length c2_2) := (blk_cell BK563.out 2).trans rfl; have hfz33_0 := blk_frozen BK563.out 0; have hfz33_1 := blk_frozen BK563.out 1; have hfz33_2 := blk_frozen BK563.out 2) | ((with_reducible refine gate_callee (f := 37) rfl ?_); refine goesL_ (some 54) rfl rfl Try.func37 (by kernel_rfl) rfl #[.slice A2_2 l2_2.length c2_2, .func (.func 38) #[] #[]] rfl (by (try simp only [List.map_toArray, List.map_cons, List.map_nil]); first | done | rfl | (simp only [List.length_drop, List.length_take]; rfl)) ?_; (with_reducible refine (slices_ContainsFunc_string_string_at_agg_May_1.calls _ _ l2_2 true _ ?side1 ?side2 A11.out).mono ?_); (case side1 => repeat (first | exact (Kd.C_below HR2_2.out HB.out) | (with_reducible refine Kd.C_alloc ?_ _) | (with_reducible refine Kd.C_drewN ?_ _) | (with_reducible refine Kd.C_drew ?_))); (case side2 => exact HC2_2.out); rintro e w' ⟨rfl, ⟨nd, rfl⟩⟩; refine ⟨_, rfl, ?_⟩))
       go_ret
       exact ⟨by first | rfl | (simp [errW_none, errW_some] <;> rfl) | (simp [*, errW_none, errW_some] <;> rfl), by repeat (first | (with_reducible first | exact HB.out | apply below_alloc | apply pw_below_drewN | apply below_drew1 | refine below_set ?_ GE561.out | refine below_set ?_ GE562.out | refine below_set ?_ GE563.out) | exact HB.out)⟩
      ·replace c14 := Bool.eq_false_iff.mpr c14
       subst c14
       have H1 : (if (IntKind.u64.wrap ((l2_2.length : Int))) ≤ a2_0 then (some ((decide ((l2_2.length : Int) > 0)) == (decide (a2_0 > 0)))) else (some false)) = some r := by rw [if_neg (show ¬ (false = true) by decide)] at H; exact H
       clear H
       have H := H1
       clear H1
       by_cases c34 : (IntKind.u64.wrap ((l2_2.length : Int))) ≤ a2_0
       ·rw [if_pos c34] at H
        have c34b0 : decide ((IntKind.u64.wrap ((l2_2.length : Int))) ≤ a2_0) = true := decide_eq_true c34
        clear c34
        obtain rfl := Option.some.inj H
        go_enter Try.func23, Try.ntmps23
        go_wp2_with (first | ((with_reducible refine gate_dst (N := 3) rfl ?_); (try (refine gate_guard (by rfl) ?_; dsimp only)); refine bx_ (N := 3) (cs := #[.int .i64 a0_0, .int .i64 a0_1]) (t := 27) ?_; intro gb561 hg w35 hbox hb; have n0_ := Aside0.mk (below_step (bw_ HB.out) hb); have n1_ := Aside0.mk (hbox); have n2_ := Aside0.mk (sz_ hg (bw_ HB.out)); have n3_ := n2_; clear HB; have HB := n0_; have BK561 := n1_; have GW561 := n2_; have GE561 := n3_; clear n0_ n1_ n2_ n3_; clear hb hbox hg) | ((with_reducible refine gate_dst (N := 4) rfl ?_); (try (refine gate_guard (by rfl) ?_; dsimp only)); refine bx_ (N := 4) (cs := #[.int .i64 a1_0, .int .i64 a1_1]) (t := 23) ?_; intro gb562 hg w36 hbox hb; have n0_ := Aside0.mk (blk_below (bk_ BK561.out) hb); have n1_ := Aside0.mk (below_step (bw_ HB.out) hb); have n2_ := Aside0.mk (hbox); have n3_ := Aside0.mk (sz_ hg (bw_ HB.out)); have n4_ := n3_; have n5_ := Aside0.mk (ne_ hg (blk_lt (bk_ BK561.out))); have n6_ := Aside0.mk n5_.out.symm; clear BK561 HB; have BK561 := n0_; have HB := n1_; have BK562 := n2_; have GW562 := n3_; have GE562 := n4_; have NB561_562 := n5_; have NB562_561 := n6_; clear n0_ n1_ n2_ n3_ n4_ n5_ n6_; clear hb hbox hg) | ((with_reducible refine gate_dst (N := 5) rfl ?_); (try (refine gate_guard (by rfl) ?_; dsimp only)); refine bx_ (N := 5) (cs := #[.int .u64 a2_0, .int .i64 a2_1, .slice A2_2 l2_2.length c2_2]) (t := 33) ?_; intro gb563 hg w37 hbox hb; have n0_ := Aside0.mk (blk_below (bk_ BK561.out) hb); have n1_ := Aside0.mk (blk_below (bk_ BK562.out) hb); have n2_ := Aside0.mk (below_step (bw_ HB.out) hb); have n3_ := Aside0.mk (hbox); have n4_ := Aside0.mk (sz_ hg (bw_ HB.out)); have n5_ := n4_; have n6_ := Aside0.mk (ne_ hg (blk_lt (bk_ BK561.out))); have n7_ := Aside0.mk n6_.out.symm; have n8_ := Aside0.mk (ne_ hg (blk_lt (bk_ BK562.out))); have n9_ := Aside0.mk n8_.out.symm; clear BK561 BK562 HB; have BK561 := n0_; have BK562 := n1_; have HB := n2_; have BK563 := n3_; have GW563 := n4_; have GE563 := n5_; have NB561_563 := n6_; have NB563_561 := n7_; have NB562_563 := n8_; have NB563_562 := n9_; clear n0_ n1_ n2_ n3_ n4_ n5_ n6_ n7_ n8_ n9_; clear hb hbox hg; have hnb38 := NB561_562.out; have hnc38 := NB562_561.out; have hnb39 := NB561_563.out; have hnc39 := NB563_561.out; have hcz40_0 : w37.cell? ⟨gb561, 0, none⟩ = some (.int .i64 a0_0) := (blk_cell BK561.out 0).trans rfl; have hcz40_1 : w37.cell? ⟨gb561, 1, none⟩ = some (.int .i64 a0_1) := (blk_cell BK561.out 1).trans rfl; have hfz40_0 := blk_frozen BK561.out 0; have hfz40_1 := blk_frozen BK561.out 1; have hnb41 := NB562_563.out; have hnc41 := NB563_562.out; have hcz42_0 : w37.cell? ⟨gb562, 0, none⟩ = some (.int .i64 a1_0) := (blk_cell BK562.out 0).trans rfl; have hcz42_1 : w37.cell? ⟨gb562, 1, none⟩ = some (.int .i64 a1_1) := (blk_cell BK562.out 1).trans rfl; have hfz42_0 := blk_frozen BK562.out 0; have hfz42_1 := blk_frozen BK562.out 1) | ((with_reducible refine gate_dst (N := 12) rfl ?_); (try (refine gate_guard (by rfl) ?_; dsimp only)); refine Kd.R_lit k23 _ 23 ?hg (N := 12) ?hd (xs := ([(⟨a1_0, a1_1⟩ : S23)] : List (S23))) (inner := [.int .i64 a1_0, .int .i64 a1_1]) (ok := fun _ => True) (okp := fun _ => True) ?hr ?hp (fun _ hk => hk) trivial (Below.refl _ _) (Nat.le_refl _) (by simp) ?_; (case hd => rfl); (case hg => rfl); (case hr => first | (go_simp; done) | (go_simp; rfl)); (case hp => exact (Reps.c2 (show Kd.M k23 _ _ _ (⟨a1_0, a1_1⟩ : S23) [.int .i64 a1_0, .int .i64 a1_1] from (k23_mkM _ _ _ (⟨a1_0, a1_1⟩ : S23) )) (Reps.none _ _))); intro v565 w43 ho44 hb hg_ hnew_; clear hg_ hnew_; (first | rw [← Ny564.out] at ho44 | (simp only [Int.reduceToNat] at ho44; rw [← Ny564.out] at ho44)); have n0_ := Aside0.mk (Kd.R_lower (Kd.R_newB ho44 (g := gb562) (o := .cells #[.int .i64 a1_0, .int .i64 a1_1] 23 (0, 0)) (bk_ BK562.out)) (below_size (bw_ HB.out))); have n1_ := Aside0.mk (blk_below (bk_ BK561.out) hb); have n2_ := Aside0.mk (blk_below (bk_ BK562.out) hb); have n3_ := Aside0.mk (blk_below (bk_ BK563.out) hb); have n4_ := Aside0.mk (below_step (bw_ HB.out) hb); clear BK561 BK562 BK563 HB; have HO566 := n0_; have BK561 := n1_; have BK562 := n2_; have BK563 := n3_; have HB := n4_; clear n0_ n1_ n2_ n3_ n4_; clear hb ho44; obtain ⟨Ao45, co45, eo45⟩ := Kd.R_slice HO566.out; subst eo45) | ((with_reducible refine gate_callee (f := 21) rfl ?_); refine goesL_ (some 13) rfl rfl Try.func21 (by kernel_rfl) rfl #[.agg #[.int .i64 a0_0, .int .i64 a0_1], .slice Ao45 y564.length co45] rfl (by (try simp only [List.map_toArray, List.map_cons, List.map_nil]); first | done | rfl | (simp only [List.length_drop, List.length_take]; rfl)) ?_; (with_reducible refine (agg_Check.calls a0_0 a0_1 _ _ y564 t567 _ ?side1 ?side2 A4.out).mono ?_); (case side1 => repeat (first | exact (Kd.R_reads' HO566.out).2.2 | (with_reducible refine Kd.C_alloc ?_ _) | (with_reducible refine Kd.C_drewN ?_ _) | (with_reducible refine Kd.C_drew ?_))); (case side2 => exact (Kd.R_reads' HO566.out).2.1); rintro e w46 ⟨rfl, hb⟩; refine ⟨_, rfl, ?_⟩; have n0_ := Aside0.mk (Kd.R_below (by (with_reducible repeat (first | apply Kd.R_alloc | apply Kd.R_drewN | apply Kd.R_drew)); exact HO566.out) hb); have n1_ := Aside0.mk (blk_below (bk_ BK561.out) hb); have n2_ := Aside0.mk (blk_below (bk_ BK562.out) hb); have n3_ := Aside0.mk (blk_below (bk_ BK563.out) hb); have n4_ := Aside0.mk (below_step (bw_ HB.out) hb); clear HO566 BK561 BK562 BK563 HB; have HO566 := n0_; have BK561 := n1_; have BK562 := n2_; have BK563 := n3_; have HB := n4_; clear n0_ n1_ n2_ n3_ n4_; (try clear hb); (try clear hb2); (try clear hk); (try clear hi); have hcz47_0 : w46.cell? ⟨gb562, 0, none⟩ = some (.int .i64 a1_0) := (blk_cell BK562.out 0).trans rfl; have hcz47_1 : w46.cell? ⟨gb562, 1, none⟩ = some (.int .i64 a1_1) := (blk_cell BK562.out 1).trans rfl; have hfz47_0 := blk_frozen BK562.out 0; have hfz47_1 := blk_frozen BK562.out 1; have hcz48_0 : w46.cell? ⟨gb563, 0, none⟩ = some (.int .u64 a2_0) := (blk_cell BK563.out 0).trans rfl; have hcz48_1 : w46.cell? ⟨gb563, 1, none⟩ = some (.int .i64 a2_1) := (blk_cell BK563.out 1).trans rfl; have hcz48_2 : w46.cell? ⟨gb563, 2, none⟩ = some (.slice A2_2 l2_2.length c2_2) := (blk_cell BK563.out 2).trans rfl; have hfz48_0 := blk_frozen BK563.out 0; have hfz48_1 := blk_frozen BK563.out 1; have hfz48_2 := blk_frozen BK563.out 2) | ((with_reducible refine gate_callee (f := 36) rfl ?_); refine goesL_ (some 42) rfl rfl Try.func36 (by kernel_rfl) rfl #[.slice A2_2 l2_2.length c2_2] rfl (by (try simp only [List.map_toArray, List.map_cons, List.map_nil]); first | done | rfl | (simp only [List.length_drop, List.length_take]; rfl)) ?_; (with_reducible refine (slices_IsSorted_string_string.calls k _ _ l2_2 true _ ?side1 ?side2 A7.out).mono ?_); (case side1 => repeat (first | exact (Kd.C_below HR2_2.out HB.out) | (with_reducible refine Kd.C_alloc ?_ _) | (with_reducible refine Kd.C_drewN ?_ _) | (with_reducible refine Kd.C_drew ?_))); (case side2 => exact HC2_2.out); rintro e w' ⟨rfl, ⟨nd, rfl⟩⟩; refine ⟨_, rfl, ?_⟩) | (go_at_call 29; (with_reducible refine (slices_Clone_string_string.calls _ _ l2_2 t569 _ ?side1 ?side2 A9.out).mono ?_); (case side1 => repeat (first | exact (Kd.C_below HR2_2.out (bw_ HB.out)) | (with_reducible refine Kd.C_alloc ?_ _) | (with_reducible refine Kd.C_drewN ?_ _) | (with_reducible refine Kd.C_drew ?_))); (case side2 => exact HC2_2.out); rintro e w49 ⟨v570, rfl, ho0, hb⟩; have n0_ := Aside0.mk (Kd.R_below (by (with_reducible repeat (first | apply Kd.R_alloc | apply Kd.R_drewN | apply Kd.R_drew)); exact HO566.out) hb); have n1_ := Aside0.mk (Kd.R_lower ho0 (below_size (bw_ HB.out))); have n2_ := Aside0.mk (blk_below (bk_ BK561.out) hb); have n3_ := Aside0.mk (blk_below (bk_ BK562.out) hb); have n4_ := Aside0.mk (blk_below (bk_ BK563.out) hb); have n5_ := Aside0.mk (below_step (bw_ HB.out) hb); clear HO566 BK561 BK562 BK563 HB; have HO566 := n0_; have HO571 := n1_; have BK561 := n2_; have BK562 := n3_; have BK563 := n4_; have HB := n5_; clear n0_ n1_ n2_ n3_ n4_ n5_; (try clear hb); (try clear hb2); (try clear hk); (try clear hi); (try clear ho0); obtain ⟨Ao50, co50, eo50⟩ := Kd.R_slice HO571.out; subst eo50) | (go_at_call 31; (with_reducible refine (slices_Compact_string_string.calls (fun k_ => some k_ = (.slice Ao50 t569.length co50 : Value).ownBlock) (.slice Ao50 t569.length co50) t569 t572 w _ ?side1 ?side2 A10.out).mono ?_); (case side1 => repeat (first | (with_reducible first | exact HB.out | apply below_alloc | apply pw_below_drewN | apply below_drew1 | refine below_set ?_ GE561.out | refine below_set ?_ GE562.out | refine below_set ?_ GE563.out) | exact HB.out)); (case side2 => exact Kd.R_tight rfl HO571.out); rintro e w51 ⟨v573, rfl, ho0, hb, hkp⟩; have n0_ := Aside0.mk (blk_kept (bk_ BK561.out) hkp (fun hs_ => (fun e_ => (Kd.R_ne HO571.out BK561.out (by decide)) e_) hs_)); have n1_ := Aside0.mk (blk_kept (bk_ BK562.out) hkp (fun hs_ => (fun e_ => (Kd.R_ne HO571.out BK562.out (by decide)) e_) hs_)); have n2_ := Aside0.mk (blk_kept (bk_ BK563.out) hkp (fun hs_ => (fun e_ => (Kd.R_ne HO571.out BK563.out (by decide)) e_) hs_)); have n3_ := Aside0.mk (Kd.R_mono (ok' := fun k_ => k_ ≠ gb562) (Kd.R_keptB ((Kd.R_apart' HO566.out (Kd.R_typed HO571.out) (by decide))) hkp (fun k_ hk_ hs_ => (hk_.2) hs_)) (fun k_ hk_ => hk_.1.1.2)); have n4_ := Aside0.mk (Kd.R_mono (ok' := fun k_ => True) ho0 (fun k_ hk_ => trivial)); have n5_ := Aside0.mk (hb); clear BK561 BK562 BK563 HO566 HB HO571; have BK561 := n0_; have BK562 := n1_; have BK563 := n2_; have HO566 := n3_; have HO574 := n4_; have HB := n5_; clear n0_ n1_ n2_ n3_ n4_ n5_; (try clear hb); (try clear hkp); (try clear ho0); obtain ⟨Ao52, co52, eo52⟩ := Kd.R_slice HO574.out; subst eo52; have hcz53_0 : w51.cell? ⟨gb563, 0, none⟩ = some (.int .u64 a2_0) := (blk_cell BK563.out 0).trans rfl; have hcz53_1 : w51.cell? ⟨gb563, 1, none⟩ = some (.int .i64 a2_1) := (blk_cell BK563.out 1).trans rfl; have hcz53_2 : w51.cell? ⟨gb563, 2, none⟩ = some (.slice A2_2 l2_2.length c2_2) := (blk_cell BK563.out 2).trans rfl; have hfz53_0 := blk_frozen BK563.out 0; have hfz53_1 := blk_frozen BK563.out 1; have hfz53_2 := blk_frozen BK563.out 2) | ((with_reducible refine gate_callee (f := 37) rfl ?_); refine goesL_ (some 54) rfl rfl Try.func37 (by kernel_rfl) rfl #[.slice A2_2 l2_2.length c2_2, .func (.func 38) #[] #[]] rfl (by (try simp only [List.map_toArray, List.map_cons, List.map_nil]); first | done | rfl | (simp only [List.length_drop, List.length_take]; rfl)) ?_; (with_reducible refine (slices_ContainsFunc_string_string_at_agg_May_1.calls _ _ l2_2 false _ ?side1 ?side2 A11.out).mono ?_); (case side1 => repeat (first | exact (Kd.C_below HR2_2.out HB.out) | (with_reducible refine Kd.C_alloc ?_ _) | (with_reducible refine Kd.C_drewN ?_ _) | (with_reducible refine Kd.C_drew ?_))); (case side2 => exact HC2_2.out); rintro e w' ⟨rfl, ⟨nd, rfl⟩⟩; refine ⟨_, rfl, ?_⟩))
        go_ret
        exact ⟨by first | rfl | (simp [errW_none, errW_some] <;> rfl) | (simp [*, errW_none, errW_some] <;> rfl), by repeat (first | (with_reducible first | exact HB.out | apply below_alloc | apply pw_below_drewN | apply below_drew1 | refine below_set ?_ GE561.out | refine below_set ?_ GE562.out | refine below_set ?_ GE563.out) | exact HB.out)⟩
       ·rw [if_neg c34] at H
        have c34b0 : decide ((IntKind.u64.wrap ((l2_2.length : Int))) ≤ a2_0) = false := decide_eq_false c34
        clear c34
        obtain rfl := Option.some.inj H
        go_enter Try.func23, Try.ntmps23
        go_wp2_with (first | ((with_reducible refine gate_dst (N := 3) rfl ?_); (try (refine gate_guard (by rfl) ?_; dsimp only)); refine bx_ (N := 3) (cs := #[.int .i64 a0_0, .int .i64 a0_1]) (t := 27) ?_; intro gb561 hg w54 hbox hb; have n0_ := Aside0.mk (below_step (bw_ HB.out) hb); have n1_ := Aside0.mk (hbox); have n2_ := Aside0.mk (sz_ hg (bw_ HB.out)); have n3_ := n2_; clear HB; have HB := n0_; have BK561 := n1_; have GW561 := n2_; have GE561 := n3_; clear n0_ n1_ n2_ n3_; clear hb hbox hg) | ((with_reducible refine gate_dst (N := 4) rfl ?_); (try (refine gate_guard (by rfl) ?_; dsimp only)); refine bx_ (N := 4) (cs := #[.int .i64 a1_0, .int .i64 a1_1]) (t := 23) ?_; intro gb562 hg w55 hbox hb; have n0_ := Aside0.mk (blk_below (bk_ BK561.out) hb); have n1_ := Aside0.mk (below_step (bw_ HB.out) hb); have n2_ := Aside0.mk (hbox); have n3_ := Aside0.mk (sz_ hg (bw_ HB.out)); have n4_ := n3_; have n5_ := Aside0.mk (ne_ hg (blk_lt (bk_ BK561.out))); have n6_ := Aside0.mk n5_.out.symm; clear BK561 HB; have BK561 := n0_; have HB := n1_; have BK562 := n2_; have GW562 := n3_; have GE562 := n4_; have NB561_562 := n5_; have NB562_561 := n6_; clear n0_ n1_ n2_ n3_ n4_ n5_ n6_; clear hb hbox hg) | ((with_reducible refine gate_dst (N := 5) rfl ?_); (try (refine gate_guard (by rfl) ?_; dsimp only)); refine bx_ (N := 5) (cs := #[.int .u64 a2_0, .int .i64 a2_1, .slice A2_2 l2_2.length c2_2]) (t := 33) ?_; intro gb563 hg w56 hbox hb; have n0_ := Aside0.mk (blk_below (bk_ BK561.out) hb); have n1_ := Aside0.mk (blk_below (bk_ BK562.out) hb); have n2_ := Aside0.mk (below_step (bw_ HB.out) hb); have n3_ := Aside0.mk (hbox); have n4_ := Aside0.mk (sz_ hg (bw_ HB.out)); have n5_ := n4_; have n6_ := Aside0.mk (ne_ hg (blk_lt (bk_ BK561.out))); have n7_ := Aside0.mk n6_.out.symm; have n8_ := Aside0.mk (ne_ hg (blk_lt (bk_ BK562.out))); have n9_ := Aside0.mk n8_.out.symm; clear BK561 BK562 HB; have BK561 := n0_; have BK562 := n1_; have HB := n2_; have BK563 := n3_; have GW563 := n4_; have GE563 := n5_; have NB561_563 := n6_; have NB563_561 := n7_; have NB562_563 := n8_; have NB563_562 := n9_; clear n0_ n1_ n2_ n3_ n4_ n5_ n6_ n7_ n8_ n9_; clear hb hbox hg; have hnb57 := NB561_562.out; have hnc57 := NB562_561.out; have hnb58 := NB561_563.out; have hnc58 := NB563_561.out; have hcz59_0 : w56.cell? ⟨gb561, 0, none⟩ = some (.int .i64 a0_0) := (blk_cell BK561.out 0).trans rfl; have hcz59_1 : w56.cell? ⟨gb561, 1, none⟩ = some (.int .i64 a0_1) := (blk_cell BK561.out 1).trans rfl; have hfz59_0 := blk_frozen BK561.out 0; have hfz59_1 := blk_frozen BK561.out 1; have hnb60 := NB562_563.out; have hnc60 := NB563_562.out; have hcz61_0 : w56.cell? ⟨gb562, 0, none⟩ = some (.int .i64 a1_0) := (blk_cell BK562.out 0).trans rfl; have hcz61_1 : w56.cell? ⟨gb562, 1, none⟩ = some (.int .i64 a1_1) := (blk_cell BK562.out 1).trans rfl; have hfz61_0 := blk_frozen BK562.out 0; have hfz61_1 := blk_frozen BK562.out 1) | ((with_reducible refine gate_dst (N := 12) rfl ?_); (try (refine gate_guard (by rfl) ?_; dsimp only)); refine Kd.R_lit k23 _ 23 ?hg (N := 12) ?hd (xs := ([(⟨a1_0, a1_1⟩ : S23)] : List (S23))) (inner := [.int .i64 a1_0, .int .i64 a1_1]) (ok := fun _ => True) (okp := fun _ => True) ?hr ?hp (fun _ hk => hk) trivial (Below.refl _ _) (Nat.le_refl _) (by simp) ?_; (case hd => rfl); (case hg => rfl); (case hr => first | (go_simp; done) | (go_simp; rfl)); (case hp => exact (Reps.c2 (show Kd.M k23 _ _ _ (⟨a1_0, a1_1⟩ : S23) [.int .i64 a1_0, .int .i64 a1_1] from (k23_mkM _ _ _ (⟨a1_0, a1_1⟩ : S23) )) (Reps.none _ _))); intro v565 w62 ho63 hb hg_ hnew_; clear hg_ hnew_; (first | rw [← Ny564.out] at ho63 | (simp only [Int.reduceToNat] at ho63; rw [← Ny564.out] at ho63)); have n0_ := Aside0.mk (Kd.R_lower (Kd.R_newB ho63 (g := gb562) (o := .cells #[.int .i64 a1_0, .int .i64 a1_1] 23 (0, 0)) (bk_ BK562.out)) (below_size (bw_ HB.out))); have n1_ := Aside0.mk (blk_below (bk_ BK561.out) hb); have n2_ := Aside0.mk (blk_below (bk_ BK562.out) hb); have n3_ := Aside0.mk (blk_below (bk_ BK563.out) hb); have n4_ := Aside0.mk (below_step (bw_ HB.out) hb); clear BK561 BK562 BK563 HB; have HO566 := n0_; have BK561 := n1_; have BK562 := n2_; have BK563 := n3_; have HB := n4_; clear n0_ n1_ n2_ n3_ n4_; clear hb ho63; obtain ⟨Ao64, co64, eo64⟩ := Kd.R_slice HO566.out; subst eo64) | ((with_reducible refine gate_callee (f := 21) rfl ?_); refine goesL_ (some 13) rfl rfl Try.func21 (by kernel_rfl) rfl #[.agg #[.int .i64 a0_0, .int .i64 a0_1], .slice Ao64 y564.length co64] rfl (by (try simp only [List.map_toArray, List.map_cons, List.map_nil]); first | done | rfl | (simp only [List.length_drop, List.length_take]; rfl)) ?_; (with_reducible refine (agg_Check.calls a0_0 a0_1 _ _ y564 t567 _ ?side1 ?side2 A4.out).mono ?_); (case side1 => repeat (first | exact (Kd.R_reads' HO566.out).2.2 | (with_reducible refine Kd.C_alloc ?_ _) | (with_reducible refine Kd.C_drewN ?_ _) | (with_reducible refine Kd.C_drew ?_))); (case side2 => exact (Kd.R_reads' HO566.out).2.1); rintro e w65 ⟨rfl, hb⟩; refine ⟨_, rfl, ?_⟩; have n0_ := Aside0.mk (Kd.R_below (by (with_reducible repeat (first | apply Kd.R_alloc | apply Kd.R_drewN | apply Kd.R_drew)); exact HO566.out) hb); have n1_ := Aside0.mk (blk_below (bk_ BK561.out) hb); have n2_ := Aside0.mk (blk_below (bk_ BK562.out) hb); have n3_ := Aside0.mk (blk_below (bk_ BK563.out) hb); have n4_ := Aside0.mk (below_step (bw_ HB.out) hb); clear HO566 BK561 BK562 BK563 HB; have HO566 := n0_; have BK561 := n1_; have BK562 := n2_; have BK563 := n3_; have HB := n4_; clear n0_ n1_ n2_ n3_ n4_; (try clear hb); (try clear hb2); (try clear hk); (try clear hi); have hcz66_0 : w65.cell? ⟨gb562, 0, none⟩ = some (.int .i64 a1_0) := (blk_cell BK562.out 0).trans rfl; have hcz66_1 : w65.cell? ⟨gb562, 1, none⟩ = some (.int .i64 a1_1) := (blk_cell BK562.out 1).trans rfl; have hfz66_0 := blk_frozen BK562.out 0; have hfz66_1 := blk_frozen BK562.out 1; have hcz67_0 : w65.cell? ⟨gb563, 0, none⟩ = some (.int .u64 a2_0) := (blk_cell BK563.out 0).trans rfl; have hcz67_1 : w65.cell? ⟨gb563, 1, none⟩ = some (.int .i64 a2_1) := (blk_cell BK563.out 1).trans rfl; have hcz67_2 : w65.cell? ⟨gb563, 2, none⟩ = some (.slice A2_2 l2_2.length c2_2) := (blk_cell BK563.out 2).trans rfl; have hfz67_0 := blk_frozen BK563.out 0; have hfz67_1 := blk_frozen BK563.out 1; have hfz67_2 := blk_frozen BK563.out 2) | ((with_reducible refine gate_callee (f := 36) rfl ?_); refine goesL_ (some 42) rfl rfl Try.func36 (by kernel_rfl) rfl #[.slice A2_2 l2_2.length c2_2] rfl (by (try simp only [List.map_toArray, List.map_cons, List.map_nil]); first | done | rfl | (simp only [List.length_drop, List.length_take]; rfl)) ?_; (with_reducible refine (slices_IsSorted_string_string.calls k _ _ l2_2 true _ ?side1 ?side2 A7.out).mono ?_); (case side1 => repeat (first | exact (Kd.C_below HR2_2.out HB.out) | (with_reducible refine Kd.C_alloc ?_ _) | (with_reducible refine Kd.C_drewN ?_ _) | (with_reducible refine Kd.C_drew ?_))); (case side2 => exact HC2_2.out); rintro e w' ⟨rfl, ⟨nd, rfl⟩⟩; refine ⟨_, rfl, ?_⟩) | (go_at_call 29; (with_reducible refine (slices_Clone_string_string.calls _ _ l2_2 t569 _ ?side1 ?side2 A9.out).mono ?_); (case side1 => repeat (first | exact (Kd.C_below HR2_2.out (bw_ HB.out)) | (with_reducible refine Kd.C_alloc ?_ _) | (with_reducible refine Kd.C_drewN ?_ _) | (with_reducible refine Kd.C_drew ?_))); (case side2 => exact HC2_2.out); rintro e w68 ⟨v570, rfl, ho0, hb⟩; have n0_ := Aside0.mk (Kd.R_below (by (with_reducible repeat (first | apply Kd.R_alloc | apply Kd.R_drewN | apply Kd.R_drew)); exact HO566.out) hb); have n1_ := Aside0.mk (Kd.R_lower ho0 (below_size (bw_ HB.out))); have n2_ := Aside0.mk (blk_below (bk_ BK561.out) hb); have n3_ := Aside0.mk (blk_below (bk_ BK562.out) hb); have n4_ := Aside0.mk (blk_below (bk_ BK563.out) hb); have n5_ := Aside0.mk (below_step (bw_ HB.out) hb); clear HO566 BK561 BK562 BK563 HB; have HO566 := n0_; have HO571 := n1_; have BK561 := n2_; have BK562 := n3_; have BK563 := n4_; have HB := n5_; clear n0_ n1_ n2_ n3_ n4_ n5_; (try clear hb); (try clear hb2); (try clear hk); (try clear hi); (try clear ho0); obtain ⟨Ao69, co69, eo69⟩ := Kd.R_slice HO571.out; subst eo69) | (go_at_call 31; (with_reducible refine (slices_Compact_string_string.calls (fun k_ => some k_ = (.slice Ao69 t569.length co69 : Value).ownBlock) (.slice Ao69 t569.length co69) t569 t572 w _ ?side1 ?side2 A10.out).mono ?_); (case side1 => repeat (first | (with_reducible first | exact HB.out | apply below_alloc | apply pw_below_drewN | apply below_drew1 | refine below_set ?_ GE561.out | refine below_set ?_ GE562.out | refine below_set ?_ GE563.out) | exact HB.out)); (case side2 => exact Kd.R_tight rfl HO571.out); rintro e w70 ⟨v573, rfl, ho0, hb, hkp⟩; have n0_ := Aside0.mk (blk_kept (bk_ BK561.out) hkp (fun hs_ => (fun e_ => (Kd.R_ne HO571.out BK561.out (by decide)) e_) hs_)); have n1_ := Aside0.mk (blk_kept (bk_ BK562.out) hkp (fun hs_ => (fun e_ => (Kd.R_ne HO571.out BK562.out (by decide)) e_) hs_)); have n2_ := Aside0.mk (blk_kept (bk_ BK563.out) hkp (fun hs_ => (fun e_ => (Kd.R_ne HO571.out BK563.out (by decide)) e_) hs_)); have n3_ := Aside0.mk (Kd.R_mono (ok' := fun k_ => k_ ≠ gb562) (Kd.R_keptB ((Kd.R_apart' HO566.out (Kd.R_typed HO571.out) (by decide))) hkp (fun k_ hk_ hs_ => (hk_.2) hs_)) (fun k_ hk_ => hk_.1.1.2)); have n4_ := Aside0.mk (Kd.R_mono (ok' := fun k_ => True) ho0 (fun k_ hk_ => trivial)); have n5_ := Aside0.mk (hb); clear BK561 BK562 BK563 HO566 HB HO571; have BK561 := n0_; have BK562 := n1_; have BK563 := n2_; have HO566 := n3_; have HO574 := n4_; have HB := n5_; clear n0_ n1_ n2_ n3_ n4_ n5_; (try clear hb); (try clear hkp); (try clear ho0); obtain ⟨Ao71, co71, eo71⟩ := Kd.R_slice HO574.out; subst eo71; have hcz72_0 : w70.cell? ⟨gb563, 0, none⟩ = some (.int .u64 a2_0) := (blk_cell BK563.out 0).trans rfl; have hcz72_1 : w70.cell? ⟨gb563, 1, none⟩ = some (.int .i64 a2_1) := (blk_cell BK563.out 1).trans rfl; have hcz72_2 : w70.cell? ⟨gb563, 2, none⟩ = some (.slice A2_2 l2_2.length c2_2) := (blk_cell BK563.out 2).trans rfl; have hfz72_0 := blk_frozen BK563.out 0; have hfz72_1 := blk_frozen BK563.out 1; have hfz72_2 := blk_frozen BK563.out 2) | ((with_reducible refine gate_callee (f := 37) rfl ?_); refine goesL_ (some 54) rfl rfl Try.func37 (by kernel_rfl) rfl #[.slice A2_2 l2_2.length c2_2, .func (.func 38) #[] #[]] rfl (by (try simp only [List.map_toArray, List.map_cons, List.map_nil]); first | done | rfl | (simp only [List.length_drop, List.length_take]; rfl)) ?_; (with_reducible refine (slices_ContainsFunc_string_string_at_agg_May_1.calls _ _ l2_2 false _ ?side1 ?side2 A11.out).mono ?_); (case side1 => repeat (first | exact (Kd.C_below HR2_2.out HB.out) | (with_reducible refine Kd.C_alloc ?_ _) | (with_reducible refine Kd.C_drewN ?_ _) | (with_reducible refine Kd.C_drew ?_))); (case side2 => exact HC2_2.out); rintro e w' ⟨rfl, ⟨nd, rfl⟩⟩; refine ⟨_, rfl, ?_⟩))
        go_ret
        exact ⟨by first | rfl | (simp [errW_none, errW_some] <;> rfl) | (simp [*, errW_none, errW_some] <;> rfl), by repeat (first | (with_reducible first | exact HB.out | apply below_alloc | apply pw_below_drewN | apply below_drew1 | refine below_set ?_ GE561.out | refine below_set ?_ GE562.out | refine below_set ?_ GE563.out) | exact HB.out)⟩
     ·rw [if_neg c13] at H
      have c13b0 : ((t572.length : Int) == (l2_2.length : Int)) = false := beq_eq_false_iff_ne.mpr c13
      have c13b1 : ((t572.length : Int) != (l2_2.length : Int)) = true := bne_iff_ne.mpr c13
      have c13b2 : (t572.length == l2_2.length) = false := by first | simpa using c13 | (simp at c13 ⊢; omega)
      obtain rfl := Option.some.inj H
      go_enter Try.func23, Try.ntmps23
      go_wp2_with (first | ((with_reducible refine gate_dst (N := 3) rfl ?_); (try (refine gate_guard (by rfl) ?_; dsimp only)); refine bx_ (N := 3) (cs := #[.int .i64 a0_0, .int .i64 a0_1]) (t := 27) ?_; intro gb561 hg w73 hbox hb; have n0_ := Aside0.mk (below_step (bw_ HB.out) hb); have n1_ := Aside0.mk (hbox); have n2_ := Aside0.mk (sz_ hg (bw_ HB.out)); have n3_ := n2_; clear HB; have HB := n0_; have BK561 := n1_; have GW561 := n2_; have GE561 := n3_; clear n0_ n1_ n2_ n3_; clear hb hbox hg) | ((with_reducible refine gate_dst (N := 4) rfl ?_); (try (refine gate_guard (by rfl) ?_; dsimp only)); refine bx_ (N := 4) (cs := #[.int .i64 a1_0, .int .i64 a1_1]) (t := 23) ?_; intro gb562 hg w74 hbox hb; have n0_ := Aside0.mk (blk_below (bk_ BK561.out) hb); have n1_ := Aside0.mk (below_step (bw_ HB.out) hb); have n2_ := Aside0.mk (hbox); have n3_ := Aside0.mk (sz_ hg (bw_ HB.out)); have n4_ := n3_; have n5_ := Aside0.mk (ne_ hg (blk_lt (bk_ BK561.out))); have n6_ := Aside0.mk n5_.out.symm; clear BK561 HB; have BK561 := n0_; have HB := n1_; have BK562 := n2_; have GW562 := n3_; have GE562 := n4_; have NB561_562 := n5_; have NB562_561 := n6_; clear n0_ n1_ n2_ n3_ n4_ n5_ n6_; clear hb hbox hg) | ((with_reducible refine gate_dst (N := 5) rfl ?_); (try (refine gate_guard (by rfl) ?_; dsimp only)); refine bx_ (N := 5) (cs := #[.int .u64 a2_0, .int .i64 a2_1, .slice A2_2 l2_2.length c2_2]) (t := 33) ?_; intro gb563 hg w75 hbox hb; have n0_ := Aside0.mk (blk_below (bk_ BK561.out) hb); have n1_ := Aside0.mk (blk_below (bk_ BK562.out) hb); have n2_ := Aside0.mk (below_step (bw_ HB.out) hb); have n3_ := Aside0.mk (hbox); have n4_ := Aside0.mk (sz_ hg (bw_ HB.out)); have n5_ := n4_; have n6_ := Aside0.mk (ne_ hg (blk_lt (bk_ BK561.out))); have n7_ := Aside0.mk n6_.out.symm; have n8_ := Aside0.mk (ne_ hg (blk_lt (bk_ BK562.out))); have n9_ := Aside0.mk n8_.out.symm; clear BK561 BK562 HB; have BK561 := n0_; have BK562 := n1_; have HB := n2_; have BK563 := n3_; have GW563 := n4_; have GE563 := n5_; have NB561_563 := n6_; have NB563_561 := n7_; have NB562_563 := n8_; have NB563_562 := n9_; clear n0_ n1_ n2_ n3_ n4_ n5_ n6_ n7_ n8_ n9_; clear hb hbox hg; have hnb76 := NB561_562.out; have hnc76 := NB562_561.out; have hnb77 := NB561_563.out; have hnc77 := NB563_561.out; have hcz78_0 : w75.cell? ⟨gb561, 0, none⟩ = some (.int .i64 a0_0) := (blk_cell BK561.out 0).trans rfl; have hcz78_1 : w75.cell? ⟨gb561, 1, none⟩ = some (.int .i64 a0_1) := (blk_cell BK561.out 1).trans rfl; have hfz78_0 := blk_frozen BK561.out 0; have hfz78_1 := blk_frozen BK561.out 1; have hnb79 := NB562_563.out; have hnc79 := NB563_562.out; have hcz80_0 : w75.cell? ⟨gb562, 0, none⟩ = some (.int .i64 a1_0) := (blk_cell BK562.out 0).trans rfl; have hcz80_1 : w75.cell? ⟨gb562, 1, none⟩ = some (.int .i64 a1_1) := (blk_cell BK562.out 1).trans rfl; have hfz80_0 := blk_frozen BK562.out 0; have hfz80_1 := blk_frozen BK562.out 1) | ((with_reducible refine gate_dst (N := 12) rfl ?_); (try (refine gate_guard (by rfl) ?_; dsimp only)); refine Kd.R_lit k23 _ 23 ?hg (N := 12) ?hd (xs := ([(⟨a1_0, a1_1⟩ : S23)] : List (S23))) (inner := [.int .i64 a1_0, .int .i64 a1_1]) (ok := fun _ => True) (okp := fun _ => True) ?hr ?hp (fun _ hk => hk) trivial (Below.refl _ _) (Nat.le_refl _) (by simp) ?_; (case hd => rfl); (case hg => rfl); (case hr => first | (go_simp; done) | (go_simp; rfl)); (case hp => exact (Reps.c2 (show Kd.M k23 _ _ _ (⟨a1_0, a1_1⟩ : S23) [.int .i64 a1_0, .int .i64 a1_1] from (k23_mkM _ _ _ (⟨a1_0, a1_1⟩ : S23) )) (Reps.none _ _))); intro v565 w81 ho82 hb hg_ hnew_; clear hg_ hnew_; (first | rw [← Ny564.out] at ho82 | (simp only [Int.reduceToNat] at ho82; rw [← Ny564.out] at ho82)); have n0_ := Aside0.mk (Kd.R_lower (Kd.R_newB ho82 (g := gb562) (o := .cells #[.int .i64 a1_0, .int .i64 a1_1] 23 (0, 0)) (bk_ BK562.out)) (below_size (bw_ HB.out))); have n1_ := Aside0.mk (blk_below (bk_ BK561.out) hb); have n2_ := Aside0.mk (blk_below (bk_ BK562.out) hb); have n3_ := Aside0.mk (blk_below (bk_ BK563.out) hb); have n4_ := Aside0.mk (below_step (bw_ HB.out) hb); clear BK561 BK562 BK563 HB; have HO566 := n0_; have BK561 := n1_; have BK562 := n2_; have BK563 := n3_; have HB := n4_; clear n0_ n1_ n2_ n3_ n4_; clear hb ho82; obtain ⟨Ao83, co83, eo83⟩ := Kd.R_slice HO566.out; subst eo83) | ((with_reducible refine gate_callee (f := 21) rfl ?_); refine goesL_ (some 13) rfl rfl Try.func21 (by kernel_rfl) rfl #[.agg #[.int .i64 a0_0, .int .i64 a0_1], .slice Ao83 y564.length co83] rfl (by (try simp only [List.map_toArray, List.map_cons, List.map_nil]); first | done | rfl | (simp only [List.length_drop, List.length_take]; rfl)) ?_; (with_reducible refine (agg_Check.calls a0_0 a0_1 _ _ y564 t567 _ ?side1 ?side2 A4.out).mono ?_); (case side1 => repeat (first | exact (Kd.R_reads' HO566.out).2.2 | (with_reducible refine Kd.C_alloc ?_ _) | (with_reducible refine Kd.C_drewN ?_ _) | (with_reducible refine Kd.C_drew ?_))); (case side2 => exact (Kd.R_reads' HO566.out).2.1); rintro e w84 ⟨rfl, hb⟩; refine ⟨_, rfl, ?_⟩; have n0_ := Aside0.mk (Kd.R_below (by (with_reducible repeat (first | apply Kd.R_alloc | apply Kd.R_drewN | apply Kd.R_drew)); exact HO566.out) hb); have n1_ := Aside0.mk (blk_below (bk_ BK561.out) hb); have n2_ := Aside0.mk (blk_below (bk_ BK562.out) hb); have n3_ := Aside0.mk (blk_below (bk_ BK563.out) hb); have n4_ := Aside0.mk (below_step (bw_ HB.out) hb); clear HO566 BK561 BK562 BK563 HB; have HO566 := n0_; have BK561 := n1_; have BK562 := n2_; have BK563 := n3_; have HB := n4_; clear n0_ n1_ n2_ n3_ n4_; (try clear hb); (try clear hb2); (try clear hk); (try clear hi); have hcz85_0 : w84.cell? ⟨gb562, 0, none⟩ = some (.int .i64 a1_0) := (blk_cell BK562.out 0).trans rfl; have hcz85_1 : w84.cell? ⟨gb562, 1, none⟩ = some (.int .i64 a1_1) := (blk_cell BK562.out 1).trans rfl; have hfz85_0 := blk_frozen BK562.out 0; have hfz85_1 := blk_frozen BK562.out 1; have hcz86_0 : w84.cell? ⟨gb563, 0, none⟩ = some (.int .u64 a2_0) := (blk_cell BK563.out 0).trans rfl; have hcz86_1 : w84.cell? ⟨gb563, 1, none⟩ = some (.int .i64 a2_1) := (blk_cell BK563.out 1).trans rfl; have hcz86_2 : w84.cell? ⟨gb563, 2, none⟩ = some (.slice A2_2 l2_2.length c2_2) := (blk_cell BK563.out 2).trans rfl; have hfz86_0 := blk_frozen BK563.out 0; have hfz86_1 := blk_frozen BK563.out 1; have hfz86_2 := blk_frozen BK563.out 2) | ((with_reducible refine gate_callee (f := 36) rfl ?_); refine goesL_ (some 42) rfl rfl Try.func36 (by kernel_rfl) rfl #[.slice A2_2 l2_2.length c2_2] rfl (by (try simp only [List.map_toArray, List.map_cons, List.map_nil]); first | done | rfl | (simp only [List.length_drop, List.length_take]; rfl)) ?_; (with_reducible refine (slices_IsSorted_string_string.calls k _ _ l2_2 true _ ?side1 ?side2 A7.out).mono ?_); (case side1 => repeat (first | exact (Kd.C_below HR2_2.out HB.out) | (with_reducible refine Kd.C_alloc ?_ _) | (with_reducible refine Kd.C_drewN ?_ _) | (with_reducible refine Kd.C_drew ?_))); (case side2 => exact HC2_2.out); rintro e w' ⟨rfl, ⟨nd, rfl⟩⟩; refine ⟨_, rfl, ?_⟩) | (go_at_call 29; (with_reducible refine (slices_Clone_string_string.calls _ _ l2_2 t569 _ ?side1 ?side2 A9.out).mono ?_); (case side1 => repeat (first | exact (Kd.C_below HR2_2.out (bw_ HB.out)) | (with_reducible refine Kd.C_alloc ?_ _) | (with_reducible refine Kd.C_drewN ?_ _) | (with_reducible refine Kd.C_drew ?_))); (case side2 => exact HC2_2.out); rintro e w87 ⟨v570, rfl, ho0, hb⟩; have n0_ := Aside0.mk (Kd.R_below (by (with_reducible repeat (first | apply Kd.R_alloc | apply Kd.R_drewN | apply Kd.R_drew)); exact HO566.out) hb); have n1_ := Aside0.mk (Kd.R_lower ho0 (below_size (bw_ HB.out))); have n2_ := Aside0.mk (blk_below (bk_ BK561.out) hb); have n3_ := Aside0.mk (blk_below (bk_ BK562.out) hb); have n4_ := Aside0.mk (blk_below (bk_ BK563.out) hb); have n5_ := Aside0.mk (below_step (bw_ HB.out) hb); clear HO566 BK561 BK562 BK563 HB; have HO566 := n0_; have HO571 := n1_; have BK561 := n2_; have BK562 := n3_; have BK563 := n4_; have HB := n5_; clear n0_ n1_ n2_ n3_ n4_ n5_; (try clear hb); (try clear hb2); (try clear hk); (try clear hi); (try clear ho0); obtain ⟨Ao88, co88, eo88⟩ := Kd.R_slice HO571.out; subst eo88) | (go_at_call 31; (with_reducible refine (slices_Compact_string_string.calls (fun k_ => some k_ = (.slice Ao88 t569.length co88 : Value).ownBlock) (.slice Ao88 t569.length co88) t569 t572 w _ ?side1 ?side2 A10.out).mono ?_); (case side1 => repeat (first | (with_reducible first | exact HB.out | apply below_alloc | apply pw_below_drewN | apply below_drew1 | refine below_set ?_ GE561.out | refine below_set ?_ GE562.out | refine below_set ?_ GE563.out) | exact HB.out)); (case side2 => exact Kd.R_tight rfl HO571.out); rintro e w89 ⟨v573, rfl, ho0, hb, hkp⟩; have n0_ := Aside0.mk (blk_kept (bk_ BK561.out) hkp (fun hs_ => (fun e_ => (Kd.R_ne HO571.out BK561.out (by decide)) e_) hs_)); have n1_ := Aside0.mk (blk_kept (bk_ BK562.out) hkp (fun hs_ => (fun e_ => (Kd.R_ne HO571.out BK562.out (by decide)) e_) hs_)); have n2_ := Aside0.mk (blk_kept (bk_ BK563.out) hkp (fun hs_ => (fun e_ => (Kd.R_ne HO571.out BK563.out (by decide)) e_) hs_)); have n3_ := Aside0.mk (Kd.R_mono (ok' := fun k_ => k_ ≠ gb562) (Kd.R_keptB ((Kd.R_apart' HO566.out (Kd.R_typed HO571.out) (by decide))) hkp (fun k_ hk_ hs_ => (hk_.2) hs_)) (fun k_ hk_ => hk_.1.1.2)); have n4_ := Aside0.mk (Kd.R_mono (ok' := fun k_ => True) ho0 (fun k_ hk_ => trivial)); have n5_ := Aside0.mk (hb); clear BK561 BK562 BK563 HO566 HB HO571; have BK561 := n0_; have BK562 := n1_; have BK563 := n2_; have HO566 := n3_; have HO574 := n4_; have HB := n5_; clear n0_ n1_ n2_ n3_ n4_ n5_; (try clear hb); (try clear hkp); (try clear ho0); obtain ⟨Ao90, co90, eo90⟩ := Kd.R_slice HO574.out; subst eo90; have hcz91_0 : w89.cell? ⟨gb563, 0, none⟩ = some (.int .u64 a2_0) := (blk_cell BK563.out 0).trans rfl; have hcz91_1 : w89.cell? ⟨gb563, 1, none⟩ = some (.int .i64 a2_1) := (blk_cell BK563.out 1).trans rfl; have hcz91_2 : w89.cell? ⟨gb563, 2, none⟩ = some (.slice A2_2 l2_2.length c2_2) := (blk_cell BK563.out 2).trans rfl; have hfz91_0 := blk_frozen BK563.out 0; have hfz91_1 := blk_frozen BK563.out 1; have hfz91_2 := blk_frozen BK563.out 2) | ((with_reducible refine gate_callee (f := 37) rfl ?_); refine goesL_ (some 54) rfl rfl Try.func37 (by kernel_rfl) rfl #[.slice A2_2 l2_2.length c2_2, .func (.func 38) #[] #[]] rfl (by (try simp only [List.map_toArray, List.map_cons, List.map_nil]); first | done | rfl | (simp only [List.length_drop, List.length_take]; rfl)) ?_; (with_reducible refine (slices_ContainsFunc_string_string_at_agg_May_1.calls _ _ l2_2 t575 _ ?side1 ?side2 A11.out).mono ?_); (case side1 => repeat (first | exact (Kd.C_below HR2_2.out HB.out) | (with_reducible refine Kd.C_alloc ?_ _) | (with_reducible refine Kd.C_drewN ?_ _) | (with_reducible refine Kd.C_drew ?_))); (case side2 => exact HC2_2.out); rintro e w' ⟨rfl, ⟨nd, rfl⟩⟩; refine ⟨_, rfl, ?_⟩))
      go_ret
      exact ⟨by first | rfl | (simp [errW_none, errW_some] <;> rfl) | (simp [*, errW_none, errW_some] <;> rfl), by repeat (first | (with_reducible first | exact HB.out | apply below_alloc | apply pw_below_drewN | apply below_drew1 | refine below_set ?_ GE561.out | refine below_set ?_ GE562.out | refine below_set ?_ GE563.out) | exact HB.out)⟩
    ·rw [if_neg c12] at H
     have c12b0 : (a2_1 == 0) = false := beq_eq_false_iff_ne.mpr c12
     have c12b1 : (a2_1 != 0) = true := bne_iff_ne.mpr c12
     obtain rfl := Option.some.inj H
     go_enter Try.func23, Try.ntmps23
     go_wp2_with (first | ((with_reducible refine gate_dst (N := 3) rfl ?_); (try (refine gate_guard (by rfl) ?_; dsimp only)); refine bx_ (N := 3) (cs := #[.int .i64 a0_0, .int .i64 a0_1]) (t := 27) ?_; intro gb561 hg w92 hbox hb; have n0_ := Aside0.mk (below_step (bw_ HB.out) hb); have n1_ := Aside0.mk (hbox); have n2_ := Aside0.mk (sz_ hg (bw_ HB.out)); have n3_ := n2_; clear HB; have HB := n0_; have BK561 := n1_; have GW561 := n2_; have GE561 := n3_; clear n0_ n1_ n2_ n3_; clear hb hbox hg) | ((with_reducible refine gate_dst (N := 4) rfl ?_); (try (refine gate_guard (by rfl) ?_; dsimp only)); refine bx_ (N := 4) (cs := #[.int .i64 a1_0, .int .i64 a1_1]) (t := 23) ?_; intro gb562 hg w93 hbox hb; have n0_ := Aside0.mk (blk_below (bk_ BK561.out) hb); have n1_ := Aside0.mk (below_step (bw_ HB.out) hb); have n2_ := Aside0.mk (hbox); have n3_ := Aside0.mk (sz_ hg (bw_ HB.out)); have n4_ := n3_; have n5_ := Aside0.mk (ne_ hg (blk_lt (bk_ BK561.out))); have n6_ := Aside0.mk n5_.out.symm; clear BK561 HB; have BK561 := n0_; have HB := n1_; have BK562 := n2_; have GW562 := n3_; have GE562 := n4_; have NB561_562 := n5_; have NB562_561 := n6_; clear n0_ n1_ n2_ n3_ n4_ n5_ n6_; clear hb hbox hg) | ((with_reducible refine gate_dst (N := 5) rfl ?_); (try (refine gate_guard (by rfl) ?_; dsimp only)); refine bx_ (N := 5) (cs := #[.int .u64 a2_0, .int .i64 a2_1, .slice A2_2 l2_2.length c2_2]) (t := 33) ?_; intro gb563 hg w94 hbox hb; have n0_ := Aside0.mk (blk_below (bk_ BK561.out) hb); have n1_ := Aside0.mk (blk_below (bk_ BK562.out) hb); have n2_ := Aside0.mk (below_step (bw_ HB.out) hb); have n3_ := Aside0.mk (hbox); have n4_ := Aside0.mk (sz_ hg (bw_ HB.out)); have n5_ := n4_; have n6_ := Aside0.mk (ne_ hg (blk_lt (bk_ BK561.out))); have n7_ := Aside0.mk n6_.out.symm; have n8_ := Aside0.mk (ne_ hg (blk_lt (bk_ BK562.out))); have n9_ := Aside0.mk n8_.out.symm; clear BK561 BK562 HB; have BK561 := n0_; have BK562 := n1_; have HB := n2_; have BK563 := n3_; have GW563 := n4_; have GE563 := n5_; have NB561_563 := n6_; have NB563_561 := n7_; have NB562_563 := n8_; have NB563_562 := n9_; clear n0_ n1_ n2_ n3_ n4_ n5_ n6_ n7_ n8_ n9_; clear hb hbox hg; have hnb95 := NB561_562.out; have hnc95 := NB562_561.out; have hnb96 := NB561_563.out; have hnc96 := NB563_561.out; have hcz97_0 : w94.cell? ⟨gb561, 0, none⟩ = some (.int .i64 a0_0) := (blk_cell BK561.out 0).trans rfl; have hcz97_1 : w94.cell? ⟨gb561, 1, none⟩ = some (.int .i64 a0_1) := (blk_cell BK561.out 1).trans rfl; have hfz97_0 := blk_frozen BK561.out 0; have hfz97_1 := blk_frozen BK561.out 1; have hnb98 := NB562_563.out; have hnc98 := NB563_562.out; have hcz99_0 : w94.cell? ⟨gb562, 0, none⟩ = some (.int .i64 a1_0) := (blk_cell BK562.out 0).trans rfl; have hcz99_1 : w94.cell? ⟨gb562, 1, none⟩ = some (.int .i64 a1_1) := (blk_cell BK562.out 1).trans rfl; have hfz99_0 := blk_frozen BK562.out 0; have hfz99_1 := blk_frozen BK562.out 1) | ((with_reducible refine gate_dst (N := 12) rfl ?_); (try (refine gate_guard (by rfl) ?_; dsimp only)); refine Kd.R_lit k23 _ 23 ?hg (N := 12) ?hd (xs := ([(⟨a1_0, a1_1⟩ : S23)] : List (S23))) (inner := [.int .i64 a1_0, .int .i64 a1_1]) (ok := fun _ => True) (okp := fun _ => True) ?hr ?hp (fun _ hk => hk) trivial (Below.refl _ _) (Nat.le_refl _) (by simp) ?_; (case hd => rfl); (case hg => rfl); (case hr => first | (go_simp; done) | (go_simp; rfl)); (case hp => exact (Reps.c2 (show Kd.M k23 _ _ _ (⟨a1_0, a1_1⟩ : S23) [.int .i64 a1_0, .int .i64 a1_1] from (k23_mkM _ _ _ (⟨a1_0, a1_1⟩ : S23) )) (Reps.none _ _))); intro v565 w100 ho101 hb hg_ hnew_; clear hg_ hnew_; (first | rw [← Ny564.out] at ho101 | (simp only [Int.reduceToNat] at ho101; rw [← Ny564.out] at ho101)); have n0_ := Aside0.mk (Kd.R_lower (Kd.R_newB ho101 (g := gb562) (o := .cells #[.int .i64 a1_0, .int .i64 a1_1] 23 (0, 0)) (bk_ BK562.out)) (below_size (bw_ HB.out))); have n1_ := Aside0.mk (blk_below (bk_ BK561.out) hb); have n2_ := Aside0.mk (blk_below (bk_ BK562.out) hb); have n3_ := Aside0.mk (blk_below (bk_ BK563.out) hb); have n4_ := Aside0.mk (below_step (bw_ HB.out) hb); clear BK561 BK562 BK563 HB; have HO566 := n0_; have BK561 := n1_; have BK562 := n2_; have BK563 := n3_; have HB := n4_; clear n0_ n1_ n2_ n3_ n4_; clear hb ho101; obtain ⟨Ao102, co102, eo102⟩ := Kd.R_slice HO566.out; subst eo102) | ((with_reducible refine gate_callee (f := 21) rfl ?_); refine goesL_ (some 13) rfl rfl Try.func21 (by kernel_rfl) rfl #[.agg #[.int .i64 a0_0, .int .i64 a0_1], .slice Ao102 y564.length co102] rfl (by (try simp only [List.map_toArray, List.map_cons, List.map_nil]); first | done | rfl | (simp only [List.length_drop, List.length_take]; rfl)) ?_; (with_reducible refine (agg_Check.calls a0_0 a0_1 _ _ y564 t567 _ ?side1 ?side2 A4.out).mono ?_); (case side1 => repeat (first | exact (Kd.R_reads' HO566.out).2.2 | (with_reducible refine Kd.C_alloc ?_ _) | (with_reducible refine Kd.C_drewN ?_ _) | (with_reducible refine Kd.C_drew ?_))); (case side2 => exact (Kd.R_reads' HO566.out).2.1); rintro e w103 ⟨rfl, hb⟩; refine ⟨_, rfl, ?_⟩; have n0_ := Aside0.mk (Kd.R_below (by (with_reducible repeat (first | apply Kd.R_alloc | apply Kd.R_drewN | apply Kd.R_drew)); exact HO566.out) hb); have n1_ := Aside0.mk (blk_below (bk_ BK561.out) hb); have n2_ := Aside0.mk (blk_below (bk_ BK562.out) hb); have n3_ := Aside0.mk (blk_below (bk_ BK563.out) hb); have n4_ := Aside0.mk (below_step (bw_ HB.out) hb); clear HO566 BK561 BK562 BK563 HB; have HO566 := n0_; have BK561 := n1_; have BK562 := n2_; have BK563 := n3_; have HB := n4_; clear n0_ n1_ n2_ n3_ n4_; (try clear hb); (try clear hb2); (try clear hk); (try clear hi); have hcz104_0 : w103.cell? ⟨gb562, 0, none⟩ = some (.int .i64 a1_0) := (blk_cell BK562.out 0).trans rfl; have hcz104_1 : w103.cell? ⟨gb562, 1, none⟩ = some (.int .i64 a1_1) := (blk_cell BK562.out 1).trans rfl; have hfz104_0 := blk_frozen BK562.out 0; have hfz104_1 := blk_frozen BK562.out 1; have hcz105_0 : w103.cell? ⟨gb563, 0, none⟩ = some (.int .u64 a2_0) := (blk_cell BK563.out 0).trans rfl; have hcz105_1 : w103.cell? ⟨gb563, 1, none⟩ = some (.int .i64 a2_1) := (blk_cell BK563.out 1).trans rfl; have hcz105_2 : w103.cell? ⟨gb563, 2, none⟩ = some (.slice A2_2 l2_2.length c2_2) := (blk_cell BK563.out 2).trans rfl; have hfz105_0 := blk_frozen BK563.out 0; have hfz105_1 := blk_frozen BK563.out 1; have hfz105_2 := blk_frozen BK563.out 2) | ((with_reducible refine gate_callee (f := 36) rfl ?_); refine goesL_ (some 42) rfl rfl Try.func36 (by kernel_rfl) rfl #[.slice A2_2 l2_2.length c2_2] rfl (by (try simp only [List.map_toArray, List.map_cons, List.map_nil]); first | done | rfl | (simp only [List.length_drop, List.length_take]; rfl)) ?_; (with_reducible refine (slices_IsSorted_string_string.calls k _ _ l2_2 true _ ?side1 ?side2 A7.out).mono ?_); (case side1 => repeat (first | exact (Kd.C_below HR2_2.out HB.out) | (with_reducible refine Kd.C_alloc ?_ _) | (with_reducible refine Kd.C_drewN ?_ _) | (with_reducible refine Kd.C_drew ?_))); (case side2 => exact HC2_2.out); rintro e w' ⟨rfl, ⟨nd, rfl⟩⟩; refine ⟨_, rfl, ?_⟩) | (go_at_call 29; (with_reducible refine (slices_Clone_string_string.calls _ _ l2_2 t569 _ ?side1 ?side2 A9.out).mono ?_); (case side1 => repeat (first | exact (Kd.C_below HR2_2.out (bw_ HB.out)) | (with_reducible refine Kd.C_alloc ?_ _) | (with_reducible refine Kd.C_drewN ?_ _) | (with_reducible refine Kd.C_drew ?_))); (case side2 => exact HC2_2.out); rintro e w106 ⟨v570, rfl, ho0, hb⟩; have n0_ := Aside0.mk (Kd.R_below (by (with_reducible repeat (first | apply Kd.R_alloc | apply Kd.R_drewN | apply Kd.R_drew)); exact HO566.out) hb); have n1_ := Aside0.mk (Kd.R_lower ho0 (below_size (bw_ HB.out))); have n2_ := Aside0.mk (blk_below (bk_ BK561.out) hb); have n3_ := Aside0.mk (blk_below (bk_ BK562.out) hb); have n4_ := Aside0.mk (blk_below (bk_ BK563.out) hb); have n5_ := Aside0.mk (below_step (bw_ HB.out) hb); clear HO566 BK561 BK562 BK563 HB; have HO566 := n0_; have HO571 := n1_; have BK561 := n2_; have BK562 := n3_; have BK563 := n4_; have HB := n5_; clear n0_ n1_ n2_ n3_ n4_ n5_; (try clear hb); (try clear hb2); (try clear hk); (try clear hi); (try clear ho0); obtain ⟨Ao107, co107, eo107⟩ := Kd.R_slice HO571.out; subst eo107) | (go_at_call 31; (with_reducible refine (slices_Compact_string_string.calls (fun k_ => some k_ = (.slice Ao107 t569.length co107 : Value).ownBlock) (.slice Ao107 t569.length co107) t569 t572 w _ ?side1 ?side2 A10.out).mono ?_); (case side1 => repeat (first | (with_reducible first | exact HB.out | apply below_alloc | apply pw_below_drewN | apply below_drew1 | refine below_set ?_ GE561.out | refine below_set ?_ GE562.out | refine below_set ?_ GE563.out) | exact HB.out)); (case side2 => exact Kd.R_tight rfl HO571.out); rintro e w108 ⟨v573, rfl, ho0, hb, hkp⟩; have n0_ := Aside0.mk (blk_kept (bk_ BK561.out) hkp (fun hs_ => (fun e_ => (Kd.R_ne HO571.out BK561.out (by decide)) e_) hs_)); have n1_ := Aside0.mk (blk_kept (bk_ BK562.out) hkp (fun hs_ => (fun e_ => (Kd.R_ne HO571.out BK562.out (by decide)) e_) hs_)); have n2_ := Aside0.mk (blk_kept (bk_ BK563.out) hkp (fun hs_ => (fun e_ => (Kd.R_ne HO571.out BK563.out (by decide)) e_) hs_)); have n3_ := Aside0.mk (Kd.R_mono (ok' := fun k_ => k_ ≠ gb562) (Kd.R_keptB ((Kd.R_apart' HO566.out (Kd.R_typed HO571.out) (by decide))) hkp (fun k_ hk_ hs_ => (hk_.2) hs_)) (fun k_ hk_ => hk_.1.1.2)); have n4_ := Aside0.mk (Kd.R_mono (ok' := fun k_ => True) ho0 (fun k_ hk_ => trivial)); have n5_ := Aside0.mk (hb); clear BK561 BK562 BK563 HO566 HB HO571; have BK561 := n0_; have BK562 := n1_; have BK563 := n2_; have HO566 := n3_; have HO574 := n4_; have HB := n5_; clear n0_ n1_ n2_ n3_ n4_ n5_; (try clear hb); (try clear hkp); (try clear ho0); obtain ⟨Ao109, co109, eo109⟩ := Kd.R_slice HO574.out; subst eo109; have hcz110_0 : w108.cell? ⟨gb563, 0, none⟩ = some (.int .u64 a2_0) := (blk_cell BK563.out 0).trans rfl; have hcz110_1 : w108.cell? ⟨gb563, 1, none⟩ = some (.int .i64 a2_1) := (blk_cell BK563.out 1).trans rfl; have hcz110_2 : w108.cell? ⟨gb563, 2, none⟩ = some (.slice A2_2 l2_2.length c2_2) := (blk_cell BK563.out 2).trans rfl; have hfz110_0 := blk_frozen BK563.out 0; have hfz110_1 := blk_frozen BK563.out 1; have hfz110_2 := blk_frozen BK563.out 2) | ((with_reducible refine gate_callee (f := 37) rfl ?_); refine goesL_ (some 54) rfl rfl Try.func37 (by kernel_rfl) rfl #[.slice A2_2 l2_2.length c2_2, .func (.func 38) #[] #[]] rfl (by (try simp only [List.map_toArray, List.map_cons, List.map_nil]); first | done | rfl | (simp only [List.length_drop, List.length_take]; rfl)) ?_; (with_reducible refine (slices_ContainsFunc_string_string_at_agg_May_1.calls _ _ l2_2 t575 _ ?side1 ?side2 A11.out).mono ?_); (case side1 => repeat (first | exact (Kd.C_below HR2_2.out HB.out) | (with_reducible refine Kd.C_alloc ?_ _) | (with_reducible refine Kd.C_drewN ?_ _) | (with_reducible refine Kd.C_drew ?_))); (case side2 => exact HC2_2.out); rintro e w' ⟨rfl, ⟨nd, rfl⟩⟩; refine ⟨_, rfl, ?_⟩))
     go_ret
     exact ⟨by first | rfl | (simp [errW_none, errW_some] <;> rfl) | (simp [*, errW_none, errW_some] <;> rfl), by repeat (first | (with_reducible first | exact HB.out | apply below_alloc | apply pw_below_drewN | apply below_drew1 | refine below_set ?_ GE561.out | refine below_set ?_ GE562.out | refine below_set ?_ GE563.out) | exact HB.out)⟩
   ·replace c8 := Bool.eq_false_iff.mpr c8
    subst c8
    have H1 : ((slices_ContainsFunc_string_string_at_agg_May_1.f l2_2).bind fun t576 => (if a2_1 = 0 then (some false) else (some false))) = some r := by rw [if_neg (show ¬ (false = true) by decide)] at H; exact H
    clear H
    have H := H1
    clear H1
    replace H := Option.bind_eq_some_iff.mp H
    obtain ⟨t576, A1110, H⟩ := H
    replace H : (if a2_1 = 0 then (some false) else (some false)) = some r := H
    have A111 := Aside0.mk A1110
    clear A1110
    by_cases c112 : a2_1 = 0
    ·rw [if_pos c112] at H
     have c112b0 : (a2_1 == 0) = true := beq_iff_eq.mpr c112
     have c112b1 : (a2_1 != 0) = false := bne_eq_false_iff_eq.mpr c112
     clear c112
     obtain rfl := Option.some.inj H
     go_enter Try.func23, Try.ntmps23
     go_wp2_with (first | ((with_reducible refine gate_dst (N := 3) rfl ?_); (try (refine gate_guard (by rfl) ?_; dsimp only)); refine bx_ (N := 3) (cs := #[.int .i64 a0_0, .int .i64 a0_1]) (t := 27) ?_; intro gb561 hg w113 hbox hb; have n0_ := Aside0.mk (below_step (bw_ HB.out) hb); have n1_ := Aside0.mk (hbox); have n2_ := Aside0.mk (sz_ hg (bw_ HB.out)); have n3_ := n2_; clear HB; have HB := n0_; have BK561 := n1_; have GW561 := n2_; have GE561 := n3_; clear n0_ n1_ n2_ n3_; clear hb hbox hg) | ((with_reducible refine gate_dst (N := 4) rfl ?_); (try (refine gate_guard (by rfl) ?_; dsimp only)); refine bx_ (N := 4) (cs := #[.int .i64 a1_0, .int .i64 a1_1]) (t := 23) ?_; intro gb562 hg w114 hbox hb; have n0_ := Aside0.mk (blk_below (bk_ BK561.out) hb); have n1_ := Aside0.mk (below_step (bw_ HB.out) hb); have n2_ := Aside0.mk (hbox); have n3_ := Aside0.mk (sz_ hg (bw_ HB.out)); have n4_ := n3_; have n5_ := Aside0.mk (ne_ hg (blk_lt (bk_ BK561.out))); have n6_ := Aside0.mk n5_.out.symm; clear BK561 HB; have BK561 := n0_; have HB := n1_; have BK562 := n2_; have GW562 := n3_; have GE562 := n4_; have NB561_562 := n5_; have NB562_561 := n6_; clear n0_ n1_ n2_ n3_ n4_ n5_ n6_; clear hb hbox hg) | ((with_reducible refine gate_dst (N := 5) rfl ?_); (try (refine gate_guard (by rfl) ?_; dsimp only)); refine bx_ (N := 5) (cs := #[.int .u64 a2_0, .int .i64 a2_1, .slice A2_2 l2_2.length c2_2]) (t := 33) ?_; intro gb563 hg w115 hbox hb; have n0_ := Aside0.mk (blk_below (bk_ BK561.out) hb); have n1_ := Aside0.mk (blk_below (bk_ BK562.out) hb); have n2_ := Aside0.mk (below_step (bw_ HB.out) hb); have n3_ := Aside0.mk (hbox); have n4_ := Aside0.mk (sz_ hg (bw_ HB.out)); have n5_ := n4_; have n6_ := Aside0.mk (ne_ hg (blk_lt (bk_ BK561.out))); have n7_ := Aside0.mk n6_.out.symm; have n8_ := Aside0.mk (ne_ hg (blk_lt (bk_ BK562.out))); have n9_ := Aside0.mk n8_.out.symm; clear BK561 BK562 HB; have BK561 := n0_; have BK562 := n1_; have HB := n2_; have BK563 := n3_; have GW563 := n4_; have GE563 := n5_; have NB561_563 := n6_; have NB563_561 := n7_; have NB562_563 := n8_; have NB563_562 := n9_; clear n0_ n1_ n2_ n3_ n4_ n5_ n6_ n7_ n8_ n9_; clear hb hbox hg; have hnb116 := NB561_562.out; have hnc116 := NB562_561.out; have hnb117 := NB561_563.out; have hnc117 := NB563_561.out; have hcz118_0 : w115.cell? ⟨gb561, 0, none⟩ = some (.int .i64 a0_0) := (blk_cell BK561.out 0).trans rfl; have hcz118_1 : w115.cell? ⟨gb561, 1, none⟩ = some (.int .i64 a0_1) := (blk_cell BK561.out 1).trans rfl; have hfz118_0 := blk_frozen BK561.out 0; have hfz118_1 := blk_frozen BK561.out 1; have hnb119 := NB562_563.out; have hnc119 := NB563_562.out; have hcz120_0 : w115.cell? ⟨gb562, 0, none⟩ = some (.int .i64 a1_0) := (blk_cell BK562.out 0).trans rfl; have hcz120_1 : w115.cell? ⟨gb562, 1, none⟩ = some (.int .i64 a1_1) := (blk_cell BK562.out 1).trans rfl; have hfz120_0 := blk_frozen BK562.out 0; have hfz120_1 := blk_frozen BK562.out 1) | ((with_reducible refine gate_dst (N := 12) rfl ?_); (try (refine gate_guard (by rfl) ?_; dsimp only)); refine Kd.R_lit k23 _ 23 ?hg (N := 12) ?hd (xs := ([(⟨a1_0, a1_1⟩ : S23)] : List (S23))) (inner := [.int .i64 a1_0, .int .i64 a1_1]) (ok := fun _ => True) (okp := fun _ => True) ?hr ?hp (fun _ hk => hk) trivial (Below.refl _ _) (Nat.le_refl _) (by simp) ?_; (case hd => rfl); (case hg => rfl); (case hr => first | (go_simp; done) | (go_simp; rfl)); (case hp => exact (Reps.c2 (show Kd.M k23 _ _ _ (⟨a1_0, a1_1⟩ : S23) [.int .i64 a1_0, .int .i64 a1_1] from (k23_mkM _ _ _ (⟨a1_0, a1_1⟩ : S23) )) (Reps.none _ _))); intro v565 w121 ho122 hb hg_ hnew_; clear hg_ hnew_; (first | rw [← Ny564.out] at ho122 | (simp only [Int.reduceToNat] at ho122; rw [← Ny564.out] at ho122)); have n0_ := Aside0.mk (Kd.R_lower (Kd.R_newB ho122 (g := gb562) (o := .cells #[.int .i64 a1_0, .int .i64 a1_1] 23 (0, 0)) (bk_ BK562.out)) (below_size (bw_ HB.out))); have n1_ := Aside0.mk (blk_below (bk_ BK561.out) hb); have n2_ := Aside0.mk (blk_below (bk_ BK562.out) hb); have n3_ := Aside0.mk (blk_below (bk_ BK563.out) hb); have n4_ := Aside0.mk (below_step (bw_ HB.out) hb); clear BK561 BK562 BK563 HB; have HO566 := n0_; have BK561 := n1_; have BK562 := n2_; have BK563 := n3_; have HB := n4_; clear n0_ n1_ n2_ n3_ n4_; clear hb ho122; obtain ⟨Ao123, co123, eo123⟩ := Kd.R_slice HO566.out; subst eo123) | ((with_reducible refine gate_callee (f := 21) rfl ?_); refine goesL_ (some 13) rfl rfl Try.func21 (by kernel_rfl) rfl #[.agg #[.int .i64 a0_0, .int .i64 a0_1], .slice Ao123 y564.length co123] rfl (by (try simp only [List.map_toArray, List.map_cons, List.map_nil]); first | done | rfl | (simp only [List.length_drop, List.length_take]; rfl)) ?_; (with_reducible refine (agg_Check.calls a0_0 a0_1 _ _ y564 t567 _ ?side1 ?side2 A4.out).mono ?_); (case side1 => repeat (first | exact (Kd.R_reads' HO566.out).2.2 | (with_reducible refine Kd.C_alloc ?_ _) | (with_reducible refine Kd.C_drewN ?_ _) | (with_reducible refine Kd.C_drew ?_))); (case side2 => exact (Kd.R_reads' HO566.out).2.1); rintro e w124 ⟨rfl, hb⟩; refine ⟨_, rfl, ?_⟩; have n0_ := Aside0.mk (Kd.R_below (by (with_reducible repeat (first | apply Kd.R_alloc | apply Kd.R_drewN | apply Kd.R_drew)); exact HO566.out) hb); have n1_ := Aside0.mk (blk_below (bk_ BK561.out) hb); have n2_ := Aside0.mk (blk_below (bk_ BK562.out) hb); have n3_ := Aside0.mk (blk_below (bk_ BK563.out) hb); have n4_ := Aside0.mk (below_step (bw_ HB.out) hb); clear HO566 BK561 BK562 BK563 HB; have HO566 := n0_; have BK561 := n1_; have BK562 := n2_; have BK563 := n3_; have HB := n4_; clear n0_ n1_ n2_ n3_ n4_; (try clear hb); (try clear hb2); (try clear hk); (try clear hi); have hcz125_0 : w124.cell? ⟨gb562, 0, none⟩ = some (.int .i64 a1_0) := (blk_cell BK562.out 0).trans rfl; have hcz125_1 : w124.cell? ⟨gb562, 1, none⟩ = some (.int .i64 a1_1) := (blk_cell BK562.out 1).trans rfl; have hfz125_0 := blk_frozen BK562.out 0; have hfz125_1 := blk_frozen BK562.out 1; have hcz126_0 : w124.cell? ⟨gb563, 0, none⟩ = some (.int .u64 a2_0) := (blk_cell BK563.out 0).trans rfl; have hcz126_1 : w124.cell? ⟨gb563, 1, none⟩ = some (.int .i64 a2_1) := (blk_cell BK563.out 1).trans rfl; have hcz126_2 : w124.cell? ⟨gb563, 2, none⟩ = some (.slice A2_2 l2_2.length c2_2) := (blk_cell BK563.out 2).trans rfl; have hfz126_0 := blk_frozen BK563.out 0; have hfz126_1 := blk_frozen BK563.out 1; have hfz126_2 := blk_frozen BK563.out 2) | ((with_reducible refine gate_callee (f := 36) rfl ?_); refine goesL_ (some 42) rfl rfl Try.func36 (by kernel_rfl) rfl #[.slice A2_2 l2_2.length c2_2] rfl (by (try simp only [List.map_toArray, List.map_cons, List.map_nil]); first | done | rfl | (simp only [List.length_drop, List.length_take]; rfl)) ?_; (with_reducible refine (slices_IsSorted_string_string.calls k _ _ l2_2 false _ ?side1 ?side2 A7.out).mono ?_); (case side1 => repeat (first | exact (Kd.C_below HR2_2.out HB.out) | (with_reducible refine Kd.C_alloc ?_ _) | (with_reducible refine Kd.C_drewN ?_ _) | (with_reducible refine Kd.C_drew ?_))); (case side2 => exact HC2_2.out); rintro e w' ⟨rfl, ⟨nd, rfl⟩⟩; refine ⟨_, rfl, ?_⟩) | ((with_reducible refine gate_callee (f := 37) rfl ?_); refine goesL_ (some 54) rfl rfl Try.func37 (by kernel_rfl) rfl #[.slice A2_2 l2_2.length c2_2, .func (.func 38) #[] #[]] rfl (by (try simp only [List.map_toArray, List.map_cons, List.map_nil]); first | done | rfl | (simp only [List.length_drop, List.length_take]; rfl)) ?_; (with_reducible refine (slices_ContainsFunc_string_string_at_agg_May_1.calls _ _ l2_2 t576 _ ?side1 ?side2 A111.out).mono ?_); (case side1 => repeat (first | exact (Kd.C_below HR2_2.out (bw_ HB.out)) | (with_reducible refine Kd.C_alloc ?_ _) | (with_reducible refine Kd.C_drewN ?_ _) | (with_reducible refine Kd.C_drew ?_))); (case side2 => exact HC2_2.out); rintro e w' ⟨rfl, ⟨nd, rfl⟩⟩; refine ⟨_, rfl, ?_⟩))
     go_ret
     exact ⟨by first | rfl | (simp [errW_none, errW_some] <;> rfl) | (simp [*, errW_none, errW_some] <;> rfl), by repeat (first | (with_reducible first | exact HB.out | apply below_alloc | apply pw_below_drewN | apply below_drew1 | refine below_set ?_ GE561.out | refine below_set ?_ GE562.out | refine below_set ?_ GE563.out) | exact HB.out)⟩
    ·rw [if_neg c112] at H
     have c112b0 : (a2_1 == 0) = false := beq_eq_false_iff_ne.mpr c112
     have c112b1 : (a2_1 != 0) = true := bne_iff_ne.mpr c112
     obtain rfl := Option.some.inj H
     go_enter Try.func23, Try.ntmps23
     go_wp2_with (first | ((with_reducible refine gate_dst (N := 3) rfl ?_); (try (refine gate_guard (by rfl) ?_; dsimp only)); refine bx_ (N := 3) (cs := #[.int .i64 a0_0, .int .i64 a0_1]) (t := 27) ?_; intro gb561 hg w127 hbox hb; have n0_ := Aside0.mk (below_step (bw_ HB.out) hb); have n1_ := Aside0.mk (hbox); have n2_ := Aside0.mk (sz_ hg (bw_ HB.out)); have n3_ := n2_; clear HB; have HB := n0_; have BK561 := n1_; have GW561 := n2_; have GE561 := n3_; clear n0_ n1_ n2_ n3_; clear hb hbox hg) | ((with_reducible refine gate_dst (N := 4) rfl ?_); (try (refine gate_guard (by rfl) ?_; dsimp only)); refine bx_ (N := 4) (cs := #[.int .i64 a1_0, .int .i64 a1_1]) (t := 23) ?_; intro gb562 hg w128 hbox hb; have n0_ := Aside0.mk (blk_below (bk_ BK561.out) hb); have n1_ := Aside0.mk (below_step (bw_ HB.out) hb); have n2_ := Aside0.mk (hbox); have n3_ := Aside0.mk (sz_ hg (bw_ HB.out)); have n4_ := n3_; have n5_ := Aside0.mk (ne_ hg (blk_lt (bk_ BK561.out))); have n6_ := Aside0.mk n5_.out.symm; clear BK561 HB; have BK561 := n0_; have HB := n1_; have BK562 := n2_; have GW562 := n3_; have GE562 := n4_; have NB561_562 := n5_; have NB562_561 := n6_; clear n0_ n1_ n2_ n3_ n4_ n5_ n6_; clear hb hbox hg) | ((with_reducible refine gate_dst (N := 5) rfl ?_); (try (refine gate_guard (by rfl) ?_; dsimp only)); refine bx_ (N := 5) (cs := #[.int .u64 a2_0, .int .i64 a2_1, .slice A2_2 l2_2.length c2_2]) (t := 33) ?_; intro gb563 hg w129 hbox hb; have n0_ := Aside0.mk (blk_below (bk_ BK561.out) hb); have n1_ := Aside0.mk (blk_below (bk_ BK562.out) hb); have n2_ := Aside0.mk (below_step (bw_ HB.out) hb); have n3_ := Aside0.mk (hbox); have n4_ := Aside0.mk (sz_ hg (bw_ HB.out)); have n5_ := n4_; have n6_ := Aside0.mk (ne_ hg (blk_lt (bk_ BK561.out))); have n7_ := Aside0.mk n6_.out.symm; have n8_ := Aside0.mk (ne_ hg (blk_lt (bk_ BK562.out))); have n9_ := Aside0.mk n8_.out.symm; clear BK561 BK562 HB; have BK561 := n0_; have BK562 := n1_; have HB := n2_; have BK563 := n3_; have GW563 := n4_; have GE563 := n5_; have NB561_563 := n6_; have NB563_561 := n7_; have NB562_563 := n8_; have NB563_562 := n9_; clear n0_ n1_ n2_ n3_ n4_ n5_ n6_ n7_ n8_ n9_; clear hb hbox hg; have hnb130 := NB561_562.out; have hnc130 := NB562_561.out; have hnb131 := NB561_563.out; have hnc131 := NB563_561.out; have hcz132_0 : w129.cell? ⟨gb561, 0, none⟩ = some (.int .i64 a0_0) := (blk_cell BK561.out 0).trans rfl; have hcz132_1 : w129.cell? ⟨gb561, 1, none⟩ = some (.int .i64 a0_1) := (blk_cell BK561.out 1).trans rfl; have hfz132_0 := blk_frozen BK561.out 0; have hfz132_1 := blk_frozen BK561.out 1; have hnb133 := NB562_563.out; have hnc133 := NB563_562.out; have hcz134_0 : w129.cell? ⟨gb562, 0, none⟩ = some (.int .i64 a1_0) := (blk_cell BK562.out 0).trans rfl; have hcz134_1 : w129.cell? ⟨gb562, 1, none⟩ = some (.int .i64 a1_1) := (blk_cell BK562.out 1).trans rfl; have hfz134_0 := blk_frozen BK562.out 0; have hfz134_1 := blk_frozen BK562.out 1) | ((with_reducible refine gate_dst (N := 12) rfl ?_); (try (refine gate_guard (by rfl) ?_; dsimp only)); refine Kd.R_lit k23 _ 23 ?hg (N := 12) ?hd (xs := ([(⟨a1_0, a1_1⟩ : S23)] : List (S23))) (inner := [.int .i64 a1_0, .int .i64 a1_1]) (ok := fun _ => True) (okp := fun _ => True) ?hr ?hp (fun _ hk => hk) trivial (Below.refl _ _) (Nat.le_refl _) (by simp) ?_; (case hd => rfl); (case hg => rfl); (case hr => first | (go_simp; done) | (go_simp; rfl)); (case hp => exact (Reps.c2 (show Kd.M k23 _ _ _ (⟨a1_0, a1_1⟩ : S23) [.int .i64 a1_0, .int .i64 a1_1] from (k23_mkM _ _ _ (⟨a1_0, a1_1⟩ : S23) )) (Reps.none _ _))); intro v565 w135 ho136 hb hg_ hnew_; clear hg_ hnew_; (first | rw [← Ny564.out] at ho136 | (simp only [Int.reduceToNat] at ho136; rw [← Ny564.out] at ho136)); have n0_ := Aside0.mk (Kd.R_lower (Kd.R_newB ho136 (g := gb562) (o := .cells #[.int .i64 a1_0, .int .i64 a1_1] 23 (0, 0)) (bk_ BK562.out)) (below_size (bw_ HB.out))); have n1_ := Aside0.mk (blk_below (bk_ BK561.out) hb); have n2_ := Aside0.mk (blk_below (bk_ BK562.out) hb); have n3_ := Aside0.mk (blk_below (bk_ BK563.out) hb); have n4_ := Aside0.mk (below_step (bw_ HB.out) hb); clear BK561 BK562 BK563 HB; have HO566 := n0_; have BK561 := n1_; have BK562 := n2_; have BK563 := n3_; have HB := n4_; clear n0_ n1_ n2_ n3_ n4_; clear hb ho136; obtain ⟨Ao137, co137, eo137⟩ := Kd.R_slice HO566.out; subst eo137) | ((with_reducible refine gate_callee (f := 21) rfl ?_); refine goesL_ (some 13) rfl rfl Try.func21 (by kernel_rfl) rfl #[.agg #[.int .i64 a0_0, .int .i64 a0_1], .slice Ao137 y564.length co137] rfl (by (try simp only [List.map_toArray, List.map_cons, List.map_nil]); first | done | rfl | (simp only [List.length_drop, List.length_take]; rfl)) ?_; (with_reducible refine (agg_Check.calls a0_0 a0_1 _ _ y564 t567 _ ?side1 ?side2 A4.out).mono ?_); (case side1 => repeat (first | exact (Kd.R_reads' HO566.out).2.2 | (with_reducible refine Kd.C_alloc ?_ _) | (with_reducible refine Kd.C_drewN ?_ _) | (with_reducible refine Kd.C_drew ?_))); (case side2 => exact (Kd.R_reads' HO566.out).2.1); rintro e w138 ⟨rfl, hb⟩; refine ⟨_, rfl, ?_⟩; have n0_ := Aside0.mk (Kd.R_below (by (with_reducible repeat (first | apply Kd.R_alloc | apply Kd.R_drewN | apply Kd.R_drew)); exact HO566.out) hb); have n1_ := Aside0.mk (blk_below (bk_ BK561.out) hb); have n2_ := Aside0.mk (blk_below (bk_ BK562.out) hb); have n3_ := Aside0.mk (blk_below (bk_ BK563.out) hb); have n4_ := Aside0.mk (below_step (bw_ HB.out) hb); clear HO566 BK561 BK562 BK563 HB; have HO566 := n0_; have BK561 := n1_; have BK562 := n2_; have BK563 := n3_; have HB := n4_; clear n0_ n1_ n2_ n3_ n4_; (try clear hb); (try clear hb2); (try clear hk); (try clear hi); have hcz139_0 : w138.cell? ⟨gb562, 0, none⟩ = some (.int .i64 a1_0) := (blk_cell BK562.out 0).trans rfl; have hcz139_1 : w138.cell? ⟨gb562, 1, none⟩ = some (.int .i64 a1_1) := (blk_cell BK562.out 1).trans rfl; have hfz139_0 := blk_frozen BK562.out 0; have hfz139_1 := blk_frozen BK562.out 1; have hcz140_0 : w138.cell? ⟨gb563, 0, none⟩ = some (.int .u64 a2_0) := (blk_cell BK563.out 0).trans rfl; have hcz140_1 : w138.cell? ⟨gb563, 1, none⟩ = some (.int .i64 a2_1) := (blk_cell BK563.out 1).trans rfl; have hcz140_2 : w138.cell? ⟨gb563, 2, none⟩ = some (.slice A2_2 l2_2.length c2_2) := (blk_cell BK563.out 2).trans rfl; have hfz140_0 := blk_frozen BK563.out 0; have hfz140_1 := blk_frozen BK563.out 1; have hfz140_2 := blk_frozen BK563.out 2) | ((with_reducible refine gate_callee (f := 36) rfl ?_); refine goesL_ (some 42) rfl rfl Try.func36 (by kernel_rfl) rfl #[.slice A2_2 l2_2.length c2_2] rfl (by (try simp only [List.map_toArray, List.map_cons, List.map_nil]); first | done | rfl | (simp only [List.length_drop, List.length_take]; rfl)) ?_; (with_reducible refine (slices_IsSorted_string_string.calls k _ _ l2_2 false _ ?side1 ?side2 A7.out).mono ?_); (case side1 => repeat (first | exact (Kd.C_below HR2_2.out HB.out) | (with_reducible refine Kd.C_alloc ?_ _) | (with_reducible refine Kd.C_drewN ?_ _) | (with_reducible refine Kd.C_drew ?_))); (case side2 => exact HC2_2.out); rintro e w' ⟨rfl, ⟨nd, rfl⟩⟩; refine ⟨_, rfl, ?_⟩) | ((with_reducible refine gate_callee (f := 37) rfl ?_); refine goesL_ (some 54) rfl rfl Try.func37 (by kernel_rfl) rfl #[.slice A2_2 l2_2.length c2_2, .func (.func 38) #[] #[]] rfl (by (try simp only [List.map_toArray, List.map_cons, List.map_nil]); first | done | rfl | (simp only [List.length_drop, List.length_take]; rfl)) ?_; (with_reducible refine (slices_ContainsFunc_string_string_at_agg_May_1.calls _ _ l2_2 t576 _ ?side1 ?side2 A111.out).mono ?_); (case side1 => repeat (first | exact (Kd.C_below HR2_2.out (bw_ HB.out)) | (with_reducible refine Kd.C_alloc ?_ _) | (with_reducible refine Kd.C_drewN ?_ _) | (with_reducible refine Kd.C_drew ?_))); (case side2 => exact HC2_2.out); rintro e w' ⟨rfl, ⟨nd, rfl⟩⟩; refine ⟨_, rfl, ?_⟩))
     go_ret
     exact ⟨by first | rfl | (simp [errW_none, errW_some] <;> rfl) | (simp [*, errW_none, errW_some] <;> rfl), by repeat (first | (with_reducible first | exact HB.out | apply below_alloc | apply pw_below_drewN | apply below_drew1 | refine below_set ?_ GE561.out | refine below_set ?_ GE562.out | refine below_set ?_ GE563.out) | exact HB.out)⟩
  ·rw [if_neg c6] at H
   have c6b0 : (a1_0 == 5) = false := beq_eq_false_iff_ne.mpr c6
   have c6b1 : (a1_0 != 5) = true := bne_iff_ne.mpr c6
   by_cases c141 : (l2_2.length : Int) = 0
   ·rw [if_pos c141] at H
    have c141b0 : ((l2_2.length : Int) == 0) = true := beq_iff_eq.mpr c141
    have c141b1 : ((l2_2.length : Int) != 0) = false := bne_eq_false_iff_eq.mpr c141
    clear c141
    by_cases c142 : a2_1 = 0
    ·rw [if_pos c142] at H
     have c142b0 : (a2_1 == 0) = true := beq_iff_eq.mpr c142
     have c142b1 : (a2_1 != 0) = false := bne_eq_false_iff_eq.mpr c142
     clear c142
     obtain rfl := Option.some.inj H
     go_enter Try.func23, Try.ntmps23
     go_wp2_with (first | ((with_reducible refine gate_dst (N := 3) rfl ?_); (try (refine gate_guard (by rfl) ?_; dsimp only)); refine bx_ (N := 3) (cs := #[.int .i64 a0_0, .int .i64 a0_1]) (t := 27) ?_; intro gb561 hg w143 hbox hb; have n0_ := Aside0.mk (below_step (bw_ HB.out) hb); have n1_ := Aside0.mk (hbox); have n2_ := Aside0.mk (sz_ hg (bw_ HB.out)); have n3_ := n2_; clear HB; have HB := n0_; have BK561 := n1_; have GW561 := n2_; have GE561 := n3_; clear n0_ n1_ n2_ n3_; clear hb hbox hg) | ((with_reducible refine gate_dst (N := 4) rfl ?_); (try (refine gate_guard (by rfl) ?_; dsimp only)); refine bx_ (N := 4) (cs := #[.int .i64 a1_0, .int .i64 a1_1]) (t := 23) ?_; intro gb562 hg w144 hbox hb; have n0_ := Aside0.mk (blk_below (bk_ BK561.out) hb); have n1_ := Aside0.mk (below_step (bw_ HB.out) hb); have n2_ := Aside0.mk (hbox); have n3_ := Aside0.mk (sz_ hg (bw_ HB.out)); have n4_ := n3_; have n5_ := Aside0.mk (ne_ hg (blk_lt (bk_ BK561.out))); have n6_ := Aside0.mk n5_.out.symm; clear BK561 HB; have BK561 := n0_; have HB := n1_; have BK562 := n2_; have GW562 := n3_; have GE562 := n4_; have NB561_562 := n5_; have NB562_561 := n6_; clear n0_ n1_ n2_ n3_ n4_ n5_ n6_; clear hb hbox hg) | ((with_reducible refine gate_dst (N := 5) rfl ?_); (try (refine gate_guard (by rfl) ?_; dsimp only)); refine bx_ (N := 5) (cs := #[.int .u64 a2_0, .int .i64 a2_1, .slice A2_2 l2_2.length c2_2]) (t := 33) ?_; intro gb563 hg w145 hbox hb; have n0_ := Aside0.mk (blk_below (bk_ BK561.out) hb); have n1_ := Aside0.mk (blk_below (bk_ BK562.out) hb); have n2_ := Aside0.mk (below_step (bw_ HB.out) hb); have n3_ := Aside0.mk (hbox); have n4_ := Aside0.mk (sz_ hg (bw_ HB.out)); have n5_ := n4_; have n6_ := Aside0.mk (ne_ hg (blk_lt (bk_ BK561.out))); have n7_ := Aside0.mk n6_.out.symm; have n8_ := Aside0.mk (ne_ hg (blk_lt (bk_ BK562.out))); have n9_ := Aside0.mk n8_.out.symm; clear BK561 BK562 HB; have BK561 := n0_; have BK562 := n1_; have HB := n2_; have BK563 := n3_; have GW563 := n4_; have GE563 := n5_; have NB561_563 := n6_; have NB563_561 := n7_; have NB562_563 := n8_; have NB563_562 := n9_; clear n0_ n1_ n2_ n3_ n4_ n5_ n6_ n7_ n8_ n9_; clear hb hbox hg; have hnb146 := NB561_562.out; have hnc146 := NB562_561.out; have hnb147 := NB561_563.out; have hnc147 := NB563_561.out; have hcz148_0 : w145.cell? ⟨gb561, 0, none⟩ = some (.int .i64 a0_0) := (blk_cell BK561.out 0).trans rfl; have hcz148_1 : w145.cell? ⟨gb561, 1, none⟩ = some (.int .i64 a0_1) := (blk_cell BK561.out 1).trans rfl; have hfz148_0 := blk_frozen BK561.out 0; have hfz148_1 := blk_frozen BK561.out 1; have hnb149 := NB562_563.out; have hnc149 := NB563_562.out; have hcz150_0 : w145.cell? ⟨gb562, 0, none⟩ = some (.int .i64 a1_0) := (blk_cell BK562.out 0).trans rfl; have hcz150_1 : w145.cell? ⟨gb562, 1, none⟩ = some (.int .i64 a1_1) := (blk_cell BK562.out 1).trans rfl; have hfz150_0 := blk_frozen BK562.out 0; have hfz150_1 := blk_frozen BK562.out 1) | ((with_reducible refine gate_dst (N := 12) rfl ?_); (try (refine gate_guard (by rfl) ?_; dsimp only)); refine Kd.R_lit k23 _ 23 ?hg (N := 12) ?hd (xs := ([(⟨a1_0, a1_1⟩ : S23)] : List (S23))) (inner := [.int .i64 a1_0, .int .i64 a1_1]) (ok := fun _ => True) (okp := fun _ => True) ?hr ?hp (fun _ hk => hk) trivial (Below.refl _ _) (Nat.le_refl _) (by simp) ?_; (case hd => rfl); (case hg => rfl); (case hr => first | (go_simp; done) | (go_simp; rfl)); (case hp => exact (Reps.c2 (show Kd.M k23 _ _ _ (⟨a1_0, a1_1⟩ : S23) [.int .i64 a1_0, .int .i64 a1_1] from (k23_mkM _ _ _ (⟨a1_0, a1_1⟩ : S23) )) (Reps.none _ _))); intro v565 w151 ho152 hb hg_ hnew_; clear hg_ hnew_; (first | rw [← Ny564.out] at ho152 | (simp only [Int.reduceToNat] at ho152; rw [← Ny564.out] at ho152)); have n0_ := Aside0.mk (Kd.R_lower (Kd.R_newB ho152 (g := gb562) (o := .cells #[.int .i64 a1_0, .int .i64 a1_1] 23 (0, 0)) (bk_ BK562.out)) (below_size (bw_ HB.out))); have n1_ := Aside0.mk (blk_below (bk_ BK561.out) hb); have n2_ := Aside0.mk (blk_below (bk_ BK562.out) hb); have n3_ := Aside0.mk (blk_below (bk_ BK563.out) hb); have n4_ := Aside0.mk (below_step (bw_ HB.out) hb); clear BK561 BK562 BK563 HB; have HO566 := n0_; have BK561 := n1_; have BK562 := n2_; have BK563 := n3_; have HB := n4_; clear n0_ n1_ n2_ n3_ n4_; clear hb ho152; obtain ⟨Ao153, co153, eo153⟩ := Kd.R_slice HO566.out; subst eo153) | ((with_reducible refine gate_callee (f := 21) rfl ?_); refine goesL_ (some 13) rfl rfl Try.func21 (by kernel_rfl) rfl #[.agg #[.int .i64 a0_0, .int .i64 a0_1], .slice Ao153 y564.length co153] rfl (by (try simp only [List.map_toArray, List.map_cons, List.map_nil]); first | done | rfl | (simp only [List.length_drop, List.length_take]; rfl)) ?_; (with_reducible refine (agg_Check.calls a0_0 a0_1 _ _ y564 t567 _ ?side1 ?side2 A4.out).mono ?_); (case side1 => repeat (first | exact (Kd.R_reads' HO566.out).2.2 | (with_reducible refine Kd.C_alloc ?_ _) | (with_reducible refine Kd.C_drewN ?_ _) | (with_reducible refine Kd.C_drew ?_))); (case side2 => exact (Kd.R_reads' HO566.out).2.1); rintro e w154 ⟨rfl, hb⟩; refine ⟨_, rfl, ?_⟩; have n0_ := Aside0.mk (Kd.R_below (by (with_reducible repeat (first | apply Kd.R_alloc | apply Kd.R_drewN | apply Kd.R_drew)); exact HO566.out) hb); have n1_ := Aside0.mk (blk_below (bk_ BK561.out) hb); have n2_ := Aside0.mk (blk_below (bk_ BK562.out) hb); have n3_ := Aside0.mk (blk_below (bk_ BK563.out) hb); have n4_ := Aside0.mk (below_step (bw_ HB.out) hb); clear HO566 BK561 BK562 BK563 HB; have HO566 := n0_; have BK561 := n1_; have BK562 := n2_; have BK563 := n3_; have HB := n4_; clear n0_ n1_ n2_ n3_ n4_; (try clear hb); (try clear hb2); (try clear hk); (try clear hi); have hcz155_0 : w154.cell? ⟨gb562, 0, none⟩ = some (.int .i64 a1_0) := (blk_cell BK562.out 0).trans rfl; have hcz155_1 : w154.cell? ⟨gb562, 1, none⟩ = some (.int .i64 a1_1) := (blk_cell BK562.out 1).trans rfl; have hfz155_0 := blk_frozen BK562.out 0; have hfz155_1 := blk_frozen BK562.out 1; have hcz156_0 : w154.cell? ⟨gb563, 0, none⟩ = some (.int .u64 a2_0) := (blk_cell BK563.out 0).trans rfl; have hcz156_1 : w154.cell? ⟨gb563, 1, none⟩ = some (.int .i64 a2_1) := (blk_cell BK563.out 1).trans rfl; have hcz156_2 : w154.cell? ⟨gb563, 2, none⟩ = some (.slice A2_2 l2_2.length c2_2) := (blk_cell BK563.out 2).trans rfl; have hfz156_0 := blk_frozen BK563.out 0; have hfz156_1 := blk_frozen BK563.out 1; have hfz156_2 := blk_frozen BK563.out 2))
     go_ret
     exact ⟨by first | rfl | (simp [errW_none, errW_some] <;> rfl) | (simp [*, errW_none, errW_some] <;> rfl), by repeat (first | (with_reducible first | exact HB.out | apply below_alloc | apply pw_below_drewN | apply below_drew1 | refine below_set ?_ GE561.out | refine below_set ?_ GE562.out | refine below_set ?_ GE563.out) | exact HB.out)⟩
    ·rw [if_neg c142] at H
     have c142b0 : (a2_1 == 0) = false := beq_eq_false_iff_ne.mpr c142
     have c142b1 : (a2_1 != 0) = true := bne_iff_ne.mpr c142
     by_cases c157 : a2_0 = 0
     ·rw [if_pos c157] at H
      have c157b0 : (a2_0 == 0) = true := beq_iff_eq.mpr c157
      have c157b1 : (a2_0 != 0) = false := bne_eq_false_iff_eq.mpr c157
      clear c157
      obtain rfl := Option.some.inj H
      go_enter Try.func23, Try.ntmps23
      go_wp2_with (first | ((with_reducible refine gate_dst (N := 3) rfl ?_); (try (refine gate_guard (by rfl) ?_; dsimp only)); refine bx_ (N := 3) (cs := #[.int .i64 a0_0, .int .i64 a0_1]) (t := 27) ?_; intro gb561 hg w158 hbox hb; have n0_ := Aside0.mk (below_step (bw_ HB.out) hb); have n1_ := Aside0.mk (hbox); have n2_ := Aside0.mk (sz_ hg (bw_ HB.out)); have n3_ := n2_; clear HB; have HB := n0_; have BK561 := n1_; have GW561 := n2_; have GE561 := n3_; clear n0_ n1_ n2_ n3_; clear hb hbox hg) | ((with_reducible refine gate_dst (N := 4) rfl ?_); (try (refine gate_guard (by rfl) ?_; dsimp only)); refine bx_ (N := 4) (cs := #[.int .i64 a1_0, .int .i64 a1_1]) (t := 23) ?_; intro gb562 hg w159 hbox hb; have n0_ := Aside0.mk (blk_below (bk_ BK561.out) hb); have n1_ := Aside0.mk (below_step (bw_ HB.out) hb); have n2_ := Aside0.mk (hbox); have n3_ := Aside0.mk (sz_ hg (bw_ HB.out)); have n4_ := n3_; have n5_ := Aside0.mk (ne_ hg (blk_lt (bk_ BK561.out))); have n6_ := Aside0.mk n5_.out.symm; clear BK561 HB; have BK561 := n0_; have HB := n1_; have BK562 := n2_; have GW562 := n3_; have GE562 := n4_; have NB561_562 := n5_; have NB562_561 := n6_; clear n0_ n1_ n2_ n3_ n4_ n5_ n6_; clear hb hbox hg) | ((with_reducible refine gate_dst (N := 5) rfl ?_); (try (refine gate_guard (by rfl) ?_; dsimp only)); refine bx_ (N := 5) (cs := #[.int .u64 a2_0, .int .i64 a2_1, .slice A2_2 l2_2.length c2_2]) (t := 33) ?_; intro gb563 hg w160 hbox hb; have n0_ := Aside0.mk (blk_below (bk_ BK561.out) hb); have n1_ := Aside0.mk (blk_below (bk_ BK562.out) hb); have n2_ := Aside0.mk (below_step (bw_ HB.out) hb); have n3_ := Aside0.mk (hbox); have n4_ := Aside0.mk (sz_ hg (bw_ HB.out)); have n5_ := n4_; have n6_ := Aside0.mk (ne_ hg (blk_lt (bk_ BK561.out))); have n7_ := Aside0.mk n6_.out.symm; have n8_ := Aside0.mk (ne_ hg (blk_lt (bk_ BK562.out))); have n9_ := Aside0.mk n8_.out.symm; clear BK561 BK562 HB; have BK561 := n0_; have BK562 := n1_; have HB := n2_; have BK563 := n3_; have GW563 := n4_; have GE563 := n5_; have NB561_563 := n6_; have NB563_561 := n7_; have NB562_563 := n8_; have NB563_562 := n9_; clear n0_ n1_ n2_ n3_ n4_ n5_ n6_ n7_ n8_ n9_; clear hb hbox hg; have hnb161 := NB561_562.out; have hnc161 := NB562_561.out; have hnb162 := NB561_563.out; have hnc162 := NB563_561.out; have hcz163_0 : w160.cell? ⟨gb561, 0, none⟩ = some (.int .i64 a0_0) := (blk_cell BK561.out 0).trans rfl; have hcz163_1 : w160.cell? ⟨gb561, 1, none⟩ = some (.int .i64 a0_1) := (blk_cell BK561.out 1).trans rfl; have hfz163_0 := blk_frozen BK561.out 0; have hfz163_1 := blk_frozen BK561.out 1; have hnb164 := NB562_563.out; have hnc164 := NB563_562.out; have hcz165_0 : w160.cell? ⟨gb562, 0, none⟩ = some (.int .i64 a1_0) := (blk_cell BK562.out 0).trans rfl; have hcz165_1 : w160.cell? ⟨gb562, 1, none⟩ = some (.int .i64 a1_1) := (blk_cell BK562.out 1).trans rfl; have hfz165_0 := blk_frozen BK562.out 0; have hfz165_1 := blk_frozen BK562.out 1) | ((with_reducible refine gate_dst (N := 12) rfl ?_); (try (refine gate_guard (by rfl) ?_; dsimp only)); refine Kd.R_lit k23 _ 23 ?hg (N := 12) ?hd (xs := ([(⟨a1_0, a1_1⟩ : S23)] : List (S23))) (inner := [.int .i64 a1_0, .int .i64 a1_1]) (ok := fun _ => True) (okp := fun _ => True) ?hr ?hp (fun _ hk => hk) trivial (Below.refl _ _) (Nat.le_refl _) (by simp) ?_; (case hd => rfl); (case hg => rfl); (case hr => first | (go_simp; done) | (go_simp; rfl)); (case hp => exact (Reps.c2 (show Kd.M k23 _ _ _ (⟨a1_0, a1_1⟩ : S23) [.int .i64 a1_0, .int .i64 a1_1] from (k23_mkM _ _ _ (⟨a1_0, a1_1⟩ : S23) )) (Reps.none _ _))); intro v565 w166 ho167 hb hg_ hnew_; clear hg_ hnew_; (first | rw [← Ny564.out] at ho167 | (simp only [Int.reduceToNat] at ho167; rw [← Ny564.out] at ho167)); have n0_ := Aside0.mk (Kd.R_lower (Kd.R_newB ho167 (g := gb562) (o := .cells #[.int .i64 a1_0, .int .i64 a1_1] 23 (0, 0)) (bk_ BK562.out)) (below_size (bw_ HB.out))); have n1_ := Aside0.mk (blk_below (bk_ BK561.out) hb); have n2_ := Aside0.mk (blk_below (bk_ BK562.out) hb); have n3_ := Aside0.mk (blk_below (bk_ BK563.out) hb); have n4_ := Aside0.mk (below_step (bw_ HB.out) hb); clear BK561 BK562 BK563 HB; have HO566 := n0_; have BK561 := n1_; have BK562 := n2_; have BK563 := n3_; have HB := n4_; clear n0_ n1_ n2_ n3_ n4_; clear hb ho167; obtain ⟨Ao168, co168, eo168⟩ := Kd.R_slice HO566.out; subst eo168) | ((with_reducible refine gate_callee (f := 21) rfl ?_); refine goesL_ (some 13) rfl rfl Try.func21 (by kernel_rfl) rfl #[.agg #[.int .i64 a0_0, .int .i64 a0_1], .slice Ao168 y564.length co168] rfl (by (try simp only [List.map_toArray, List.map_cons, List.map_nil]); first | done | rfl | (simp only [List.length_drop, List.length_take]; rfl)) ?_; (with_reducible refine (agg_Check.calls a0_0 a0_1 _ _ y564 t567 _ ?side1 ?side2 A4.out).mono ?_); (case side1 => repeat (first | exact (Kd.R_reads' HO566.out).2.2 | (with_reducible refine Kd.C_alloc ?_ _) | (with_reducible refine Kd.C_drewN ?_ _) | (with_reducible refine Kd.C_drew ?_))); (case side2 => exact (Kd.R_reads' HO566.out).2.1); rintro e w169 ⟨rfl, hb⟩; refine ⟨_, rfl, ?_⟩; have n0_ := Aside0.mk (Kd.R_below (by (with_reducible repeat (first | apply Kd.R_alloc | apply Kd.R_drewN | apply Kd.R_drew)); exact HO566.out) hb); have n1_ := Aside0.mk (blk_below (bk_ BK561.out) hb); have n2_ := Aside0.mk (blk_below (bk_ BK562.out) hb); have n3_ := Aside0.mk (blk_below (bk_ BK563.out) hb); have n4_ := Aside0.mk (below_step (bw_ HB.out) hb); clear HO566 BK561 BK562 BK563 HB; have HO566 := n0_; have BK561 := n1_; have BK562 := n2_; have BK563 := n3_; have HB := n4_; clear n0_ n1_ n2_ n3_ n4_; (try clear hb); (try clear hb2); (try clear hk); (try clear hi); have hcz170_0 : w169.cell? ⟨gb562, 0, none⟩ = some (.int .i64 a1_0) := (blk_cell BK562.out 0).trans rfl; have hcz170_1 : w169.cell? ⟨gb562, 1, none⟩ = some (.int .i64 a1_1) := (blk_cell BK562.out 1).trans rfl; have hfz170_0 := blk_frozen BK562.out 0; have hfz170_1 := blk_frozen BK562.out 1; have hcz171_0 : w169.cell? ⟨gb563, 0, none⟩ = some (.int .u64 a2_0) := (blk_cell BK563.out 0).trans rfl; have hcz171_1 : w169.cell? ⟨gb563, 1, none⟩ = some (.int .i64 a2_1) := (blk_cell BK563.out 1).trans rfl; have hcz171_2 : w169.cell? ⟨gb563, 2, none⟩ = some (.slice A2_2 l2_2.length c2_2) := (blk_cell BK563.out 2).trans rfl; have hfz171_0 := blk_frozen BK563.out 0; have hfz171_1 := blk_frozen BK563.out 1; have hfz171_2 := blk_frozen BK563.out 2))
      go_ret
      exact ⟨by first | rfl | (simp [errW_none, errW_some] <;> rfl) | (simp [*, errW_none, errW_some] <;> rfl), by repeat (first | (with_reducible first | exact HB.out | apply below_alloc | apply pw_below_drewN | apply below_drew1 | refine below_set ?_ GE561.out | refine below_set ?_ GE562.out | refine below_set ?_ GE563.out) | exact HB.out)⟩
     ·rw [if_neg c157] at H
      have c157b0 : (a2_0 == 0) = false := beq_eq_false_iff_ne.mpr c157
      have c157b1 : (a2_0 != 0) = true := bne_iff_ne.mpr c157
      obtain rfl := Option.some.inj H
      go_enter Try.func23, Try.ntmps23
      go_wp2_with (first | ((with_reducible refine gate_dst (N := 3) rfl ?_); (try (refine gate_guard (by rfl) ?_; dsimp only)); refine bx_ (N := 3) (cs := #[.int .i64 a0_0, .int .i64 a0_1]) (t := 27) ?_; intro gb561 hg w172 hbox hb; have n0_ := Aside0.mk (below_step (bw_ HB.out) hb); have n1_ := Aside0.mk (hbox); have n2_ := Aside0.mk (sz_ hg (bw_ HB.out)); have n3_ := n2_; clear HB; have HB := n0_; have BK561 := n1_; have GW561 := n2_; have GE561 := n3_; clear n0_ n1_ n2_ n3_; clear hb hbox hg) | ((with_reducible refine gate_dst (N := 4) rfl ?_); (try (refine gate_guard (by rfl) ?_; dsimp only)); refine bx_ (N := 4) (cs := #[.int .i64 a1_0, .int .i64 a1_1]) (t := 23) ?_; intro gb562 hg w173 hbox hb; have n0_ := Aside0.mk (blk_below (bk_ BK561.out) hb); have n1_ := Aside0.mk (below_step (bw_ HB.out) hb); have n2_ := Aside0.mk (hbox); have n3_ := Aside0.mk (sz_ hg (bw_ HB.out)); have n4_ := n3_; have n5_ := Aside0.mk (ne_ hg (blk_lt (bk_ BK561.out))); have n6_ := Aside0.mk n5_.out.symm; clear BK561 HB; have BK561 := n0_; have HB := n1_; have BK562 := n2_; have GW562 := n3_; have GE562 := n4_; have NB561_562 := n5_; have NB562_561 := n6_; clear n0_ n1_ n2_ n3_ n4_ n5_ n6_; clear hb hbox hg) | ((with_reducible refine gate_dst (N := 5) rfl ?_); (try (refine gate_guard (by rfl) ?_; dsimp only)); refine bx_ (N := 5) (cs := #[.int .u64 a2_0, .int .i64 a2_1, .slice A2_2 l2_2.length c2_2]) (t := 33) ?_; intro gb563 hg w174 hbox hb; have n0_ := Aside0.mk (blk_below (bk_ BK561.out) hb); have n1_ := Aside0.mk (blk_below (bk_ BK562.out) hb); have n2_ := Aside0.mk (below_step (bw_ HB.out) hb); have n3_ := Aside0.mk (hbox); have n4_ := Aside0.mk (sz_ hg (bw_ HB.out)); have n5_ := n4_; have n6_ := Aside0.mk (ne_ hg (blk_lt (bk_ BK561.out))); have n7_ := Aside0.mk n6_.out.symm; have n8_ := Aside0.mk (ne_ hg (blk_lt (bk_ BK562.out))); have n9_ := Aside0.mk n8_.out.symm; clear BK561 BK562 HB; have BK561 := n0_; have BK562 := n1_; have HB := n2_; have BK563 := n3_; have GW563 := n4_; have GE563 := n5_; have NB561_563 := n6_; have NB563_561 := n7_; have NB562_563 := n8_; have NB563_562 := n9_; clear n0_ n1_ n2_ n3_ n4_ n5_ n6_ n7_ n8_ n9_; clear hb hbox hg; have hnb175 := NB561_562.out; have hnc175 := NB562_561.out; have hnb176 := NB561_563.out; have hnc176 := NB563_561.out; have hcz177_0 : w174.cell? ⟨gb561, 0, none⟩ = some (.int .i64 a0_0) := (blk_cell BK561.out 0).trans rfl; have hcz177_1 : w174.cell? ⟨gb561, 1, none⟩ = some (.int .i64 a0_1) := (blk_cell BK561.out 1).trans rfl; have hfz177_0 := blk_frozen BK561.out 0; have hfz177_1 := blk_frozen BK561.out 1; have hnb178 := NB562_563.out; have hnc178 := NB563_562.out; have hcz179_0 : w174.cell? ⟨gb562, 0, none⟩ = some (.int .i64 a1_0) := (blk_cell BK562.out 0).trans rfl; have hcz179_1 : w174.cell? ⟨gb562, 1, none⟩ = some (.int .i64 a1_1) := (blk_cell BK562.out 1).trans rfl; have hfz179_0 := blk_frozen BK562.out 0; have hfz179_1 := blk_frozen BK562.out 1) | ((with_reducible refine gate_dst (N := 12) rfl ?_); (try (refine gate_guard (by rfl) ?_; dsimp only)); refine Kd.R_lit k23 _ 23 ?hg (N := 12) ?hd (xs := ([(⟨a1_0, a1_1⟩ : S23)] : List (S23))) (inner := [.int .i64 a1_0, .int .i64 a1_1]) (ok := fun _ => True) (okp := fun _ => True) ?hr ?hp (fun _ hk => hk) trivial (Below.refl _ _) (Nat.le_refl _) (by simp) ?_; (case hd => rfl); (case hg => rfl); (case hr => first | (go_simp; done) | (go_simp; rfl)); (case hp => exact (Reps.c2 (show Kd.M k23 _ _ _ (⟨a1_0, a1_1⟩ : S23) [.int .i64 a1_0, .int .i64 a1_1] from (k23_mkM _ _ _ (⟨a1_0, a1_1⟩ : S23) )) (Reps.none _ _))); intro v565 w180 ho181 hb hg_ hnew_; clear hg_ hnew_; (first | rw [← Ny564.out] at ho181 | (simp only [Int.reduceToNat] at ho181; rw [← Ny564.out] at ho181)); have n0_ := Aside0.mk (Kd.R_lower (Kd.R_newB ho181 (g := gb562) (o := .cells #[.int .i64 a1_0, .int .i64 a1_1] 23 (0, 0)) (bk_ BK562.out)) (below_size (bw_ HB.out))); have n1_ := Aside0.mk (blk_below (bk_ BK561.out) hb); have n2_ := Aside0.mk (blk_below (bk_ BK562.out) hb); have n3_ := Aside0.mk (blk_below (bk_ BK563.out) hb); have n4_ := Aside0.mk (below_step (bw_ HB.out) hb); clear BK561 BK562 BK563 HB; have HO566 := n0_; have BK561 := n1_; have BK562 := n2_; have BK563 := n3_; have HB := n4_; clear n0_ n1_ n2_ n3_ n4_; clear hb ho181; obtain ⟨Ao182, co182, eo182⟩ := Kd.R_slice HO566.out; subst eo182) | ((with_reducible refine gate_callee (f := 21) rfl ?_); refine goesL_ (some 13) rfl rfl Try.func21 (by kernel_rfl) rfl #[.agg #[.int .i64 a0_0, .int .i64 a0_1], .slice Ao182 y564.length co182] rfl (by (try simp only [List.map_toArray, List.map_cons, List.map_nil]); first | done | rfl | (simp only [List.length_drop, List.length_take]; rfl)) ?_; (with_reducible refine (agg_Check.calls a0_0 a0_1 _ _ y564 t567 _ ?side1 ?side2 A4.out).mono ?_); (case side1 => repeat (first | exact (Kd.R_reads' HO566.out).2.2 | (with_reducible refine Kd.C_alloc ?_ _) | (with_reducible refine Kd.C_drewN ?_ _) | (with_reducible refine Kd.C_drew ?_))); (case side2 => exact (Kd.R_reads' HO566.out).2.1); rintro e w183 ⟨rfl, hb⟩; refine ⟨_, rfl, ?_⟩; have n0_ := Aside0.mk (Kd.R_below (by (with_reducible repeat (first | apply Kd.R_alloc | apply Kd.R_drewN | apply Kd.R_drew)); exact HO566.out) hb); have n1_ := Aside0.mk (blk_below (bk_ BK561.out) hb); have n2_ := Aside0.mk (blk_below (bk_ BK562.out) hb); have n3_ := Aside0.mk (blk_below (bk_ BK563.out) hb); have n4_ := Aside0.mk (below_step (bw_ HB.out) hb); clear HO566 BK561 BK562 BK563 HB; have HO566 := n0_; have BK561 := n1_; have BK562 := n2_; have BK563 := n3_; have HB := n4_; clear n0_ n1_ n2_ n3_ n4_; (try clear hb); (try clear hb2); (try clear hk); (try clear hi); have hcz184_0 : w183.cell? ⟨gb562, 0, none⟩ = some (.int .i64 a1_0) := (blk_cell BK562.out 0).trans rfl; have hcz184_1 : w183.cell? ⟨gb562, 1, none⟩ = some (.int .i64 a1_1) := (blk_cell BK562.out 1).trans rfl; have hfz184_0 := blk_frozen BK562.out 0; have hfz184_1 := blk_frozen BK562.out 1; have hcz185_0 : w183.cell? ⟨gb563, 0, none⟩ = some (.int .u64 a2_0) := (blk_cell BK563.out 0).trans rfl; have hcz185_1 : w183.cell? ⟨gb563, 1, none⟩ = some (.int .i64 a2_1) := (blk_cell BK563.out 1).trans rfl; have hcz185_2 : w183.cell? ⟨gb563, 2, none⟩ = some (.slice A2_2 l2_2.length c2_2) := (blk_cell BK563.out 2).trans rfl; have hfz185_0 := blk_frozen BK563.out 0; have hfz185_1 := blk_frozen BK563.out 1; have hfz185_2 := blk_frozen BK563.out 2))
      go_ret
      exact ⟨by first | rfl | (simp [errW_none, errW_some] <;> rfl) | (simp [*, errW_none, errW_some] <;> rfl), by repeat (first | (with_reducible first | exact HB.out | apply below_alloc | apply pw_below_drewN | apply below_drew1 | refine below_set ?_ GE561.out | refine below_set ?_ GE562.out | refine below_set ?_ GE563.out) | exact HB.out)⟩
   ·rw [if_neg c141] at H
    have c141b0 : ((l2_2.length : Int) == 0) = false := beq_eq_false_iff_ne.mpr c141
    have c141b1 : ((l2_2.length : Int) != 0) = true := bne_iff_ne.mpr c141
    have c141b2 : ¬ (l2_2 = []) := fun h_ => c141 (by rw [h_]; rfl)
    obtain rfl := Option.some.inj H
    go_enter Try.func23, Try.ntmps23
    go_wp2_with (first | ((with_reducible refine gate_dst (N := 3) rfl ?_); (try (refine gate_guard (by rfl) ?_; dsimp only)); refine bx_ (N := 3) (cs := #[.int .i64 a0_0, .int .i64 a0_1]) (t := 27) ?_; intro gb561 hg w186 hbox hb; have n0_ := Aside0.mk (below_step (bw_ HB.out) hb); have n1_ := Aside0.mk (hbox); have n2_ := Aside0.mk (sz_ hg (bw_ HB.out)); have n3_ := n2_; clear HB; have HB := n0_; have BK561 := n1_; have GW561 := n2_; have GE561 := n3_; clear n0_ n1_ n2_ n3_; clear hb hbox hg) | ((with_reducible refine gate_dst (N := 4) rfl ?_); (try (refine gate_guard (by rfl) ?_; dsimp only)); refine bx_ (N := 4) (cs := #[.int .i64 a1_0, .int .i64 a1_1]) (t := 23) ?_; intro gb562 hg w187 hbox hb; have n0_ := Aside0.mk (blk_below (bk_ BK561.out) hb); have n1_ := Aside0.mk (below_step (bw_ HB.out) hb); have n2_ := Aside0.mk (hbox); have n3_ := Aside0.mk (sz_ hg (bw_ HB.out)); have n4_ := n3_; have n5_ := Aside0.mk (ne_ hg (blk_lt (bk_ BK561.out))); have n6_ := Aside0.mk n5_.out.symm; clear BK561 HB; have BK561 := n0_; have HB := n1_; have BK562 := n2_; have GW562 := n3_; have GE562 := n4_; have NB561_562 := n5_; have NB562_561 := n6_; clear n0_ n1_ n2_ n3_ n4_ n5_ n6_; clear hb hbox hg) | ((with_reducible refine gate_dst (N := 5) rfl ?_); (try (refine gate_guard (by rfl) ?_; dsimp only)); refine bx_ (N := 5) (cs := #[.int .u64 a2_0, .int .i64 a2_1, .slice A2_2 l2_2.length c2_2]) (t := 33) ?_; intro gb563 hg w188 hbox hb; have n0_ := Aside0.mk (blk_below (bk_ BK561.out) hb); have n1_ := Aside0.mk (blk_below (bk_ BK562.out) hb); have n2_ := Aside0.mk (below_step (bw_ HB.out) hb); have n3_ := Aside0.mk (hbox); have n4_ := Aside0.mk (sz_ hg (bw_ HB.out)); have n5_ := n4_; have n6_ := Aside0.mk (ne_ hg (blk_lt (bk_ BK561.out))); have n7_ := Aside0.mk n6_.out.symm; have n8_ := Aside0.mk (ne_ hg (blk_lt (bk_ BK562.out))); have n9_ := Aside0.mk n8_.out.symm; clear BK561 BK562 HB; have BK561 := n0_; have BK562 := n1_; have HB := n2_; have BK563 := n3_; have GW563 := n4_; have GE563 := n5_; have NB561_563 := n6_; have NB563_561 := n7_; have NB562_563 := n8_; have NB563_562 := n9_; clear n0_ n1_ n2_ n3_ n4_ n5_ n6_ n7_ n8_ n9_; clear hb hbox hg; have hnb189 := NB561_562.out; have hnc189 := NB562_561.out; have hnb190 := NB561_563.out; have hnc190 := NB563_561.out; have hcz191_0 : w188.cell? ⟨gb561, 0, none⟩ = some (.int .i64 a0_0) := (blk_cell BK561.out 0).trans rfl; have hcz191_1 : w188.cell? ⟨gb561, 1, none⟩ = some (.int .i64 a0_1) := (blk_cell BK561.out 1).trans rfl; have hfz191_0 := blk_frozen BK561.out 0; have hfz191_1 := blk_frozen BK561.out 1; have hnb192 := NB562_563.out; have hnc192 := NB563_562.out; have hcz193_0 : w188.cell? ⟨gb562, 0, none⟩ = some (.int .i64 a1_0) := (blk_cell BK562.out 0).trans rfl; have hcz193_1 : w188.cell? ⟨gb562, 1, none⟩ = some (.int .i64 a1_1) := (blk_cell BK562.out 1).trans rfl; have hfz193_0 := blk_frozen BK562.out 0; have hfz193_1 := blk_frozen BK562.out 1) | ((with_reducible refine gate_dst (N := 12) rfl ?_); (try (refine gate_guard (by rfl) ?_; dsimp only)); refine Kd.R_lit k23 _ 23 ?hg (N := 12) ?hd (xs := ([(⟨a1_0, a1_1⟩ : S23)] : List (S23))) (inner := [.int .i64 a1_0, .int .i64 a1_1]) (ok := fun _ => True) (okp := fun _ => True) ?hr ?hp (fun _ hk => hk) trivial (Below.refl _ _) (Nat.le_refl _) (by simp) ?_; (case hd => rfl); (case hg => rfl); (case hr => first | (go_simp; done) | (go_simp; rfl)); (case hp => exact (Reps.c2 (show Kd.M k23 _ _ _ (⟨a1_0, a1_1⟩ : S23) [.int .i64 a1_0, .int .i64 a1_1] from (k23_mkM _ _ _ (⟨a1_0, a1_1⟩ : S23) )) (Reps.none _ _))); intro v565 w194 ho195 hb hg_ hnew_; clear hg_ hnew_; (first | rw [← Ny564.out] at ho195 | (simp only [Int.reduceToNat] at ho195; rw [← Ny564.out] at ho195)); have n0_ := Aside0.mk (Kd.R_lower (Kd.R_newB ho195 (g := gb562) (o := .cells #[.int .i64 a1_0, .int .i64 a1_1] 23 (0, 0)) (bk_ BK562.out)) (below_size (bw_ HB.out))); have n1_ := Aside0.mk (blk_below (bk_ BK561.out) hb); have n2_ := Aside0.mk (blk_below (bk_ BK562.out) hb); have n3_ := Aside0.mk (blk_below (bk_ BK563.out) hb); have n4_ := Aside0.mk (below_step (bw_ HB.out) hb); clear BK561 BK562 BK563 HB; have HO566 := n0_; have BK561 := n1_; have BK562 := n2_; have BK563 := n3_; have HB := n4_; clear n0_ n1_ n2_ n3_ n4_; clear hb ho195; obtain ⟨Ao196, co196, eo196⟩ := Kd.R_slice HO566.out; subst eo196) | ((with_reducible refine gate_callee (f := 21) rfl ?_); refine goesL_ (some 13) rfl rfl Try.func21 (by kernel_rfl) rfl #[.agg #[.int .i64 a0_0, .int .i64 a0_1], .slice Ao196 y564.length co196] rfl (by (try simp only [List.map_toArray, List.map_cons, List.map_nil]); first | done | rfl | (simp only [List.length_drop, List.length_take]; rfl)) ?_; (with_reducible refine (agg_Check.calls a0_0 a0_1 _ _ y564 t567 _ ?side1 ?side2 A4.out).mono ?_); (case side1 => repeat (first | exact (Kd.R_reads' HO566.out).2.2 | (with_reducible refine Kd.C_alloc ?_ _) | (with_reducible refine Kd.C_drewN ?_ _) | (with_reducible refine Kd.C_drew ?_))); (case side2 => exact (Kd.R_reads' HO566.out).2.1); rintro e w197 ⟨rfl, hb⟩; refine ⟨_, rfl, ?_⟩; have n0_ := Aside0.mk (Kd.R_below (by (with_reducible repeat (first | apply Kd.R_alloc | apply Kd.R_drewN | apply Kd.R_drew)); exact HO566.out) hb); have n1_ := Aside0.mk (blk_below (bk_ BK561.out) hb); have n2_ := Aside0.mk (blk_below (bk_ BK562.out) hb); have n3_ := Aside0.mk (blk_below (bk_ BK563.out) hb); have n4_ := Aside0.mk (below_step (bw_ HB.out) hb); clear HO566 BK561 BK562 BK563 HB; have HO566 := n0_; have BK561 := n1_; have BK562 := n2_; have BK563 := n3_; have HB := n4_; clear n0_ n1_ n2_ n3_ n4_; (try clear hb); (try clear hb2); (try clear hk); (try clear hi); have hcz198_0 : w197.cell? ⟨gb562, 0, none⟩ = some (.int .i64 a1_0) := (blk_cell BK562.out 0).trans rfl; have hcz198_1 : w197.cell? ⟨gb562, 1, none⟩ = some (.int .i64 a1_1) := (blk_cell BK562.out 1).trans rfl; have hfz198_0 := blk_frozen BK562.out 0; have hfz198_1 := blk_frozen BK562.out 1; have hcz199_0 : w197.cell? ⟨gb563, 0, none⟩ = some (.int .u64 a2_0) := (blk_cell BK563.out 0).trans rfl; have hcz199_1 : w197.cell? ⟨gb563, 1, none⟩ = some (.int .i64 a2_1) := (blk_cell BK563.out 1).trans rfl; have hcz199_2 : w197.cell? ⟨gb563, 2, none⟩ = some (.slice A2_2 l2_2.length c2_2) := (blk_cell BK563.out 2).trans rfl; have hfz199_0 := blk_frozen BK563.out 0; have hfz199_1 := blk_frozen BK563.out 1; have hfz199_2 := blk_frozen BK563.out 2))
    go_ret
    exact ⟨by first | rfl | (simp [errW_none, errW_some] <;> rfl) | (simp [*, errW_none, errW_some] <;> rfl), by repeat (first | (with_reducible first | exact HB.out | apply below_alloc | apply pw_below_drewN | apply below_drew1 | refine below_set ?_ GE561.out | refine below_set ?_ GE562.out | refine below_set ?_ GE563.out) | exact HB.out)⟩
 ·rw [if_neg c5] at H
  have c5b0 : (t567 == 0) = false := beq_eq_false_iff_ne.mpr c5
  have c5b1 : (t567 != 0) = true := bne_iff_ne.mpr c5
  obtain rfl := Option.some.inj H
  go_enter Try.func23, Try.ntmps23
  go_wp2_with (first | ((with_reducible refine gate_dst (N := 3) rfl ?_); (try (refine gate_guard (by rfl) ?_; dsimp only)); refine bx_ (N := 3) (cs := #[.int .i64 a0_0, .int .i64 a0_1]) (t := 27) ?_; intro gb561 hg w200 hbox hb; have n0_ := Aside0.mk (below_step (bw_ HB.out) hb); have n1_ := Aside0.mk (hbox); have n2_ := Aside0.mk (sz_ hg (bw_ HB.out)); have n3_ := n2_; clear HB; have HB := n0_; have BK561 := n1_; have GW561 := n2_; have GE561 := n3_; clear n0_ n1_ n2_ n3_; clear hb hbox hg) | ((with_reducible refine gate_dst (N := 4) rfl ?_); (try (refine gate_guard (by rfl) ?_; dsimp only)); refine bx_ (N := 4) (cs := #[.int .i64 a1_0, .int .i64 a1_1]) (t := 23) ?_; intro gb562 hg w201 hbox hb; have n0_ := Aside0.mk (blk_below (bk_ BK561.out) hb); have n1_ := Aside0.mk (below_step (bw_ HB.out) hb); have n2_ := Aside0.mk (hbox); have n3_ := Aside0.mk (sz_ hg (bw_ HB.out)); have n4_ := n3_; have n5_ := Aside0.mk (ne_ hg (blk_lt (bk_ BK561.out))); have n6_ := Aside0.mk n5_.out.symm; clear BK561 HB; have BK561 := n0_; have HB := n1_; have BK562 := n2_; have GW562 := n3_; have GE562 := n4_; have NB561_562 := n5_; have NB562_561 := n6_; clear n0_ n1_ n2_ n3_ n4_ n5_ n6_; clear hb hbox hg) | ((with_reducible refine gate_dst (N := 5) rfl ?_); (try (refine gate_guard (by rfl) ?_; dsimp only)); refine bx_ (N := 5) (cs := #[.int .u64 a2_0, .int .i64 a2_1, .slice A2_2 l2_2.length c2_2]) (t := 33) ?_; intro gb563 hg w202 hbox hb; have n0_ := Aside0.mk (blk_below (bk_ BK561.out) hb); have n1_ := Aside0.mk (blk_below (bk_ BK562.out) hb); have n2_ := Aside0.mk (below_step (bw_ HB.out) hb); have n3_ := Aside0.mk (hbox); have n4_ := Aside0.mk (sz_ hg (bw_ HB.out)); have n5_ := n4_; have n6_ := Aside0.mk (ne_ hg (blk_lt (bk_ BK561.out))); have n7_ := Aside0.mk n6_.out.symm; have n8_ := Aside0.mk (ne_ hg (blk_lt (bk_ BK562.out))); have n9_ := Aside0.mk n8_.out.symm; clear BK561 BK562 HB; have BK561 := n0_; have BK562 := n1_; have HB := n2_; have BK563 := n3_; have GW563 := n4_; have GE563 := n5_; have NB561_563 := n6_; have NB563_561 := n7_; have NB562_563 := n8_; have NB563_562 := n9_; clear n0_ n1_ n2_ n3_ n4_ n5_ n6_ n7_ n8_ n9_; clear hb hbox hg; have hnb203 := NB561_562.out; have hnc203 := NB562_561.out; have hnb204 := NB561_563.out; have hnc204 := NB563_561.out; have hcz205_0 : w202.cell? ⟨gb561, 0, none⟩ = some (.int .i64 a0_0) := (blk_cell BK561.out 0).trans rfl; have hcz205_1 : w202.cell? ⟨gb561, 1, none⟩ = some (.int .i64 a0_1) := (blk_cell BK561.out 1).trans rfl; have hfz205_0 := blk_frozen BK561.out 0; have hfz205_1 := blk_frozen BK561.out 1; have hnb206 := NB562_563.out; have hnc206 := NB563_562.out; have hcz207_0 : w202.cell? ⟨gb562, 0, none⟩ = some (.int .i64 a1_0) := (blk_cell BK562.out 0).trans rfl; have hcz207_1 : w202.cell? ⟨gb562, 1, none⟩ = some (.int .i64 a1_1) := (blk_cell BK562.out 1).trans rfl; have hfz207_0 := blk_frozen BK562.out 0; have hfz207_1 := blk_frozen BK562.out 1) | ((with_reducible refine gate_dst (N := 12) rfl ?_); (try (refine gate_guard (by rfl) ?_; dsimp only)); refine Kd.R_lit k23 _ 23 ?hg (N := 12) ?hd (xs := ([(⟨a1_0, a1_1⟩ : S23)] : List (S23))) (inner := [.int .i64 a1_0, .int .i64 a1_1]) (ok := fun _ => True) (okp := fun _ => True) ?hr ?hp (fun _ hk => hk) trivial (Below.refl _ _) (Nat.le_refl _) (by simp) ?_; (case hd => rfl); (case hg => rfl); (case hr => first | (go_simp; done) | (go_simp; rfl)); (case hp => exact (Reps.c2 (show Kd.M k23 _ _ _ (⟨a1_0, a1_1⟩ : S23) [.int .i64 a1_0, .int .i64 a1_1] from (k23_mkM _ _ _ (⟨a1_0, a1_1⟩ : S23) )) (Reps.none _ _))); intro v565 w208 ho209 hb hg_ hnew_; clear hg_ hnew_; (first | rw [← Ny564.out] at ho209 | (simp only [Int.reduceToNat] at ho209; rw [← Ny564.out] at ho209)); have n0_ := Aside0.mk (Kd.R_lower (Kd.R_newB ho209 (g := gb562) (o := .cells #[.int .i64 a1_0, .int .i64 a1_1] 23 (0, 0)) (bk_ BK562.out)) (below_size (bw_ HB.out))); have n1_ := Aside0.mk (blk_below (bk_ BK561.out) hb); have n2_ := Aside0.mk (blk_below (bk_ BK562.out) hb); have n3_ := Aside0.mk (blk_below (bk_ BK563.out) hb); have n4_ := Aside0.mk (below_step (bw_ HB.out) hb); clear BK561 BK562 BK563 HB; have HO566 := n0_; have BK561 := n1_; have BK562 := n2_; have BK563 := n3_; have HB := n4_; clear n0_ n1_ n2_ n3_ n4_; clear hb ho209; obtain ⟨Ao210, co210, eo210⟩ := Kd.R_slice HO566.out; subst eo210) | ((with_reducible refine gate_callee (f := 21) rfl ?_); refine goesL_ (some 13) rfl rfl Try.func21 (by kernel_rfl) rfl #[.agg #[.int .i64 a0_0, .int .i64 a0_1], .slice Ao210 y564.length co210] rfl (by (try simp only [List.map_toArray, List.map_cons, List.map_nil]); first | done | rfl | (simp only [List.length_drop, List.length_take]; rfl)) ?_; (with_reducible refine (agg_Check.calls a0_0 a0_1 _ _ y564 t567 _ ?side1 ?side2 A4.out).mono ?_); (case side1 => repeat (first | exact (Kd.R_reads' HO566.out).2.2 | (with_reducible refine Kd.C_alloc ?_ _) | (with_reducible refine Kd.C_drewN ?_ _) | (with_reducible refine Kd.C_drew ?_))); (case side2 => exact (Kd.R_reads' HO566.out).2.1); rintro e w211 ⟨rfl, hb⟩; refine ⟨_, rfl, ?_⟩; have n0_ := Aside0.mk (Kd.R_below (by (with_reducible repeat (first | apply Kd.R_alloc | apply Kd.R_drewN | apply Kd.R_drew)); exact HO566.out) hb); have n1_ := Aside0.mk (blk_below (bk_ BK561.out) hb); have n2_ := Aside0.mk (blk_below (bk_ BK562.out) hb); have n3_ := Aside0.mk (blk_below (bk_ BK563.out) hb); have n4_ := Aside0.mk (below_step (bw_ HB.out) hb); clear HO566 BK561 BK562 BK563 HB; have HO566 := n0_; have BK561 := n1_; have BK562 := n2_; have BK563 := n3_; have HB := n4_; clear n0_ n1_ n2_ n3_ n4_; (try clear hb); (try clear hb2); (try clear hk); (try clear hi)))
  go_ret
  exact ⟨by first | rfl | (simp [errW_none, errW_some] <;> rfl) | (simp [*, errW_none, errW_some] <;> rfl), by repeat (first | (with_reducible first | exact HB.out | apply below_alloc | apply pw_below_drewN | apply below_drew1 | refine below_set ?_ GE561.out | refine below_set ?_ GE562.out | refine below_set ?_ GE563.out) | exact HB.out)⟩
end Go.Proofs.Ytmjhgeinhhhodaa.P
end

section
namespace Go.Proofs.Ytmjhgeinhhhodaa.Txt
set_option linter.unusedVariables false
theorem rises_same : ∀ {l m : List T}, l.Pairwise (· < ·) → m.Pairwise (· < ·) → (∀ y, y ∈ l ↔ y ∈ m) → l = m
  | [], [], _, _, _ => rfl
  | [], y :: m, _, _, h => absurd ((h y).2 (by simp)) (by simp)
  | x :: l, [], _, _, h => absurd ((h x).1 (by simp)) (by simp)
  | x :: l, y :: m, h1, h2, h => by
    rw [List.pairwise_cons] at h1 h2
    have e : x = y := by
      have a := (h x).1 (by simp)
      have b := (h y).2 (by simp)
      rw [List.mem_cons] at a b
      rcases a with a | a
      · exact a
      · rcases b with b | b
        · exact b.symm
        · exact absurd (lt_trans (h1.1 y b) (h2.1 x a)) (lt_irrefl x)
    subst e
    congr 1
    refine rises_same h1.2 h2.2 (fun z => ?_)
    constructor
    · intro hz
      have := (h z).1 (by simp [hz])
      rw [List.mem_cons] at this
      rcases this with rfl | h3
      · exact absurd (h1.1 z hz) (lt_irrefl z)
      · exact h3
    · intro hz
      have := (h z).2 (by simp [hz])
      rw [List.mem_cons] at this
      rcases this with rfl | h3
      · exact absurd (h2.1 z hz) (lt_irrefl z)
      · exact h3
end Go.Proofs.Ytmjhgeinhhhodaa.Txt
end

section
namespace Go.Proofs.Ytmjhgeinhhhodaa.P
set_option linter.unusedVariables false
set_option linter.unusedSimpArgs false
open Go.RowKit Go.Proofs.YtmjhgeinhhhodaaW.PrintWords Go.Proofs.YtmjhgeinhhhodaaW.PrintLast Go.Proofs.YtmjhgeinhhhodaaW.PrintMore Go.Proofs.Ytmjhgeinhhhodaa.Lib
open Go.Proofs.Ytmjhgeinhhhodaa
theorem below_of_grown {W w1 : World} (hg : W.grownBy w1 none) : Below W.heap.size W w1 := ⟨hg.os, hg.tape, hg.output, hg.size, fun i hi => hg.block i hi (by simp)⟩
section
variable {P : Program} {ops : Array Oper} {o : Oper} {a : Act} {Q : Exit → Act → World → Prop} {Kc : Act → World → Prop} {α : Type}
theorem lit1_step (d : Kd α) (e : Nat) {W : World} (hw : Region.wanted o (yielded ops a.tmps) = true) {N : Tmp} (hd : o.dst = some N) {x : α} {v : Value} (hrun : (execOp a.eval o).run P W = .ok (.value (.slice (some ⟨W.heap.size, 0, none⟩) 1 1)) (W.alloc (.cells [v].toArray e)))
    (hrep : Reps (d.M W W.heap.size (fun _ => True)) d.sz [x] [v])
    (h : ∀ A c w1, Kd.C d w1 A 1 [x] → 1 ≤ c → Below W.heap.size W w1 → Kc (a.put o.dst (.slice A 1 c)) w1) : if Region.wanted o (yielded ops a.tmps) = true then Oper.wp P o a W Kc Q else Kc (a.put o.dst undef) W := by
  refine Kd.R_lit_step d (w0 := W) W.heap.size e hw hd (xs := [x]) (inner := [v]) (ok := fun _ => True) (okp := fun _ => True) hrun hrep (fun _ hk => hk) trivial (Below.refl _ _) (Nat.le_refl _) (by simp) ?_
  intro v1 w1 ho hb hg ha
  obtain ⟨A, c, rfl, hc, hC⟩ := Kd.R_reads ho
  exact h A c w1 hC hc (below_of_grown hg)
theorem lit1_event {rest : List Oper} (d : Kd α) (e : Nat) {W : World} (hgd : o.guard = none) {N : Tmp} (hd : o.dst = some N) {x : α} {v : Value} (hrun : (execOp a.eval o).run P W = .ok (.value (.slice (some ⟨W.heap.size, 0, none⟩) 1 1)) (W.alloc (.cells [v].toArray e)))
    (hrep : Reps (d.M W W.heap.size (fun _ => True)) d.sz [x] [v])
    (h : ∀ A c w1, Kd.C d w1 A 1 [x] → 1 ≤ c → Below W.heap.size W w1 → wpList P ops Q rest (a.put o.dst (.slice A 1 c)) w1) : wpList P ops Q (o :: rest) a W := by
  refine Kd.R_lit d (w0 := W) W.heap.size e hgd hd (xs := [x]) (inner := [v]) (ok := fun _ => True) (okp := fun _ => True) hrun hrep (fun _ hk => hk) trivial (Below.refl _ _) (Nat.le_refl _) (by simp) ?_
  intro v1 w1 ho hb hg ha
  obtain ⟨A, c, rfl, hc, hC⟩ := Kd.R_reads ho
  exact h A c w1 hC hc (below_of_grown hg)
end
theorem built_of_rises {l : List Txt.T} (h : l.Pairwise (· < ·)) : Txt.built l = l := Txt.rises_same (Txt.built_rises l) h (fun y => Txt.built_mem l y)
theorem builtB_nil : builtB [] = [] := by unfold builtB txts strs; rw [List.map_nil, built_of_rises List.Pairwise.nil]; rfl
theorem builtB_one (s : ByteArray) : builtB [s] = [s] := by
  unfold builtB
  rw [built_of_rises (by unfold txts; exact List.pairwise_singleton _ _)]
  exact strs_txts [s]
def strA : ByteArray := ⟨#[97]⟩
def strB : ByteArray := ⟨#[98]⟩
theorem builtB_ba : builtB [strB, strA] = [strA, strB] := by
  unfold builtB
  have h : Txt.built (txts [strB, strA]) = txts [strA, strB] := Txt.rises_same (Txt.built_rises _) (by unfold txts; simp only [List.map_cons, List.map_nil, List.pairwise_cons, List.mem_singleton, List.not_mem_nil, false_implies, implies_true, List.Pairwise.nil, and_true, forall_eq]; decide) (fun y => by
    rw [Txt.built_mem]
    unfold txts
    simp only [List.map_cons, List.map_nil, List.mem_cons, List.not_mem_nil, or_false]
    exact Or.comm)
  rw [h, strs_txts]
theorem w_u (n : Nat) (h : n < 1000) : IntKind.u64.wrap (n : Int) = n := wraps_u64 _ (by omega) (by omega)
theorem w_i (n : Int) (h0 : -1000 < n) (h : n < 1000) : wrap64 n = n := by unfold wrap64; omega
theorem many1 : manyV 2 3 2 = 6 := by
  unfold manyV
  have a : IntKind.u64.wrap 3 = 3 := w_u 3 (by decide)
  have b : IntKind.u64.wrap (3 * 2) = 6 := w_u 6 (by decide)
  rw [if_pos rfl, a, b, w_i _ (by decide) (by decide)]
theorem many2 : manyV 2 (-1) 1 = -1 := by
  unfold manyV
  rw [if_pos rfl]
  simp only [Int.mul_one]
  have h : IntKind.u64.wrap (-1) = 18446744073709551615 := by simp [IntKind.wrap, IntKind.bits, IntKind.signed]
  rw [h, wraps_u64 _ (by decide) (by decide)]
  unfold wrap64
  omega
theorem lt_lim (n : Nat) (h : n < 10) : n < 8796093022208 := by omega
theorem aw1 : agg_Add.f 2 0 0 0 [] 0 [] [3] 2 = some (2, 6, []) := by
  unfold agg_Add.f agg_Merge.f mfin
  rw [show rd [3] 0 = 3 from rfl, many1]
  rw [if_neg (by decide), if_neg (by decide), if_neg (by decide), if_neg (by decide), if_pos (by decide), if_neg (by decide), if_pos rfl, if_neg (by decide), if_pos (lt_lim _ (by decide)), builtB_nil]
theorem aw2 : agg_Add.f 2 0 2 6 [] 0 [] [-1] 1 = some (3, 5, []) := by
  unfold agg_Add.f agg_Merge.f mfin
  rw [show rd [-1] 0 = -1 from rfl, many2]
  rw [if_neg (by decide), if_neg (by decide), if_neg (by decide), if_neg (by decide), if_pos (by decide), if_neg (by decide), if_neg (by decide), if_neg (by decide), if_pos (lt_lim _ (by decide))]
  rw [List.append_nil, builtB_nil, show (2 : Int) + 1 = ((3 : Nat) : Int) from rfl, w_u 3 (by decide)]
  unfold mergeV
  rw [if_pos rfl, w_i _ (by decide) (by decide)]
  rfl
theorem aw3 : agg_Add.f 5 0 0 0 [] 0 [strB] [] 1 = some (1, 0, [strB]) := by
  unfold agg_Add.f agg_Merge.f mfin
  rw [show ([strB] : List ByteArray).getD (0 : Int).toNat ⟨#[]⟩ = strB from rfl]
  rw [if_neg (by decide), if_neg (by decide), if_neg (by decide), if_pos rfl, if_pos (by decide), if_neg (by decide), if_pos rfl, if_neg (by decide), if_pos (lt_lim _ (by decide)), builtB_one]
theorem aw4 : agg_Add.f 5 0 0 0 [] 0 [strA] [] 1 = some (1, 0, [strA]) := by
  unfold agg_Add.f agg_Merge.f mfin
  rw [show ([strA] : List ByteArray).getD (0 : Int).toNat ⟨#[]⟩ = strA from rfl]
  rw [if_neg (by decide), if_neg (by decide), if_neg (by decide), if_pos rfl, if_pos (by decide), if_neg (by decide), if_pos rfl, if_neg (by decide), if_pos (lt_lim _ (by decide)), builtB_one]
theorem aw5 : agg_Merge.f 5 0 1 0 [strB] 1 0 [strA] = some (2, 0, [strA, strB]) := by
  unfold agg_Merge.f mfin
  rw [if_neg (by decide), if_neg (by decide), if_neg (by decide), show [strB] ++ [strA] = [strB, strA] from rfl, if_pos (lt_lim _ (by decide)), builtB_ba, show (1 : Int) + 1 = ((2 : Nat) : Int) from rfl, w_u 2 (by decide)]
  rfl
theorem cells_below {w w' : World} {g : Nat} {cs : Array Value} {t : TypeId} (h : w.heap[g]? = some (.cells cs t (0, 0))) (hb : Below w.heap.size w w') : w'.heap[g]? = some (.cells cs t (0, 0)) := blk_below h hb
abbrev Part (w : World) (r1 r2 : Int) (r3 : List ByteArray) (e : Ending) (w' : World) : Prop := ∃ v2_ : Value, e = .returned (.agg #[.int .u64 r1, .int .i64 r2, v2_]) ∧ Kd.R Kd.string 9 w' w.heap.size (fun _ => True) v2_ r3 ∧ Below w.heap.size w w'
theorem addNum (n1 v1 x n r1 r2 : Int) (r3 : List ByteArray) (A1 A9 : Option Addr) (c1 c9 : Nat) (w : World) (hC : Kd.C (Kd.int .i64) w A9 1 [x]) (hc : 1 ≤ c9) (h : agg_Add.f 2 0 n1 v1 [] 0 [] [x] n = some (r1, r2, r3)) :
    Calls Try.prog 19 #[.agg #[.int .i64 2, .int .i64 0], .agg #[.int .u64 n1, .int .i64 v1, .slice A1 0 c1], .agg #[.int .i64 0, .slice none 0 0, .slice A9 1 c9], .int .u64 n] w (Part w r1 r2 r3) :=
  agg_Add.calls 2 0 n1 v1 A1 c1 [] 0 none 0 [] A9 c9 [x] n r1 r2 r3 w (C_none _ _) (Nat.zero_le _) (C_none _ _) (Nat.zero_le _) hC hc h
theorem addText (s : ByteArray) (n r1 r2 : Int) (r3 : List ByteArray) (A1 A9 : Option Addr) (c1 c9 : Nat) (w : World) (hC : Kd.C Kd.string w A9 1 [s]) (hc : 1 ≤ c9) (h : agg_Add.f 5 0 0 0 [] 0 [s] [] n = some (r1, r2, r3)) :
    Calls Try.prog 19 #[.agg #[.int .i64 5, .int .i64 0], .agg #[.int .u64 0, .int .i64 0, .slice A1 0 c1], .agg #[.int .i64 0, .slice A9 1 c9, .slice none 0 0], .int .u64 n] w (Part w r1 r2 r3) :=
  agg_Add.calls 5 0 0 0 A1 c1 [] 0 A9 c9 [s] none 0 [] n r1 r2 r3 w (C_none _ _) (Nat.zero_le _) hC hc ⟨rfl, by simp, fun h => absurd h (by simp)⟩ (Nat.zero_le _) h
theorem start0 (k j : Int) (w : World) : Calls Try.prog 18 #[.agg #[.int .i64 k, .int .i64 j]] w fun e w' => ∃ A c, e = .returned (.agg #[.int .u64 0, .int .i64 0, .slice A 0 c]) ∧ Below w.heap.size w w' :=
  (agg_Start.calls k j 0 0 [] w rfl).mono fun e w' ⟨v, he, ho, hb⟩ => by
    obtain ⟨A, c, rfl, -, -⟩ := Kd.R_reads ho
    exact ⟨A, c, he, hb⟩
theorem reads1 {w : World} {base : Nat} {v : Value} {x : ByteArray} (h : Kd.R Kd.string 9 w base (fun _ => True) v [x]) : ∃ A c, v = .slice A 1 c ∧ 1 ≤ c ∧ Kd.C Kd.string w A 1 [x] := Kd.R_reads h
theorem reads0 {w : World} {base : Nat} {v : Value} (h : Kd.R Kd.string 9 w base (fun _ => True) v []) : ∃ A c, v = .slice A 0 c := by
  obtain ⟨A, c, e, -⟩ := Kd.R_reads h
  exact ⟨A, c, e⟩
theorem reads1' {w : World} {base : Nat} {A : Option Addr} {c : Nat} {x : ByteArray} (h : Kd.R Kd.string 9 w base (fun _ => True) (.slice A 1 c) [x]) : True ∧ Kd.C Kd.string w A 1 [x] := ⟨trivial, (Kd.R_reads' h).2.2⟩
theorem reads2 {w : World} {base : Nat} {v : Value} {x y : ByteArray} (h : Kd.R Kd.string 9 w base (fun _ => True) v [x, y]) : ∃ A c, v = .slice A 2 c ∧ 2 ≤ c ∧ Kd.C Kd.string w A 2 [x, y] := Kd.R_reads h
theorem mergeTexts (s u : ByteArray) (r1 r2 : Int) (r3 : List ByteArray) (A1 A9 : Option Addr) (c1 c9 : Nat) (w : World) (h1 : Kd.C Kd.string w A1 1 [s]) (hc1 : 1 ≤ c1) (hC : Kd.C Kd.string w A9 1 [u]) (hc : 1 ≤ c9) (h : agg_Merge.f 5 0 1 0 [s] 1 0 [u] = some (r1, r2, r3)) :
    Calls Try.prog 17 #[.agg #[.int .i64 5, .int .i64 0], .agg #[.int .u64 1, .int .i64 0, .slice A1 1 c1], .agg #[.int .u64 1, .int .i64 0, .slice A9 1 c9]] w (Part w r1 r2 r3) :=
  agg_Merge.calls 5 0 1 0 A1 c1 [s] 1 0 A9 c9 [u] r1 r2 r3 w h1 hc1 hC hc h
theorem val1 : agg_Value.f 2 0 3 5 [] = some 5 := by unfold agg_Value.f; rw [if_neg (by decide), if_pos (by decide)]
theorem val2 : agg_Value.f 5 0 2 0 [strA, strB] = some 2 := by unfold agg_Value.f; rw [if_neg (by decide), if_neg (by decide), if_pos rfl]; rfl
theorem chk : agg_Check.f 0 0 [⟨2, 0⟩] = some 1 := by
  unfold agg_Check.f anyWrong wrongB
  rw [if_neg (by decide)]
  simp
theorem C_agg1 {w : World} {g : Nat} {a b : Int} {E : Nat} (hb : w.heap[g]? = some (.cells #[.int .i64 a, .int .i64 b] E (0, 0))) : Kd.C k23 w (some ⟨g, 0, none⟩) 1 [⟨a, b⟩] := by
  refine ⟨rfl, by simp, fun _ => ⟨_, rfl, fun q p hp => ?_⟩⟩
  match q, hp with
  | 0, hp =>
    obtain rfl : (⟨a, b⟩ : S23) = p := by simpa using hp
    refine ⟨[.int .i64 a, .int .i64 b], rfl, k23_mk w ⟨a, b⟩, fun i u hu => ?_⟩
    match i, hu with
    | 0, hu =>
      obtain rfl : Value.int .i64 a = u := by simpa using hu
      exact (blk_cell hb 0).trans rfl
    | 1, hu =>
      obtain rfl : Value.int .i64 b = u := by simpa using hu
      exact (blk_cell hb 1).trans rfl
    | i + 2, hu => simp at hu
  | q + 1, hp => simp at hp
theorem check1 (a b c d r : Int) (A : Option Addr) (w : World) (hC : Kd.C k23 w A 1 [⟨c, d⟩]) (h : agg_Check.f a b [⟨c, d⟩] = some r) : Calls Try.prog 21 #[.agg #[.int .i64 a, .int .i64 b], .slice A 1 1] w fun e w' => e = .returned (.int .i64 r) ∧ Below w.heap.size w w' := agg_Check.calls a b A 1 [⟨c, d⟩] r w hC (Nat.le_refl _) h
theorem value0 (k n v r : Int) (A : Option Addr) (c : Nat) (w : World) (h : agg_Value.f k 0 n v [] = some r) : Calls Try.prog 15 #[.agg #[.int .i64 k, .int .i64 0], .agg #[.int .u64 n, .int .i64 v, .slice A 0 c]] w fun e w' => e = .returned (.int .i64 r) ∧ Below w.heap.size w w' := agg_Value.calls k 0 n v A c [] r w (C_none _ _) (Nat.zero_le _) h
theorem value2 (k n v r : Int) (s u : ByteArray) (A : Option Addr) (c : Nat) (w : World) (hC : Kd.C Kd.string w A 2 [s, u]) (hc : 2 ≤ c) (h : agg_Value.f k 0 n v [s, u] = some r) : Calls Try.prog 15 #[.agg #[.int .i64 k, .int .i64 0], .agg #[.int .u64 n, .int .i64 v, .slice A 2 c]] w fun e w' => e = .returned (.int .i64 r) ∧ Below w.heap.size w w' := agg_Value.calls k 0 n v A c [s, u] r w hC hc h
set_option maxRecDepth 100000 in
set_option maxHeartbeats 3200000 in
theorem gristmilllaw06_awake.calls0 (w : World) : Calls Try.prog 10 #[] w fun e w' => e = .returned (.bool true) ∧ Below w.heap.size w w' := by
  go_enter Try.func10, Try.ntmps10
  go_upto_region 2 with (first
    | (((with_reducible refine gate_dst (N := 1) rfl ?_); refine box_event ?hg (N := 1) ?hd (cs := #[.int .i64 0, .int .i64 0]) (t := 23) ?hr ?_; (case hd => rfl); (case hg => rfl); (case hr => first | (go_simp; done) | (go_simp; rfl)); intro g1 hg w1 hbox hb; have GE1 := Aside0.mk (Nat.le_of_eq hg.symm); have BK1 := Aside0.mk hbox; have HX1 := Aside0.mk hb; clear hg hbox hb); (have hg1_0 : w1.cell? ⟨g1, 0, none⟩ = some (.int .i64 0) := (blk_cell BK1.out 0).trans rfl; have hfg1_0 := blk_frozen BK1.out 0; have hg1_1 : w1.cell? ⟨g1, 1, none⟩ = some (.int .i64 0) := (blk_cell BK1.out 1).trans rfl; have hfg1_1 := blk_frozen BK1.out 1))
    | fail)
  have BK1a := Aside0.mk (show ((w1.setCell ⟨g1, 0, none⟩ (.int .i64 2)).setCell ⟨g1, 1, none⟩ (.int .i64 0)).heap[g1]? = some (.cells #[.int .i64 2, .int .i64 0] 23 (0, 0)) from (blk_set (blk_set BK1.out 0 _) 1 _))
  have HB1 := Aside0.mk (show Below w.heap.size w ((w1.setCell ⟨g1, 0, none⟩ (.int .i64 2)).setCell ⟨g1, 1, none⟩ (.int .i64 0)) from below_set (below_set HX1.out GE1.out) GE1.out)
  clear hg1_0 hfg1_0 hg1_1 hfg1_1
  generalize (w1.setCell ⟨g1, 0, none⟩ (.int .i64 2)).setCell ⟨g1, 1, none⟩ (.int .i64 0) = wa at *
  have HB := Aside0.mk (below_drew HB1.out)
  have c0 : wa.cell? ⟨g1, 0, none⟩ = some (.int .i64 2) := (blk_cell BK1a.out 0).trans rfl
  have c1 : wa.cell? ⟨g1, 1, none⟩ = some (.int .i64 0) := (blk_cell BK1a.out 1).trans rfl
  have BK := Aside0.mk (blk_drew BK1a.out)
  go_cut [1, 2] (fun s1 s2 wx => ∃ (g2 : Nat) (A2 : Option Addr) (c2 : Nat), s1 = .pointer (some ⟨g1, 0, none⟩) ∧ s2 = .pointer (some ⟨g2, 0, none⟩) ∧ Aside0 (wx.heap[g1]? = some (.cells #[.int .i64 2, .int .i64 0] 23 (0, 0))) ∧ Aside0 (wx.heap[g2]? = some (.cells #[.int .u64 2, .int .i64 6, .slice A2 0 c2] 33 (0, 0))) ∧ Aside0 (w.heap.size ≤ g2) ∧ Aside0 (Below w.heap.size w wx))
  case first =>
    have HL := Aside0.mk trivial
    refine start_ (n := 8) (S := fun w' => w'.cell? ⟨g1, 0, none⟩ = some (.int .i64 2) ∧ w'.cell? ⟨g1, 1, none⟩ = some (.int .i64 0)) (ds := [7]) #[false, false, false, false, false, false, false, false] (by kernel_rfl) rfl rfl ⟨c0, c1⟩ (fun hHeld => ?_)
    refine take_ (i := 0) (N := some 6) (v := ?_) (a' := ?_) #[true, false, false, false, false, false, false, false] rfl rfl (by kernel_rfl) (fun _ _ _ h => h) (Or.inl ⟨by rfl, ?_⟩) hHeld ?_ ?_
    rotate_left
    · rintro w' ⟨s0, s1⟩
      go_simp
      with_reducible rfl
    rotate_left
    · simp only [Act.put, List.setIfInBounds_toArray, List.set_cons_zero, List.set_cons_succ, i64_w, i32_w]
      rfl
    refine take_ (i := 1) (N := some 7) (v := ?_) (a' := ?_) #[true, true, false, false, false, false, false, false] rfl rfl (by kernel_rfl) (fun _ _ _ h => h) (Or.inl ⟨by rfl, ?_⟩) hHeld ?_ ?_
    rotate_left
    · rintro w' ⟨s0, s1⟩
      go_simp
      with_reducible rfl
    rotate_left
    · simp only [Act.put, List.setIfInBounds_toArray, List.set_cons_zero, List.set_cons_succ, i64_w, i32_w]
      rfl
    refine three_ (i := 2) (j := 3) (k := 6) (Ni := some 8) (Nj := some 9) (Nk := some 2) #[true, true, true, false, false, false, false, false] #[true, true, false, true, false, false, false, false] #[true, true, false, false, false, false, true, false] rfl rfl rfl rfl rfl rfl (by kernel_rfl) (by decide) (by decide) (by decide) (fun K hK => ?_) (fun K hK => ?_) (fun K hK => ?_)
    · skip
      refine goes_ Try.func18 (by kernel_rfl) rfl #[.agg #[.int .i64 2, .int .i64 0]] (by rfl) rfl rfl (by simp only [List.map_toArray, List.map_cons, List.map_nil]; rfl) ?_
      with_reducible refine (start0 2 0 _).mono ?_
      rintro e w3 ⟨A3, c3, rfl, hb3⟩
      refine ⟨_, rfl, ?_⟩
      replace HB := Aside0.mk (below_then HB.out HB.out.size hb3)
      replace BK := Aside0.mk (cells_below BK.out hb3)
      try replace HL := Aside0.mk (Kd.C_below HL.out hb3)
      try replace hbox := Aside0.mk (cells_below hbox.out hb3)
      refine hK.out _ _ ⟨(pw_cell_below hb3 hHeld.1), (pw_cell_below hb3 hHeld.2)⟩ (fun hHeld => ?_)
      clear hK K
      refine norm_ (a' := ?_) ?_ ?_
      rotate_left
      · show Act.put _ (some 8) _ = _
        simp only [Act.put, List.setIfInBounds_toArray, List.set_cons_zero, List.set_cons_succ, i64_w, i32_w]
        rfl
      refine two_ (i := 3) (j := 6) (Ni := some 9) (Nj := some 2) #[true, true, true, true, false, false, false, false] #[true, true, true, false, false, false, true, false] rfl rfl rfl rfl (by kernel_rfl) (by decide) (by decide) (fun K hK => ?_) (fun K hK => ?_)
      · skip
        refine lit1_step (Kd.int .i64) 2 (by rfl) (N := 9) (by rfl) (x := 3) (v := .int .i64 3) ?hr (Reps.one (show Kd.M (Kd.int .i64) _ _ _ 3 [.int .i64 3] from rfl) (Reps.none _ _)) ?_
        case hr => first | (go_simp; done) | (go_simp; rfl)
        intro A9 c9 w9 hC9 hc9 hb9
        replace HB := Aside0.mk (below_then HB.out HB.out.size hb9)
        replace BK := Aside0.mk (cells_below BK.out hb9)
        replace HL := Aside0.mk hC9
        try replace hbox := Aside0.mk (cells_below hbox.out hb9)
        have HLc := Aside0.mk hc9
        clear hC9 hc9
        refine hK.out _ _ ⟨(pw_cell_below hb9 hHeld.1), (pw_cell_below hb9 hHeld.2)⟩ (fun hHeld => ?_)
        clear hK K
        refine norm_ (a' := ?_) ?_ ?_
        rotate_left
        · show Act.put _ (some 9) _ = _
          simp only [Act.put, List.setIfInBounds_toArray, List.set_cons_zero, List.set_cons_succ, i64_w, i32_w]
          rfl
        refine pure_ (i := 4) (N := some 10) (v := ?_) (a' := ?_) #[true, true, true, true, true, false, false, false] rfl rfl (by kernel_rfl) (fun _ _ _ h => h) (Or.inl ⟨by rfl, ?_⟩) ?_ ?_
        rotate_left
        · intro w'
          go_simp
          with_reducible rfl
        rotate_left
        · simp only [Act.put, List.setIfInBounds_toArray, List.set_cons_zero, List.set_cons_succ, i64_w, i32_w]
          rfl
        refine two_ (i := 5) (j := 6) (Ni := some 11) (Nj := some 2) #[true, true, true, true, true, true, false, false] #[true, true, true, true, true, false, true, false] rfl rfl rfl rfl (by kernel_rfl) (by decide) (by decide) (fun K hK => ?_) (fun K hK => ?_)
        · skip
          refine goes_ Try.func19 (by kernel_rfl) rfl #[.agg #[.int .i64 2, .int .i64 0], .agg #[.int .u64 0, .int .i64 0, .slice A3 0 c3], .agg #[.int .i64 0, .slice none 0 0, .slice A9 1 c9], .int .u64 2] (by rfl) rfl rfl (by simp only [List.map_toArray, List.map_cons, List.map_nil]; rfl) ?_
          with_reducible refine (addNum 0 0 3 2 2 6 [] A3 A9 c3 c9 _ HL.out HLc.out aw1).mono ?_
          rintro e w5 ⟨v5, rfl, ho5, hb5⟩
          refine ⟨_, rfl, ?_⟩
          obtain ⟨A5, c5, rfl⟩ := reads0 ho5
          replace HB := Aside0.mk (below_then HB.out HB.out.size hb5)
          replace BK := Aside0.mk (cells_below BK.out hb5)
          try replace hbox := Aside0.mk (cells_below hbox.out hb5)
          clear ho5
          refine hK.out _ _ ⟨(pw_cell_below hb5 hHeld.1), (pw_cell_below hb5 hHeld.2)⟩ (fun hHeld => ?_)
          clear hK K
          refine norm_ (a' := ?_) ?_ ?_
          rotate_left
          · show Act.put _ (some 11) _ = _
            simp only [Act.put, List.setIfInBounds_toArray, List.set_cons_zero, List.set_cons_succ, i64_w, i32_w]
            rfl
          refine one_ (i := 6) (N := some 2) #[true, true, true, true, true, true, true, false] rfl rfl (by kernel_rfl) (by decide) (fun K hK => ?_)
          refine box_step (by rfl) (N := 2) (by rfl) (cs := #[.int .u64 0, .int .i64 0, .slice none 0 0]) (t := 33) ?hr ?_
          case hr => first | (go_simp; done) | (go_simp; rfl)
          intro g2 hg w6 hbox hb6
          have HG2 := Aside0.mk (show w.heap.size ≤ g2 by rw [hg]; exact HB.out.size)
          have hne : g1 ≠ g2 := (by have h1 := blk_lt BK.out; rw [hg]; omega)
          replace HB := Aside0.mk (below_then HB.out HB.out.size hb6)
          replace BK := Aside0.mk (cells_below BK.out hb6)
          try replace HL := Aside0.mk (Kd.C_below HL.out hb6)
          replace hbox := Aside0.mk hbox
          clear hg
          refine hK.out _ _ ⟨(pw_cell_below hb6 hHeld.1), (pw_cell_below hb6 hHeld.2)⟩ (fun hHeld => ?_)
          clear hK K
          refine norm_ (a' := ?_) ?_ ?_
          rotate_left
          · show Act.put _ (some 2) _ = _
            simp only [Act.put, List.setIfInBounds_toArray, List.set_cons_zero, List.set_cons_succ, i64_w, i32_w]
            rfl
          refine last_ (i := 7) (N := none) #[true, true, true, true, true, true, true, true] rfl rfl (by kernel_rfl) (by decide) (fun K hK => ?_)
          (have hq_0 := (blk_cell hbox.out 0).trans (show (#[(.int .u64 0 : Value), (.int .i64 0 : Value), (.slice none 0 0 : Value)] : Array Value)[0]? = some (.int .u64 0) from rfl); have hqf_0 := blk_frozen hbox.out 0; have hq_1 := (blk_cell hbox.out 1).trans (show (#[(.int .u64 0 : Value), (.int .i64 0 : Value), (.slice none 0 0 : Value)] : Array Value)[1]? = some (.int .i64 0) from rfl); have hqf_1 := blk_frozen hbox.out 1; have hq_2 := (blk_cell hbox.out 2).trans (show (#[(.int .u64 0 : Value), (.int .i64 0 : Value), (.slice none 0 0 : Value)] : Array Value)[2]? = some (.slice none 0 0) from rfl); have hqf_2 := blk_frozen hbox.out 2)
          refine skip_ (w1 := ?_) (by rfl) rfl ?_ ?_
          rotate_left
          · go_simp
            rfl
          refine hK.out _ _ ?_
          clear hK K
          refine done_ (by kernel_rfl) ?_
          go_wp2_with fail
          go_meet
          exact ⟨g2, _, _, rfl, rfl, ⟨blk_far (blk_far (blk_far BK.out hne _) hne _) hne _⟩, ⟨blk_set (blk_set (blk_set hbox.out 0 _) 1 _) 2 _⟩, HG2, ⟨below_set (below_set (below_set HB.out HG2.out) HG2.out) HG2.out⟩⟩
        · skip
          refine box_step (by rfl) (N := 2) (by rfl) (cs := #[.int .u64 0, .int .i64 0, .slice none 0 0]) (t := 33) ?hr ?_
          case hr => first | (go_simp; done) | (go_simp; rfl)
          intro g2 hg w6 hbox hb6
          have HG2 := Aside0.mk (show w.heap.size ≤ g2 by rw [hg]; exact HB.out.size)
          have hne : g1 ≠ g2 := (by have h1 := blk_lt BK.out; rw [hg]; omega)
          replace HB := Aside0.mk (below_then HB.out HB.out.size hb6)
          replace BK := Aside0.mk (cells_below BK.out hb6)
          try replace HL := Aside0.mk (Kd.C_below HL.out hb6)
          replace hbox := Aside0.mk hbox
          clear hg
          refine hK.out _ _ ⟨(pw_cell_below hb6 hHeld.1), (pw_cell_below hb6 hHeld.2)⟩ (fun hHeld => ?_)
          clear hK K
          refine norm_ (a' := ?_) ?_ ?_
          rotate_left
          · show Act.put _ (some 2) _ = _
            simp only [Act.put, List.setIfInBounds_toArray, List.set_cons_zero, List.set_cons_succ, i64_w, i32_w]
            rfl
          refine one_ (i := 5) (N := some 11) #[true, true, true, true, true, true, true, false] rfl rfl (by kernel_rfl) (by decide) (fun K hK => ?_)
          refine goes_ Try.func19 (by kernel_rfl) rfl #[.agg #[.int .i64 2, .int .i64 0], .agg #[.int .u64 0, .int .i64 0, .slice A3 0 c3], .agg #[.int .i64 0, .slice none 0 0, .slice A9 1 c9], .int .u64 2] (by rfl) rfl rfl (by simp only [List.map_toArray, List.map_cons, List.map_nil]; rfl) ?_
          with_reducible refine (addNum 0 0 3 2 2 6 [] A3 A9 c3 c9 _ HL.out HLc.out aw1).mono ?_
          rintro e w5 ⟨v5, rfl, ho5, hb5⟩
          refine ⟨_, rfl, ?_⟩
          obtain ⟨A5, c5, rfl⟩ := reads0 ho5
          replace HB := Aside0.mk (below_then HB.out HB.out.size hb5)
          replace BK := Aside0.mk (cells_below BK.out hb5)
          try replace hbox := Aside0.mk (cells_below hbox.out hb5)
          clear ho5
          refine hK.out _ _ ⟨(pw_cell_below hb5 hHeld.1), (pw_cell_below hb5 hHeld.2)⟩ (fun hHeld => ?_)
          clear hK K
          refine norm_ (a' := ?_) ?_ ?_
          rotate_left
          · show Act.put _ (some 11) _ = _
            simp only [Act.put, List.setIfInBounds_toArray, List.set_cons_zero, List.set_cons_succ, i64_w, i32_w]
            rfl
          refine last_ (i := 7) (N := none) #[true, true, true, true, true, true, true, true] rfl rfl (by kernel_rfl) (by decide) (fun K hK => ?_)
          (have hq_0 := (blk_cell hbox.out 0).trans (show (#[(.int .u64 0 : Value), (.int .i64 0 : Value), (.slice none 0 0 : Value)] : Array Value)[0]? = some (.int .u64 0) from rfl); have hqf_0 := blk_frozen hbox.out 0; have hq_1 := (blk_cell hbox.out 1).trans (show (#[(.int .u64 0 : Value), (.int .i64 0 : Value), (.slice none 0 0 : Value)] : Array Value)[1]? = some (.int .i64 0) from rfl); have hqf_1 := blk_frozen hbox.out 1; have hq_2 := (blk_cell hbox.out 2).trans (show (#[(.int .u64 0 : Value), (.int .i64 0 : Value), (.slice none 0 0 : Value)] : Array Value)[2]? = some (.slice none 0 0) from rfl); have hqf_2 := blk_frozen hbox.out 2)
          refine skip_ (w1 := ?_) (by rfl) rfl ?_ ?_
          rotate_left
          · go_simp
            rfl
          refine hK.out _ _ ?_
          clear hK K
          refine done_ (by kernel_rfl) ?_
          go_wp2_with fail
          go_meet
          exact ⟨g2, _, _, rfl, rfl, ⟨blk_far (blk_far (blk_far BK.out hne _) hne _) hne _⟩, ⟨blk_set (blk_set (blk_set hbox.out 0 _) 1 _) 2 _⟩, HG2, ⟨below_set (below_set (below_set HB.out HG2.out) HG2.out) HG2.out⟩⟩
      · skip
        refine box_step (by rfl) (N := 2) (by rfl) (cs := #[.int .u64 0, .int .i64 0, .slice none 0 0]) (t := 33) ?hr ?_
        case hr => first | (go_simp; done) | (go_simp; rfl)
        intro g2 hg w6 hbox hb6
        have HG2 := Aside0.mk (show w.heap.size ≤ g2 by rw [hg]; exact HB.out.size)
        have hne : g1 ≠ g2 := (by have h1 := blk_lt BK.out; rw [hg]; omega)
        replace HB := Aside0.mk (below_then HB.out HB.out.size hb6)
        replace BK := Aside0.mk (cells_below BK.out hb6)
        try replace HL := Aside0.mk (Kd.C_below HL.out hb6)
        replace hbox := Aside0.mk hbox
        clear hg
        refine hK.out _ _ ⟨(pw_cell_below hb6 hHeld.1), (pw_cell_below hb6 hHeld.2)⟩ (fun hHeld => ?_)
        clear hK K
        refine norm_ (a' := ?_) ?_ ?_
        rotate_left
        · show Act.put _ (some 2) _ = _
          simp only [Act.put, List.setIfInBounds_toArray, List.set_cons_zero, List.set_cons_succ, i64_w, i32_w]
          rfl
        refine one_ (i := 3) (N := some 9) #[true, true, true, true, false, false, true, false] rfl rfl (by kernel_rfl) (by decide) (fun K hK => ?_)
        refine lit1_step (Kd.int .i64) 2 (by rfl) (N := 9) (by rfl) (x := 3) (v := .int .i64 3) ?hr (Reps.one (show Kd.M (Kd.int .i64) _ _ _ 3 [.int .i64 3] from rfl) (Reps.none _ _)) ?_
        case hr => first | (go_simp; done) | (go_simp; rfl)
        intro A9 c9 w9 hC9 hc9 hb9
        replace HB := Aside0.mk (below_then HB.out HB.out.size hb9)
        replace BK := Aside0.mk (cells_below BK.out hb9)
        replace HL := Aside0.mk hC9
        try replace hbox := Aside0.mk (cells_below hbox.out hb9)
        have HLc := Aside0.mk hc9
        clear hC9 hc9
        refine hK.out _ _ ⟨(pw_cell_below hb9 hHeld.1), (pw_cell_below hb9 hHeld.2)⟩ (fun hHeld => ?_)
        clear hK K
        refine norm_ (a' := ?_) ?_ ?_
        rotate_left
        · show Act.put _ (some 9) _ = _
          simp only [Act.put, List.setIfInBounds_toArray, List.set_cons_zero, List.set_cons_succ, i64_w, i32_w]
          rfl
        refine pure_ (i := 4) (N := some 10) (v := ?_) (a' := ?_) #[true, true, true, true, true, false, true, false] rfl rfl (by kernel_rfl) (fun _ _ _ h => h) (Or.inl ⟨by rfl, ?_⟩) ?_ ?_
        rotate_left
        · intro w'
          go_simp
          with_reducible rfl
        rotate_left
        · simp only [Act.put, List.setIfInBounds_toArray, List.set_cons_zero, List.set_cons_succ, i64_w, i32_w]
          rfl
        refine one_ (i := 5) (N := some 11) #[true, true, true, true, true, true, true, false] rfl rfl (by kernel_rfl) (by decide) (fun K hK => ?_)
        refine goes_ Try.func19 (by kernel_rfl) rfl #[.agg #[.int .i64 2, .int .i64 0], .agg #[.int .u64 0, .int .i64 0, .slice A3 0 c3], .agg #[.int .i64 0, .slice none 0 0, .slice A9 1 c9], .int .u64 2] (by rfl) rfl rfl (by simp only [List.map_toArray, List.map_cons, List.map_nil]; rfl) ?_
        with_reducible refine (addNum 0 0 3 2 2 6 [] A3 A9 c3 c9 _ HL.out HLc.out aw1).mono ?_
        rintro e w5 ⟨v5, rfl, ho5, hb5⟩
        refine ⟨_, rfl, ?_⟩
        obtain ⟨A5, c5, rfl⟩ := reads0 ho5
        replace HB := Aside0.mk (below_then HB.out HB.out.size hb5)
        replace BK := Aside0.mk (cells_below BK.out hb5)
        try replace hbox := Aside0.mk (cells_below hbox.out hb5)
        clear ho5
        refine hK.out _ _ ⟨(pw_cell_below hb5 hHeld.1), (pw_cell_below hb5 hHeld.2)⟩ (fun hHeld => ?_)
        clear hK K
        refine norm_ (a' := ?_) ?_ ?_
        rotate_left
        · show Act.put _ (some 11) _ = _
          simp only [Act.put, List.setIfInBounds_toArray, List.set_cons_zero, List.set_cons_succ, i64_w, i32_w]
          rfl
        refine last_ (i := 7) (N := none) #[true, true, true, true, true, true, true, true] rfl rfl (by kernel_rfl) (by decide) (fun K hK => ?_)
        (have hq_0 := (blk_cell hbox.out 0).trans (show (#[(.int .u64 0 : Value), (.int .i64 0 : Value), (.slice none 0 0 : Value)] : Array Value)[0]? = some (.int .u64 0) from rfl); have hqf_0 := blk_frozen hbox.out 0; have hq_1 := (blk_cell hbox.out 1).trans (show (#[(.int .u64 0 : Value), (.int .i64 0 : Value), (.slice none 0 0 : Value)] : Array Value)[1]? = some (.int .i64 0) from rfl); have hqf_1 := blk_frozen hbox.out 1; have hq_2 := (blk_cell hbox.out 2).trans (show (#[(.int .u64 0 : Value), (.int .i64 0 : Value), (.slice none 0 0 : Value)] : Array Value)[2]? = some (.slice none 0 0) from rfl); have hqf_2 := blk_frozen hbox.out 2)
        refine skip_ (w1 := ?_) (by rfl) rfl ?_ ?_
        rotate_left
        · go_simp
          rfl
        refine hK.out _ _ ?_
        clear hK K
        refine done_ (by kernel_rfl) ?_
        go_wp2_with fail
        go_meet
        exact ⟨g2, _, _, rfl, rfl, ⟨blk_far (blk_far (blk_far BK.out hne _) hne _) hne _⟩, ⟨blk_set (blk_set (blk_set hbox.out 0 _) 1 _) 2 _⟩, HG2, ⟨below_set (below_set (below_set HB.out HG2.out) HG2.out) HG2.out⟩⟩
    · skip
      refine lit1_step (Kd.int .i64) 2 (by rfl) (N := 9) (by rfl) (x := 3) (v := .int .i64 3) ?hr (Reps.one (show Kd.M (Kd.int .i64) _ _ _ 3 [.int .i64 3] from rfl) (Reps.none _ _)) ?_
      case hr => first | (go_simp; done) | (go_simp; rfl)
      intro A9 c9 w9 hC9 hc9 hb9
      replace HB := Aside0.mk (below_then HB.out HB.out.size hb9)
      replace BK := Aside0.mk (cells_below BK.out hb9)
      replace HL := Aside0.mk hC9
      try replace hbox := Aside0.mk (cells_below hbox.out hb9)
      have HLc := Aside0.mk hc9
      clear hC9 hc9
      refine hK.out _ _ ⟨(pw_cell_below hb9 hHeld.1), (pw_cell_below hb9 hHeld.2)⟩ (fun hHeld => ?_)
      clear hK K
      refine norm_ (a' := ?_) ?_ ?_
      rotate_left
      · show Act.put _ (some 9) _ = _
        simp only [Act.put, List.setIfInBounds_toArray, List.set_cons_zero, List.set_cons_succ, i64_w, i32_w]
        rfl
      refine pure_ (i := 4) (N := some 10) (v := ?_) (a' := ?_) #[true, true, false, true, true, false, false, false] rfl rfl (by kernel_rfl) (fun _ _ _ h => h) (Or.inl ⟨by rfl, ?_⟩) ?_ ?_
      rotate_left
      · intro w'
        go_simp
        with_reducible rfl
      rotate_left
      · simp only [Act.put, List.setIfInBounds_toArray, List.set_cons_zero, List.set_cons_succ, i64_w, i32_w]
        rfl
      refine two_ (i := 2) (j := 6) (Ni := some 8) (Nj := some 2) #[true, true, true, true, true, false, false, false] #[true, true, false, true, true, false, true, false] rfl rfl rfl rfl (by kernel_rfl) (by decide) (by decide) (fun K hK => ?_) (fun K hK => ?_)
      · skip
        refine goes_ Try.func18 (by kernel_rfl) rfl #[.agg #[.int .i64 2, .int .i64 0]] (by rfl) rfl rfl (by simp only [List.map_toArray, List.map_cons, List.map_nil]; rfl) ?_
        with_reducible refine (start0 2 0 _).mono ?_
        rintro e w3 ⟨A3, c3, rfl, hb3⟩
        refine ⟨_, rfl, ?_⟩
        replace HB := Aside0.mk (below_then HB.out HB.out.size hb3)
        replace BK := Aside0.mk (cells_below BK.out hb3)
        try replace HL := Aside0.mk (Kd.C_below HL.out hb3)
        try replace hbox := Aside0.mk (cells_below hbox.out hb3)
        refine hK.out _ _ ⟨(pw_cell_below hb3 hHeld.1), (pw_cell_below hb3 hHeld.2)⟩ (fun hHeld => ?_)
        clear hK K
        refine norm_ (a' := ?_) ?_ ?_
        rotate_left
        · show Act.put _ (some 8) _ = _
          simp only [Act.put, List.setIfInBounds_toArray, List.set_cons_zero, List.set_cons_succ, i64_w, i32_w]
          rfl
        refine two_ (i := 5) (j := 6) (Ni := some 11) (Nj := some 2) #[true, true, true, true, true, true, false, false] #[true, true, true, true, true, false, true, false] rfl rfl rfl rfl (by kernel_rfl) (by decide) (by decide) (fun K hK => ?_) (fun K hK => ?_)
        · skip
          refine goes_ Try.func19 (by kernel_rfl) rfl #[.agg #[.int .i64 2, .int .i64 0], .agg #[.int .u64 0, .int .i64 0, .slice A3 0 c3], .agg #[.int .i64 0, .slice none 0 0, .slice A9 1 c9], .int .u64 2] (by rfl) rfl rfl (by simp only [List.map_toArray, List.map_cons, List.map_nil]; rfl) ?_
          with_reducible refine (addNum 0 0 3 2 2 6 [] A3 A9 c3 c9 _ HL.out HLc.out aw1).mono ?_
          rintro e w5 ⟨v5, rfl, ho5, hb5⟩
          refine ⟨_, rfl, ?_⟩
          obtain ⟨A5, c5, rfl⟩ := reads0 ho5
          replace HB := Aside0.mk (below_then HB.out HB.out.size hb5)
          replace BK := Aside0.mk (cells_below BK.out hb5)
          try replace hbox := Aside0.mk (cells_below hbox.out hb5)
          clear ho5
          refine hK.out _ _ ⟨(pw_cell_below hb5 hHeld.1), (pw_cell_below hb5 hHeld.2)⟩ (fun hHeld => ?_)
          clear hK K
          refine norm_ (a' := ?_) ?_ ?_
          rotate_left
          · show Act.put _ (some 11) _ = _
            simp only [Act.put, List.setIfInBounds_toArray, List.set_cons_zero, List.set_cons_succ, i64_w, i32_w]
            rfl
          refine one_ (i := 6) (N := some 2) #[true, true, true, true, true, true, true, false] rfl rfl (by kernel_rfl) (by decide) (fun K hK => ?_)
          refine box_step (by rfl) (N := 2) (by rfl) (cs := #[.int .u64 0, .int .i64 0, .slice none 0 0]) (t := 33) ?hr ?_
          case hr => first | (go_simp; done) | (go_simp; rfl)
          intro g2 hg w6 hbox hb6
          have HG2 := Aside0.mk (show w.heap.size ≤ g2 by rw [hg]; exact HB.out.size)
          have hne : g1 ≠ g2 := (by have h1 := blk_lt BK.out; rw [hg]; omega)
          replace HB := Aside0.mk (below_then HB.out HB.out.size hb6)
          replace BK := Aside0.mk (cells_below BK.out hb6)
          try replace HL := Aside0.mk (Kd.C_below HL.out hb6)
          replace hbox := Aside0.mk hbox
          clear hg
          refine hK.out _ _ ⟨(pw_cell_below hb6 hHeld.1), (pw_cell_below hb6 hHeld.2)⟩ (fun hHeld => ?_)
          clear hK K
          refine norm_ (a' := ?_) ?_ ?_
          rotate_left
          · show Act.put _ (some 2) _ = _
            simp only [Act.put, List.setIfInBounds_toArray, List.set_cons_zero, List.set_cons_succ, i64_w, i32_w]
            rfl
          refine last_ (i := 7) (N := none) #[true, true, true, true, true, true, true, true] rfl rfl (by kernel_rfl) (by decide) (fun K hK => ?_)
          (have hq_0 := (blk_cell hbox.out 0).trans (show (#[(.int .u64 0 : Value), (.int .i64 0 : Value), (.slice none 0 0 : Value)] : Array Value)[0]? = some (.int .u64 0) from rfl); have hqf_0 := blk_frozen hbox.out 0; have hq_1 := (blk_cell hbox.out 1).trans (show (#[(.int .u64 0 : Value), (.int .i64 0 : Value), (.slice none 0 0 : Value)] : Array Value)[1]? = some (.int .i64 0) from rfl); have hqf_1 := blk_frozen hbox.out 1; have hq_2 := (blk_cell hbox.out 2).trans (show (#[(.int .u64 0 : Value), (.int .i64 0 : Value), (.slice none 0 0 : Value)] : Array Value)[2]? = some (.slice none 0 0) from rfl); have hqf_2 := blk_frozen hbox.out 2)
          refine skip_ (w1 := ?_) (by rfl) rfl ?_ ?_
          rotate_left
          · go_simp
            rfl
          refine hK.out _ _ ?_
          clear hK K
          refine done_ (by kernel_rfl) ?_
          go_wp2_with fail
          go_meet
          exact ⟨g2, _, _, rfl, rfl, ⟨blk_far (blk_far (blk_far BK.out hne _) hne _) hne _⟩, ⟨blk_set (blk_set (blk_set hbox.out 0 _) 1 _) 2 _⟩, HG2, ⟨below_set (below_set (below_set HB.out HG2.out) HG2.out) HG2.out⟩⟩
        · skip
          refine box_step (by rfl) (N := 2) (by rfl) (cs := #[.int .u64 0, .int .i64 0, .slice none 0 0]) (t := 33) ?hr ?_
          case hr => first | (go_simp; done) | (go_simp; rfl)
          intro g2 hg w6 hbox hb6
          have HG2 := Aside0.mk (show w.heap.size ≤ g2 by rw [hg]; exact HB.out.size)
          have hne : g1 ≠ g2 := (by have h1 := blk_lt BK.out; rw [hg]; omega)
          replace HB := Aside0.mk (below_then HB.out HB.out.size hb6)
          replace BK := Aside0.mk (cells_below BK.out hb6)
          try replace HL := Aside0.mk (Kd.C_below HL.out hb6)
          replace hbox := Aside0.mk hbox
          clear hg
          refine hK.out _ _ ⟨(pw_cell_below hb6 hHeld.1), (pw_cell_below hb6 hHeld.2)⟩ (fun hHeld => ?_)
          clear hK K
          refine norm_ (a' := ?_) ?_ ?_
          rotate_left
          · show Act.put _ (some 2) _ = _
            simp only [Act.put, List.setIfInBounds_toArray, List.set_cons_zero, List.set_cons_succ, i64_w, i32_w]
            rfl
          refine one_ (i := 5) (N := some 11) #[true, true, true, true, true, true, true, false] rfl rfl (by kernel_rfl) (by decide) (fun K hK => ?_)
          refine goes_ Try.func19 (by kernel_rfl) rfl #[.agg #[.int .i64 2, .int .i64 0], .agg #[.int .u64 0, .int .i64 0, .slice A3 0 c3], .agg #[.int .i64 0, .slice none 0 0, .slice A9 1 c9], .int .u64 2] (by rfl) rfl rfl (by simp only [List.map_toArray, List.map_cons, List.map_nil]; rfl) ?_
          with_reducible refine (addNum 0 0 3 2 2 6 [] A3 A9 c3 c9 _ HL.out HLc.out aw1).mono ?_
          rintro e w5 ⟨v5, rfl, ho5, hb5⟩
          refine ⟨_, rfl, ?_⟩
          obtain ⟨A5, c5, rfl⟩ := reads0 ho5
          replace HB := Aside0.mk (below_then HB.out HB.out.size hb5)
          replace BK := Aside0.mk (cells_below BK.out hb5)
          try replace hbox := Aside0.mk (cells_below hbox.out hb5)
          clear ho5
          refine hK.out _ _ ⟨(pw_cell_below hb5 hHeld.1), (pw_cell_below hb5 hHeld.2)⟩ (fun hHeld => ?_)
          clear hK K
          refine norm_ (a' := ?_) ?_ ?_
          rotate_left
          · show Act.put _ (some 11) _ = _
            simp only [Act.put, List.setIfInBounds_toArray, List.set_cons_zero, List.set_cons_succ, i64_w, i32_w]
            rfl
          refine last_ (i := 7) (N := none) #[true, true, true, true, true, true, true, true] rfl rfl (by kernel_rfl) (by decide) (fun K hK => ?_)
          (have hq_0 := (blk_cell hbox.out 0).trans (show (#[(.int .u64 0 : Value), (.int .i64 0 : Value), (.slice none 0 0 : Value)] : Array Value)[0]? = some (.int .u64 0) from rfl); have hqf_0 := blk_frozen hbox.out 0; have hq_1 := (blk_cell hbox.out 1).trans (show (#[(.int .u64 0 : Value), (.int .i64 0 : Value), (.slice none 0 0 : Value)] : Array Value)[1]? = some (.int .i64 0) from rfl); have hqf_1 := blk_frozen hbox.out 1; have hq_2 := (blk_cell hbox.out 2).trans (show (#[(.int .u64 0 : Value), (.int .i64 0 : Value), (.slice none 0 0 : Value)] : Array Value)[2]? = some (.slice none 0 0) from rfl); have hqf_2 := blk_frozen hbox.out 2)
          refine skip_ (w1 := ?_) (by rfl) rfl ?_ ?_
          rotate_left
          · go_simp
            rfl
          refine hK.out _ _ ?_
          clear hK K
          refine done_ (by kernel_rfl) ?_
          go_wp2_with fail
          go_meet
          exact ⟨g2, _, _, rfl, rfl, ⟨blk_far (blk_far (blk_far BK.out hne _) hne _) hne _⟩, ⟨blk_set (blk_set (blk_set hbox.out 0 _) 1 _) 2 _⟩, HG2, ⟨below_set (below_set (below_set HB.out HG2.out) HG2.out) HG2.out⟩⟩
      · skip
        refine box_step (by rfl) (N := 2) (by rfl) (cs := #[.int .u64 0, .int .i64 0, .slice none 0 0]) (t := 33) ?hr ?_
        case hr => first | (go_simp; done) | (go_simp; rfl)
        intro g2 hg w6 hbox hb6
        have HG2 := Aside0.mk (show w.heap.size ≤ g2 by rw [hg]; exact HB.out.size)
        have hne : g1 ≠ g2 := (by have h1 := blk_lt BK.out; rw [hg]; omega)
        replace HB := Aside0.mk (below_then HB.out HB.out.size hb6)
        replace BK := Aside0.mk (cells_below BK.out hb6)
        try replace HL := Aside0.mk (Kd.C_below HL.out hb6)
        replace hbox := Aside0.mk hbox
        clear hg
        refine hK.out _ _ ⟨(pw_cell_below hb6 hHeld.1), (pw_cell_below hb6 hHeld.2)⟩ (fun hHeld => ?_)
        clear hK K
        refine norm_ (a' := ?_) ?_ ?_
        rotate_left
        · show Act.put _ (some 2) _ = _
          simp only [Act.put, List.setIfInBounds_toArray, List.set_cons_zero, List.set_cons_succ, i64_w, i32_w]
          rfl
        refine one_ (i := 2) (N := some 8) #[true, true, true, true, true, false, true, false] rfl rfl (by kernel_rfl) (by decide) (fun K hK => ?_)
        refine goes_ Try.func18 (by kernel_rfl) rfl #[.agg #[.int .i64 2, .int .i64 0]] (by rfl) rfl rfl (by simp only [List.map_toArray, List.map_cons, List.map_nil]; rfl) ?_
        with_reducible refine (start0 2 0 _).mono ?_
        rintro e w3 ⟨A3, c3, rfl, hb3⟩
        refine ⟨_, rfl, ?_⟩
        replace HB := Aside0.mk (below_then HB.out HB.out.size hb3)
        replace BK := Aside0.mk (cells_below BK.out hb3)
        try replace HL := Aside0.mk (Kd.C_below HL.out hb3)
        try replace hbox := Aside0.mk (cells_below hbox.out hb3)
        refine hK.out _ _ ⟨(pw_cell_below hb3 hHeld.1), (pw_cell_below hb3 hHeld.2)⟩ (fun hHeld => ?_)
        clear hK K
        refine norm_ (a' := ?_) ?_ ?_
        rotate_left
        · show Act.put _ (some 8) _ = _
          simp only [Act.put, List.setIfInBounds_toArray, List.set_cons_zero, List.set_cons_succ, i64_w, i32_w]
          rfl
        refine one_ (i := 5) (N := some 11) #[true, true, true, true, true, true, true, false] rfl rfl (by kernel_rfl) (by decide) (fun K hK => ?_)
        refine goes_ Try.func19 (by kernel_rfl) rfl #[.agg #[.int .i64 2, .int .i64 0], .agg #[.int .u64 0, .int .i64 0, .slice A3 0 c3], .agg #[.int .i64 0, .slice none 0 0, .slice A9 1 c9], .int .u64 2] (by rfl) rfl rfl (by simp only [List.map_toArray, List.map_cons, List.map_nil]; rfl) ?_
        with_reducible refine (addNum 0 0 3 2 2 6 [] A3 A9 c3 c9 _ HL.out HLc.out aw1).mono ?_
        rintro e w5 ⟨v5, rfl, ho5, hb5⟩
        refine ⟨_, rfl, ?_⟩
        obtain ⟨A5, c5, rfl⟩ := reads0 ho5
        replace HB := Aside0.mk (below_then HB.out HB.out.size hb5)
        replace BK := Aside0.mk (cells_below BK.out hb5)
        try replace hbox := Aside0.mk (cells_below hbox.out hb5)
        clear ho5
        refine hK.out _ _ ⟨(pw_cell_below hb5 hHeld.1), (pw_cell_below hb5 hHeld.2)⟩ (fun hHeld => ?_)
        clear hK K
        refine norm_ (a' := ?_) ?_ ?_
        rotate_left
        · show Act.put _ (some 11) _ = _
          simp only [Act.put, List.setIfInBounds_toArray, List.set_cons_zero, List.set_cons_succ, i64_w, i32_w]
          rfl
        refine last_ (i := 7) (N := none) #[true, true, true, true, true, true, true, true] rfl rfl (by kernel_rfl) (by decide) (fun K hK => ?_)
        (have hq_0 := (blk_cell hbox.out 0).trans (show (#[(.int .u64 0 : Value), (.int .i64 0 : Value), (.slice none 0 0 : Value)] : Array Value)[0]? = some (.int .u64 0) from rfl); have hqf_0 := blk_frozen hbox.out 0; have hq_1 := (blk_cell hbox.out 1).trans (show (#[(.int .u64 0 : Value), (.int .i64 0 : Value), (.slice none 0 0 : Value)] : Array Value)[1]? = some (.int .i64 0) from rfl); have hqf_1 := blk_frozen hbox.out 1; have hq_2 := (blk_cell hbox.out 2).trans (show (#[(.int .u64 0 : Value), (.int .i64 0 : Value), (.slice none 0 0 : Value)] : Array Value)[2]? = some (.slice none 0 0) from rfl); have hqf_2 := blk_frozen hbox.out 2)
        refine skip_ (w1 := ?_) (by rfl) rfl ?_ ?_
        rotate_left
        · go_simp
          rfl
        refine hK.out _ _ ?_
        clear hK K
        refine done_ (by kernel_rfl) ?_
        go_wp2_with fail
        go_meet
        exact ⟨g2, _, _, rfl, rfl, ⟨blk_far (blk_far (blk_far BK.out hne _) hne _) hne _⟩, ⟨blk_set (blk_set (blk_set hbox.out 0 _) 1 _) 2 _⟩, HG2, ⟨below_set (below_set (below_set HB.out HG2.out) HG2.out) HG2.out⟩⟩
    · skip
      refine box_step (by rfl) (N := 2) (by rfl) (cs := #[.int .u64 0, .int .i64 0, .slice none 0 0]) (t := 33) ?hr ?_
      case hr => first | (go_simp; done) | (go_simp; rfl)
      intro g2 hg w6 hbox hb6
      have HG2 := Aside0.mk (show w.heap.size ≤ g2 by rw [hg]; exact HB.out.size)
      have hne : g1 ≠ g2 := (by have h1 := blk_lt BK.out; rw [hg]; omega)
      replace HB := Aside0.mk (below_then HB.out HB.out.size hb6)
      replace BK := Aside0.mk (cells_below BK.out hb6)
      try replace HL := Aside0.mk (Kd.C_below HL.out hb6)
      replace hbox := Aside0.mk hbox
      clear hg
      refine hK.out _ _ ⟨(pw_cell_below hb6 hHeld.1), (pw_cell_below hb6 hHeld.2)⟩ (fun hHeld => ?_)
      clear hK K
      refine norm_ (a' := ?_) ?_ ?_
      rotate_left
      · show Act.put _ (some 2) _ = _
        simp only [Act.put, List.setIfInBounds_toArray, List.set_cons_zero, List.set_cons_succ, i64_w, i32_w]
        rfl
      refine two_ (i := 2) (j := 3) (Ni := some 8) (Nj := some 9) #[true, true, true, false, false, false, true, false] #[true, true, false, true, false, false, true, false] rfl rfl rfl rfl (by kernel_rfl) (by decide) (by decide) (fun K hK => ?_) (fun K hK => ?_)
      · skip
        refine goes_ Try.func18 (by kernel_rfl) rfl #[.agg #[.int .i64 2, .int .i64 0]] (by rfl) rfl rfl (by simp only [List.map_toArray, List.map_cons, List.map_nil]; rfl) ?_
        with_reducible refine (start0 2 0 _).mono ?_
        rintro e w3 ⟨A3, c3, rfl, hb3⟩
        refine ⟨_, rfl, ?_⟩
        replace HB := Aside0.mk (below_then HB.out HB.out.size hb3)
        replace BK := Aside0.mk (cells_below BK.out hb3)
        try replace HL := Aside0.mk (Kd.C_below HL.out hb3)
        try replace hbox := Aside0.mk (cells_below hbox.out hb3)
        refine hK.out _ _ ⟨(pw_cell_below hb3 hHeld.1), (pw_cell_below hb3 hHeld.2)⟩ (fun hHeld => ?_)
        clear hK K
        refine norm_ (a' := ?_) ?_ ?_
        rotate_left
        · show Act.put _ (some 8) _ = _
          simp only [Act.put, List.setIfInBounds_toArray, List.set_cons_zero, List.set_cons_succ, i64_w, i32_w]
          rfl
        refine one_ (i := 3) (N := some 9) #[true, true, true, true, false, false, true, false] rfl rfl (by kernel_rfl) (by decide) (fun K hK => ?_)
        refine lit1_step (Kd.int .i64) 2 (by rfl) (N := 9) (by rfl) (x := 3) (v := .int .i64 3) ?hr (Reps.one (show Kd.M (Kd.int .i64) _ _ _ 3 [.int .i64 3] from rfl) (Reps.none _ _)) ?_
        case hr => first | (go_simp; done) | (go_simp; rfl)
        intro A9 c9 w9 hC9 hc9 hb9
        replace HB := Aside0.mk (below_then HB.out HB.out.size hb9)
        replace BK := Aside0.mk (cells_below BK.out hb9)
        replace HL := Aside0.mk hC9
        try replace hbox := Aside0.mk (cells_below hbox.out hb9)
        have HLc := Aside0.mk hc9
        clear hC9 hc9
        refine hK.out _ _ ⟨(pw_cell_below hb9 hHeld.1), (pw_cell_below hb9 hHeld.2)⟩ (fun hHeld => ?_)
        clear hK K
        refine norm_ (a' := ?_) ?_ ?_
        rotate_left
        · show Act.put _ (some 9) _ = _
          simp only [Act.put, List.setIfInBounds_toArray, List.set_cons_zero, List.set_cons_succ, i64_w, i32_w]
          rfl
        refine pure_ (i := 4) (N := some 10) (v := ?_) (a' := ?_) #[true, true, true, true, true, false, true, false] rfl rfl (by kernel_rfl) (fun _ _ _ h => h) (Or.inl ⟨by rfl, ?_⟩) ?_ ?_
        rotate_left
        · intro w'
          go_simp
          with_reducible rfl
        rotate_left
        · simp only [Act.put, List.setIfInBounds_toArray, List.set_cons_zero, List.set_cons_succ, i64_w, i32_w]
          rfl
        refine one_ (i := 5) (N := some 11) #[true, true, true, true, true, true, true, false] rfl rfl (by kernel_rfl) (by decide) (fun K hK => ?_)
        refine goes_ Try.func19 (by kernel_rfl) rfl #[.agg #[.int .i64 2, .int .i64 0], .agg #[.int .u64 0, .int .i64 0, .slice A3 0 c3], .agg #[.int .i64 0, .slice none 0 0, .slice A9 1 c9], .int .u64 2] (by rfl) rfl rfl (by simp only [List.map_toArray, List.map_cons, List.map_nil]; rfl) ?_
        with_reducible refine (addNum 0 0 3 2 2 6 [] A3 A9 c3 c9 _ HL.out HLc.out aw1).mono ?_
        rintro e w5 ⟨v5, rfl, ho5, hb5⟩
        refine ⟨_, rfl, ?_⟩
        obtain ⟨A5, c5, rfl⟩ := reads0 ho5
        replace HB := Aside0.mk (below_then HB.out HB.out.size hb5)
        replace BK := Aside0.mk (cells_below BK.out hb5)
        try replace hbox := Aside0.mk (cells_below hbox.out hb5)
        clear ho5
        refine hK.out _ _ ⟨(pw_cell_below hb5 hHeld.1), (pw_cell_below hb5 hHeld.2)⟩ (fun hHeld => ?_)
        clear hK K
        refine norm_ (a' := ?_) ?_ ?_
        rotate_left
        · show Act.put _ (some 11) _ = _
          simp only [Act.put, List.setIfInBounds_toArray, List.set_cons_zero, List.set_cons_succ, i64_w, i32_w]
          rfl
        refine last_ (i := 7) (N := none) #[true, true, true, true, true, true, true, true] rfl rfl (by kernel_rfl) (by decide) (fun K hK => ?_)
        (have hq_0 := (blk_cell hbox.out 0).trans (show (#[(.int .u64 0 : Value), (.int .i64 0 : Value), (.slice none 0 0 : Value)] : Array Value)[0]? = some (.int .u64 0) from rfl); have hqf_0 := blk_frozen hbox.out 0; have hq_1 := (blk_cell hbox.out 1).trans (show (#[(.int .u64 0 : Value), (.int .i64 0 : Value), (.slice none 0 0 : Value)] : Array Value)[1]? = some (.int .i64 0) from rfl); have hqf_1 := blk_frozen hbox.out 1; have hq_2 := (blk_cell hbox.out 2).trans (show (#[(.int .u64 0 : Value), (.int .i64 0 : Value), (.slice none 0 0 : Value)] : Array Value)[2]? = some (.slice none 0 0) from rfl); have hqf_2 := blk_frozen hbox.out 2)
        refine skip_ (w1 := ?_) (by rfl) rfl ?_ ?_
        rotate_left
        · go_simp
          rfl
        refine hK.out _ _ ?_
        clear hK K
        refine done_ (by kernel_rfl) ?_
        go_wp2_with fail
        go_meet
        exact ⟨g2, _, _, rfl, rfl, ⟨blk_far (blk_far (blk_far BK.out hne _) hne _) hne _⟩, ⟨blk_set (blk_set (blk_set hbox.out 0 _) 1 _) 2 _⟩, HG2, ⟨below_set (below_set (below_set HB.out HG2.out) HG2.out) HG2.out⟩⟩
      · skip
        refine lit1_step (Kd.int .i64) 2 (by rfl) (N := 9) (by rfl) (x := 3) (v := .int .i64 3) ?hr (Reps.one (show Kd.M (Kd.int .i64) _ _ _ 3 [.int .i64 3] from rfl) (Reps.none _ _)) ?_
        case hr => first | (go_simp; done) | (go_simp; rfl)
        intro A9 c9 w9 hC9 hc9 hb9
        replace HB := Aside0.mk (below_then HB.out HB.out.size hb9)
        replace BK := Aside0.mk (cells_below BK.out hb9)
        replace HL := Aside0.mk hC9
        try replace hbox := Aside0.mk (cells_below hbox.out hb9)
        have HLc := Aside0.mk hc9
        clear hC9 hc9
        refine hK.out _ _ ⟨(pw_cell_below hb9 hHeld.1), (pw_cell_below hb9 hHeld.2)⟩ (fun hHeld => ?_)
        clear hK K
        refine norm_ (a' := ?_) ?_ ?_
        rotate_left
        · show Act.put _ (some 9) _ = _
          simp only [Act.put, List.setIfInBounds_toArray, List.set_cons_zero, List.set_cons_succ, i64_w, i32_w]
          rfl
        refine pure_ (i := 4) (N := some 10) (v := ?_) (a' := ?_) #[true, true, false, true, true, false, true, false] rfl rfl (by kernel_rfl) (fun _ _ _ h => h) (Or.inl ⟨by rfl, ?_⟩) ?_ ?_
        rotate_left
        · intro w'
          go_simp
          with_reducible rfl
        rotate_left
        · simp only [Act.put, List.setIfInBounds_toArray, List.set_cons_zero, List.set_cons_succ, i64_w, i32_w]
          rfl
        refine one_ (i := 2) (N := some 8) #[true, true, true, true, true, false, true, false] rfl rfl (by kernel_rfl) (by decide) (fun K hK => ?_)
        refine goes_ Try.func18 (by kernel_rfl) rfl #[.agg #[.int .i64 2, .int .i64 0]] (by rfl) rfl rfl (by simp only [List.map_toArray, List.map_cons, List.map_nil]; rfl) ?_
        with_reducible refine (start0 2 0 _).mono ?_
        rintro e w3 ⟨A3, c3, rfl, hb3⟩
        refine ⟨_, rfl, ?_⟩
        replace HB := Aside0.mk (below_then HB.out HB.out.size hb3)
        replace BK := Aside0.mk (cells_below BK.out hb3)
        try replace HL := Aside0.mk (Kd.C_below HL.out hb3)
        try replace hbox := Aside0.mk (cells_below hbox.out hb3)
        refine hK.out _ _ ⟨(pw_cell_below hb3 hHeld.1), (pw_cell_below hb3 hHeld.2)⟩ (fun hHeld => ?_)
        clear hK K
        refine norm_ (a' := ?_) ?_ ?_
        rotate_left
        · show Act.put _ (some 8) _ = _
          simp only [Act.put, List.setIfInBounds_toArray, List.set_cons_zero, List.set_cons_succ, i64_w, i32_w]
          rfl
        refine one_ (i := 5) (N := some 11) #[true, true, true, true, true, true, true, false] rfl rfl (by kernel_rfl) (by decide) (fun K hK => ?_)
        refine goes_ Try.func19 (by kernel_rfl) rfl #[.agg #[.int .i64 2, .int .i64 0], .agg #[.int .u64 0, .int .i64 0, .slice A3 0 c3], .agg #[.int .i64 0, .slice none 0 0, .slice A9 1 c9], .int .u64 2] (by rfl) rfl rfl (by simp only [List.map_toArray, List.map_cons, List.map_nil]; rfl) ?_
        with_reducible refine (addNum 0 0 3 2 2 6 [] A3 A9 c3 c9 _ HL.out HLc.out aw1).mono ?_
        rintro e w5 ⟨v5, rfl, ho5, hb5⟩
        refine ⟨_, rfl, ?_⟩
        obtain ⟨A5, c5, rfl⟩ := reads0 ho5
        replace HB := Aside0.mk (below_then HB.out HB.out.size hb5)
        replace BK := Aside0.mk (cells_below BK.out hb5)
        try replace hbox := Aside0.mk (cells_below hbox.out hb5)
        clear ho5
        refine hK.out _ _ ⟨(pw_cell_below hb5 hHeld.1), (pw_cell_below hb5 hHeld.2)⟩ (fun hHeld => ?_)
        clear hK K
        refine norm_ (a' := ?_) ?_ ?_
        rotate_left
        · show Act.put _ (some 11) _ = _
          simp only [Act.put, List.setIfInBounds_toArray, List.set_cons_zero, List.set_cons_succ, i64_w, i32_w]
          rfl
        refine last_ (i := 7) (N := none) #[true, true, true, true, true, true, true, true] rfl rfl (by kernel_rfl) (by decide) (fun K hK => ?_)
        (have hq_0 := (blk_cell hbox.out 0).trans (show (#[(.int .u64 0 : Value), (.int .i64 0 : Value), (.slice none 0 0 : Value)] : Array Value)[0]? = some (.int .u64 0) from rfl); have hqf_0 := blk_frozen hbox.out 0; have hq_1 := (blk_cell hbox.out 1).trans (show (#[(.int .u64 0 : Value), (.int .i64 0 : Value), (.slice none 0 0 : Value)] : Array Value)[1]? = some (.int .i64 0) from rfl); have hqf_1 := blk_frozen hbox.out 1; have hq_2 := (blk_cell hbox.out 2).trans (show (#[(.int .u64 0 : Value), (.int .i64 0 : Value), (.slice none 0 0 : Value)] : Array Value)[2]? = some (.slice none 0 0) from rfl); have hqf_2 := blk_frozen hbox.out 2)
        refine skip_ (w1 := ?_) (by rfl) rfl ?_ ?_
        rotate_left
        · go_simp
          rfl
        refine hK.out _ _ ?_
        clear hK K
        refine done_ (by kernel_rfl) ?_
        go_wp2_with fail
        go_meet
        exact ⟨g2, _, _, rfl, rfl, ⟨blk_far (blk_far (blk_far BK.out hne _) hne _) hne _⟩, ⟨blk_set (blk_set (blk_set hbox.out 0 _) 1 _) 2 _⟩, HG2, ⟨below_set (below_set (below_set HB.out HG2.out) HG2.out) HG2.out⟩⟩
  case rest =>
    obtain ⟨g2, A2, c2, rfl, rfl, BK1, BK2, HG2, HB⟩ := hcut
    (have hq1_0 := (blk_cell BK1.out 0).trans (show (#[(.int .i64 2 : Value), (.int .i64 0 : Value)] : Array Value)[0]? = some (.int .i64 2) from rfl); have hqf1_0 := blk_frozen BK1.out 0; have hq1_1 := (blk_cell BK1.out 1).trans (show (#[(.int .i64 2 : Value), (.int .i64 0 : Value)] : Array Value)[1]? = some (.int .i64 0) from rfl); have hqf1_1 := blk_frozen BK1.out 1)
    (have hq2_0 := (blk_cell BK2.out 0).trans (show (#[(.int .u64 2 : Value), (.int .i64 6 : Value), (.slice A2 0 c2 : Value)] : Array Value)[0]? = some (.int .u64 2) from rfl); have hqf2_0 := blk_frozen BK2.out 0; have hq2_1 := (blk_cell BK2.out 1).trans (show (#[(.int .u64 2 : Value), (.int .i64 6 : Value), (.slice A2 0 c2 : Value)] : Array Value)[1]? = some (.int .i64 6) from rfl); have hqf2_1 := blk_frozen BK2.out 1; have hq2_2 := (blk_cell BK2.out 2).trans (show (#[(.int .u64 2 : Value), (.int .i64 6 : Value), (.slice A2 0 c2 : Value)] : Array Value)[2]? = some (.slice A2 0 c2) from rfl); have hqf2_2 := blk_frozen BK2.out 2)
    go_wp2_with (first
      | ((with_reducible refine gate_dst (N := 14) rfl ?_); refine lit1_event (Kd.int .i64) 2 (by rfl) (N := 14) (by rfl) (x := -1) (v := .int .i64 (-1)) ?hr (Reps.one (show Kd.M (Kd.int .i64) _ _ _ (-1) [.int .i64 (-1)] from rfl) (Reps.none _ _)) ?_; (case hr => first | (go_simp; done) | (go_simp; rfl)); intro A9 c9 w9 hC9 hc9 hb9; replace BK1 := Aside0.mk (cells_below BK1.out hb9); replace BK2 := Aside0.mk (cells_below BK2.out hb9); replace HB := Aside0.mk (below_then HB.out HB.out.size hb9); have HL := Aside0.mk hC9; have HLc := Aside0.mk hc9; clear hC9 hc9 hb9)
      | (go_at_call 19; refine (addNum 2 6 (-1) 1 3 5 [] A2 A9 c2 c9 _ HL.out HLc.out aw2).mono ?_; rintro e w5 ⟨v5, rfl, ho5, hb5⟩; obtain ⟨A5, c5, rfl⟩ := reads0 ho5; replace BK1 := Aside0.mk (cells_below BK1.out hb5); replace BK2 := Aside0.mk (cells_below BK2.out hb5); replace HB := Aside0.mk (below_then HB.out HB.out.size hb5); (have hq2_0 := (blk_cell BK2.out 0).trans (show (#[(.int .u64 2 : Value), (.int .i64 6 : Value), (.slice A2 0 c2 : Value)] : Array Value)[0]? = some (.int .u64 2) from rfl); have hqf2_0 := blk_frozen BK2.out 0; have hq2_1 := (blk_cell BK2.out 1).trans (show (#[(.int .u64 2 : Value), (.int .i64 6 : Value), (.slice A2 0 c2 : Value)] : Array Value)[1]? = some (.int .i64 6) from rfl); have hqf2_1 := blk_frozen BK2.out 1; have hq2_2 := (blk_cell BK2.out 2).trans (show (#[(.int .u64 2 : Value), (.int .i64 6 : Value), (.slice A2 0 c2 : Value)] : Array Value)[2]? = some (.slice A2 0 c2) from rfl); have hqf2_2 := blk_frozen BK2.out 2); clear ho5 hb5)
      | fail)
    have hn12 := blk_ne BK1.out BK2.out (by decide)
    have e0 : ((((w5.setCell ⟨g2, 0, none⟩ (.int .u64 3)).setCell ⟨g2, 1, none⟩ (.int .i64 5)).setCell ⟨g2, 2, none⟩ (.slice A5 0 c5))).heap.size = w5.heap.size := by simp
    have hba := below_alloc (Below.refl _ (((w5.setCell ⟨g2, 0, none⟩ (.int .u64 3)).setCell ⟨g2, 1, none⟩ (.int .i64 5)).setCell ⟨g2, 2, none⟩ (.slice A5 0 c5))) (.cells #[.int .i64 5, .int .i64 0] 23)
    have BK2n := Aside0.mk (blk_below (blk_set (blk_set (blk_set BK2.out 0 (.int .u64 3)) 1 (.int .i64 5)) 2 (.slice A5 0 c5)) hba)
    have BK1n := Aside0.mk (blk_below (blk_far (p := ⟨g2, 2, none⟩) (blk_far (p := ⟨g2, 1, none⟩) (blk_far (p := ⟨g2, 0, none⟩) BK1.out hn12 (.int .u64 3)) hn12 (.int .i64 5)) hn12 (.slice A5 0 c5)) hba)
    have BK3n := Aside0.mk (heap_alloc_new (((w5.setCell ⟨g2, 0, none⟩ (.int .u64 3)).setCell ⟨g2, 1, none⟩ (.int .i64 5)).setCell ⟨g2, 2, none⟩ (.slice A5 0 c5)) (.cells #[.int .i64 5, .int .i64 0] 23))
    have HBn := Aside0.mk (below_alloc' (below_set (j := 2) (v := .slice A5 0 c5) (below_set (j := 1) (v := .int .i64 5) (below_set (j := 0) (v := .int .u64 3) HB.out HG2.out) HG2.out) HG2.out) (.cells #[.int .i64 5, .int .i64 0] 23))
    rw [e0] at BK3n
    have HG3 := Aside0.mk (show w.heap.size ≤ w5.heap.size from HB.out.size)
    clear hba e0 BK1 BK2 HB
    obtain ⟨g3, hg3⟩ : ∃ g3, w5.heap.size = g3 := ⟨_, rfl⟩
    rw [hg3] at BK3n HG3 ⊢
    clear hg3
    generalize ((((w5.setCell ⟨g2, 0, none⟩ (.int .u64 3)).setCell ⟨g2, 1, none⟩ (.int .i64 5)).setCell ⟨g2, 2, none⟩ (.slice A5 0 c5))).alloc (.cells #[.int .i64 5, .int .i64 0] 23) = wb at *
    have c0 : wb.cell? ⟨g3, 0, none⟩ = some (.int .i64 5) := (blk_cell BK3n.out 0).trans rfl
    have c1 : wb.cell? ⟨g3, 1, none⟩ = some (.int .i64 0) := (blk_cell BK3n.out 1).trans rfl
    have HB := Aside0.mk (below_drew HBn.out)
    have BK1 := Aside0.mk (blk_drew BK1n.out)
    have BK2 := Aside0.mk (blk_drew BK2n.out)
    have BK3 := Aside0.mk (blk_drew BK3n.out)
    have HT := Aside0.mk (show ∀ q, q ∈ 9 :: Kd.string.E → q ≠ 33 by decide)
    clear HL HLc BK1n BK2n BK3n HBn
    go_cut [4] (fun s4 wx => ∃ (g4 : Nat) (A4 : Option Addr) (c4 : Nat), s4 = .pointer (some ⟨g4, 0, none⟩) ∧ Aside0 (wx.heap[g1]? = some (.cells #[.int .i64 2, .int .i64 0] 23 (0, 0))) ∧ Aside0 (wx.heap[g2]? = some (.cells #[.int .u64 3, .int .i64 5, .slice A5 0 c5] 33 (0, 0))) ∧ Aside0 (wx.heap[g3]? = some (.cells #[.int .i64 5, .int .i64 0] 23 (0, 0))) ∧ Aside0 (wx.heap[g4]? = some (.cells #[.int .u64 1, .int .i64 0, .slice A4 1 c4] 33 (0, 0))) ∧ Aside0 (Kd.C Kd.string wx A4 1 [strB]) ∧ Aside0 (1 ≤ c4) ∧ Aside0 (g2 ≠ g4) ∧ Aside0 (w.heap.size ≤ g4) ∧ Aside0 (Below w.heap.size w wx))
    case first =>
      have HL := Aside0.mk trivial
      refine start_ (n := 8) (S := fun w' => w'.cell? ⟨g3, 0, none⟩ = some (.int .i64 5) ∧ w'.cell? ⟨g3, 1, none⟩ = some (.int .i64 0)) (ds := [7]) #[false, false, false, false, false, false, false, false] (by kernel_rfl) rfl rfl ⟨c0, c1⟩ (fun hHeld => ?_)
      refine take_ (i := 0) (N := some 18) (v := ?_) (a' := ?_) #[true, false, false, false, false, false, false, false] rfl rfl (by kernel_rfl) (fun _ _ _ h => h) (Or.inl ⟨by rfl, ?_⟩) hHeld ?_ ?_
      rotate_left
      · rintro w' ⟨s0, s1⟩
        go_simp
        with_reducible rfl
      rotate_left
      · simp only [Act.put, List.setIfInBounds_toArray, List.set_cons_zero, List.set_cons_succ, i64_w, i32_w]
        rfl
      refine take_ (i := 1) (N := some 19) (v := ?_) (a' := ?_) #[true, true, false, false, false, false, false, false] rfl rfl (by kernel_rfl) (fun _ _ _ h => h) (Or.inl ⟨by rfl, ?_⟩) hHeld ?_ ?_
      rotate_left
      · rintro w' ⟨s0, s1⟩
        go_simp
        with_reducible rfl
      rotate_left
      · simp only [Act.put, List.setIfInBounds_toArray, List.set_cons_zero, List.set_cons_succ, i64_w, i32_w]
        rfl
      refine three_ (i := 2) (j := 3) (k := 6) (Ni := some 20) (Nj := some 21) (Nk := some 4) #[true, true, true, false, false, false, false, false] #[true, true, false, true, false, false, false, false] #[true, true, false, false, false, false, true, false] rfl rfl rfl rfl rfl rfl (by kernel_rfl) (by decide) (by decide) (by decide) (fun K hK => ?_) (fun K hK => ?_) (fun K hK => ?_)
      · skip
        refine goes_ Try.func18 (by kernel_rfl) rfl #[.agg #[.int .i64 5, .int .i64 0]] (by rfl) rfl rfl (by simp only [List.map_toArray, List.map_cons, List.map_nil]; rfl) ?_
        with_reducible refine (start0 5 0 _).mono ?_
        rintro e w3 ⟨A3, c3, rfl, hb3⟩
        refine ⟨_, rfl, ?_⟩
        replace HB := Aside0.mk (below_then HB.out HB.out.size hb3)
        replace BK1 := Aside0.mk (cells_below BK1.out hb3)
        replace BK2 := Aside0.mk (cells_below BK2.out hb3)
        replace BK3 := Aside0.mk (cells_below BK3.out hb3)
        try replace HL := Aside0.mk (Kd.C_below HL.out hb3)
        try replace hbox := Aside0.mk (cells_below hbox.out hb3)
        refine hK.out _ _ ⟨(pw_cell_below hb3 hHeld.1), (pw_cell_below hb3 hHeld.2)⟩ (fun hHeld => ?_)
        clear hK K
        refine norm_ (a' := ?_) ?_ ?_
        rotate_left
        · show Act.put _ (some 20) _ = _
          simp only [Act.put, List.setIfInBounds_toArray, List.set_cons_zero, List.set_cons_succ, i64_w, i32_w]
          rfl
        refine two_ (i := 3) (j := 6) (Ni := some 21) (Nj := some 4) #[true, true, true, true, false, false, false, false] #[true, true, true, false, false, false, true, false] rfl rfl rfl rfl (by kernel_rfl) (by decide) (by decide) (fun K hK => ?_) (fun K hK => ?_)
        · skip
          refine lit1_step Kd.string 9 (by rfl) (N := 21) (by rfl) (x := strB) (v := .string strB) ?hr (Reps.one (show Kd.M Kd.string _ _ _ strB [.string strB] from rfl) (Reps.none _ _)) ?_
          case hr => first | (go_simp; done) | (go_simp; rfl)
          intro A9 c9 w9 hC9 hc9 hb9
          replace HB := Aside0.mk (below_then HB.out HB.out.size hb9)
          replace BK1 := Aside0.mk (cells_below BK1.out hb9)
          replace BK2 := Aside0.mk (cells_below BK2.out hb9)
          replace BK3 := Aside0.mk (cells_below BK3.out hb9)
          replace HL := Aside0.mk hC9
          try replace hbox := Aside0.mk (cells_below hbox.out hb9)
          have HLc := Aside0.mk hc9
          clear hC9 hc9
          refine hK.out _ _ ⟨(pw_cell_below hb9 hHeld.1), (pw_cell_below hb9 hHeld.2)⟩ (fun hHeld => ?_)
          clear hK K
          refine norm_ (a' := ?_) ?_ ?_
          rotate_left
          · show Act.put _ (some 21) _ = _
            simp only [Act.put, List.setIfInBounds_toArray, List.set_cons_zero, List.set_cons_succ, i64_w, i32_w]
            rfl
          refine pure_ (i := 4) (N := some 22) (v := ?_) (a' := ?_) #[true, true, true, true, true, false, false, false] rfl rfl (by kernel_rfl) (fun _ _ _ h => h) (Or.inl ⟨by rfl, ?_⟩) ?_ ?_
          rotate_left
          · intro w'
            go_simp
            with_reducible rfl
          rotate_left
          · simp only [Act.put, List.setIfInBounds_toArray, List.set_cons_zero, List.set_cons_succ, i64_w, i32_w]
            rfl
          refine two_ (i := 5) (j := 6) (Ni := some 23) (Nj := some 4) #[true, true, true, true, true, true, false, false] #[true, true, true, true, true, false, true, false] rfl rfl rfl rfl (by kernel_rfl) (by decide) (by decide) (fun K hK => ?_) (fun K hK => ?_)
          · skip
            refine goes_ Try.func19 (by kernel_rfl) rfl #[.agg #[.int .i64 5, .int .i64 0], .agg #[.int .u64 0, .int .i64 0, .slice A3 0 c3], .agg #[.int .i64 0, .slice A9 1 c9, .slice none 0 0], .int .u64 1] (by rfl) rfl rfl (by simp only [List.map_toArray, List.map_cons, List.map_nil]; rfl) ?_
            with_reducible refine (addText strB 1 1 0 [strB] A3 A9 c3 c9 _ HL.out HLc.out aw3).mono ?_
            rintro e w5 ⟨v5, rfl, ho5, hb5⟩
            refine ⟨_, rfl, ?_⟩
            obtain ⟨A5, c5, rfl, hc5, hC5⟩ := reads1 ho5
            replace HB := Aside0.mk (below_then HB.out HB.out.size hb5)
            replace BK1 := Aside0.mk (cells_below BK1.out hb5)
            replace BK2 := Aside0.mk (cells_below BK2.out hb5)
            replace BK3 := Aside0.mk (cells_below BK3.out hb5)
            try replace hbox := Aside0.mk (cells_below hbox.out hb5)
            have HR5 := Aside0.mk ho5
            have HRc := Aside0.mk hc5
            clear ho5 hc5 hC5
            refine hK.out _ _ ⟨(pw_cell_below hb5 hHeld.1), (pw_cell_below hb5 hHeld.2)⟩ (fun hHeld => ?_)
            clear hK K
            refine norm_ (a' := ?_) ?_ ?_
            rotate_left
            · show Act.put _ (some 23) _ = _
              simp only [Act.put, List.setIfInBounds_toArray, List.set_cons_zero, List.set_cons_succ, i64_w, i32_w]
              rfl
            refine one_ (i := 6) (N := some 4) #[true, true, true, true, true, true, true, false] rfl rfl (by kernel_rfl) (by decide) (fun K hK => ?_)
            refine box_step (by rfl) (N := 4) (by rfl) (cs := #[.int .u64 0, .int .i64 0, .slice none 0 0]) (t := 33) ?hr ?_
            case hr => first | (go_simp; done) | (go_simp; rfl)
            intro g4 hg w6 hbox hb6
            have HG4 := Aside0.mk (show w.heap.size ≤ g4 by rw [hg]; exact HB.out.size)
            have hn14 : g1 ≠ g4 := (by have h1 := blk_lt BK1.out; rw [hg]; omega)
            have hn24 : g2 ≠ g4 := (by have h1 := blk_lt BK2.out; rw [hg]; omega)
            have hn34 : g3 ≠ g4 := (by have h1 := blk_lt BK3.out; rw [hg]; omega)
            replace HB := Aside0.mk (below_then HB.out HB.out.size hb6)
            replace BK1 := Aside0.mk (cells_below BK1.out hb6)
            replace BK2 := Aside0.mk (cells_below BK2.out hb6)
            replace BK3 := Aside0.mk (cells_below BK3.out hb6)
            try replace HL := Aside0.mk (Kd.C_below HL.out hb6)
            try replace HR5 := Aside0.mk (Kd.R_below HR5.out hb6)
            replace hbox := Aside0.mk hbox
            clear hg
            refine hK.out _ _ ⟨(pw_cell_below hb6 hHeld.1), (pw_cell_below hb6 hHeld.2)⟩ (fun hHeld => ?_)
            clear hK K
            refine norm_ (a' := ?_) ?_ ?_
            rotate_left
            · show Act.put _ (some 4) _ = _
              simp only [Act.put, List.setIfInBounds_toArray, List.set_cons_zero, List.set_cons_succ, i64_w, i32_w]
              rfl
            refine last_ (i := 7) (N := none) #[true, true, true, true, true, true, true, true] rfl rfl (by kernel_rfl) (by decide) (fun K hK => ?_)
            (have hq_0 := (blk_cell hbox.out 0).trans (show (#[(.int .u64 0 : Value), (.int .i64 0 : Value), (.slice none 0 0 : Value)] : Array Value)[0]? = some (.int .u64 0) from rfl); have hqf_0 := blk_frozen hbox.out 0; have hq_1 := (blk_cell hbox.out 1).trans (show (#[(.int .u64 0 : Value), (.int .i64 0 : Value), (.slice none 0 0 : Value)] : Array Value)[1]? = some (.int .i64 0) from rfl); have hqf_1 := blk_frozen hbox.out 1; have hq_2 := (blk_cell hbox.out 2).trans (show (#[(.int .u64 0 : Value), (.int .i64 0 : Value), (.slice none 0 0 : Value)] : Array Value)[2]? = some (.slice none 0 0) from rfl); have hqf_2 := blk_frozen hbox.out 2)
            refine skip_ (w1 := ?_) (by rfl) rfl ?_ ?_
            rotate_left
            · go_simp
              rfl
            refine hK.out _ _ ?_
            clear hK K
            refine done_ (by kernel_rfl) ?_
            go_wp2_with fail
            go_meet
            have b1 := blk_set hbox.out 0 (.int .u64 1)
            have b2 := blk_set b1 1 (.int .i64 0)
            have b3 := blk_set b2 2 (.slice A5 1 c5)
            have r1 := Kd.R_set (Kd.R_set (Kd.R_set HR5.out hbox.out HT.out 0 (.int .u64 1)) b1 HT.out 1 (.int .i64 0)) b2 HT.out 2 (.slice A5 1 c5)
            exact ⟨g4, A5, c5, rfl, ⟨blk_far (blk_far (blk_far BK1.out hn14 _) hn14 _) hn14 _⟩, ⟨blk_far (blk_far (blk_far BK2.out hn24 _) hn24 _) hn24 _⟩, ⟨blk_far (blk_far (blk_far BK3.out hn34 _) hn34 _) hn34 _⟩, ⟨b3⟩, ⟨(reads1' r1).2⟩, HRc, ⟨hn24⟩, HG4, ⟨below_set (below_set (below_set HB.out HG4.out) HG4.out) HG4.out⟩⟩
          · skip
            refine box_step (by rfl) (N := 4) (by rfl) (cs := #[.int .u64 0, .int .i64 0, .slice none 0 0]) (t := 33) ?hr ?_
            case hr => first | (go_simp; done) | (go_simp; rfl)
            intro g4 hg w6 hbox hb6
            have HG4 := Aside0.mk (show w.heap.size ≤ g4 by rw [hg]; exact HB.out.size)
            have hn14 : g1 ≠ g4 := (by have h1 := blk_lt BK1.out; rw [hg]; omega)
            have hn24 : g2 ≠ g4 := (by have h1 := blk_lt BK2.out; rw [hg]; omega)
            have hn34 : g3 ≠ g4 := (by have h1 := blk_lt BK3.out; rw [hg]; omega)
            replace HB := Aside0.mk (below_then HB.out HB.out.size hb6)
            replace BK1 := Aside0.mk (cells_below BK1.out hb6)
            replace BK2 := Aside0.mk (cells_below BK2.out hb6)
            replace BK3 := Aside0.mk (cells_below BK3.out hb6)
            try replace HL := Aside0.mk (Kd.C_below HL.out hb6)
            try replace HR5 := Aside0.mk (Kd.R_below HR5.out hb6)
            replace hbox := Aside0.mk hbox
            clear hg
            refine hK.out _ _ ⟨(pw_cell_below hb6 hHeld.1), (pw_cell_below hb6 hHeld.2)⟩ (fun hHeld => ?_)
            clear hK K
            refine norm_ (a' := ?_) ?_ ?_
            rotate_left
            · show Act.put _ (some 4) _ = _
              simp only [Act.put, List.setIfInBounds_toArray, List.set_cons_zero, List.set_cons_succ, i64_w, i32_w]
              rfl
            refine one_ (i := 5) (N := some 23) #[true, true, true, true, true, true, true, false] rfl rfl (by kernel_rfl) (by decide) (fun K hK => ?_)
            refine goes_ Try.func19 (by kernel_rfl) rfl #[.agg #[.int .i64 5, .int .i64 0], .agg #[.int .u64 0, .int .i64 0, .slice A3 0 c3], .agg #[.int .i64 0, .slice A9 1 c9, .slice none 0 0], .int .u64 1] (by rfl) rfl rfl (by simp only [List.map_toArray, List.map_cons, List.map_nil]; rfl) ?_
            with_reducible refine (addText strB 1 1 0 [strB] A3 A9 c3 c9 _ HL.out HLc.out aw3).mono ?_
            rintro e w5 ⟨v5, rfl, ho5, hb5⟩
            refine ⟨_, rfl, ?_⟩
            obtain ⟨A5, c5, rfl, hc5, hC5⟩ := reads1 ho5
            replace HB := Aside0.mk (below_then HB.out HB.out.size hb5)
            replace BK1 := Aside0.mk (cells_below BK1.out hb5)
            replace BK2 := Aside0.mk (cells_below BK2.out hb5)
            replace BK3 := Aside0.mk (cells_below BK3.out hb5)
            try replace hbox := Aside0.mk (cells_below hbox.out hb5)
            have HR5 := Aside0.mk ho5
            have HRc := Aside0.mk hc5
            clear ho5 hc5 hC5
            refine hK.out _ _ ⟨(pw_cell_below hb5 hHeld.1), (pw_cell_below hb5 hHeld.2)⟩ (fun hHeld => ?_)
            clear hK K
            refine norm_ (a' := ?_) ?_ ?_
            rotate_left
            · show Act.put _ (some 23) _ = _
              simp only [Act.put, List.setIfInBounds_toArray, List.set_cons_zero, List.set_cons_succ, i64_w, i32_w]
              rfl
            refine last_ (i := 7) (N := none) #[true, true, true, true, true, true, true, true] rfl rfl (by kernel_rfl) (by decide) (fun K hK => ?_)
            (have hq_0 := (blk_cell hbox.out 0).trans (show (#[(.int .u64 0 : Value), (.int .i64 0 : Value), (.slice none 0 0 : Value)] : Array Value)[0]? = some (.int .u64 0) from rfl); have hqf_0 := blk_frozen hbox.out 0; have hq_1 := (blk_cell hbox.out 1).trans (show (#[(.int .u64 0 : Value), (.int .i64 0 : Value), (.slice none 0 0 : Value)] : Array Value)[1]? = some (.int .i64 0) from rfl); have hqf_1 := blk_frozen hbox.out 1; have hq_2 := (blk_cell hbox.out 2).trans (show (#[(.int .u64 0 : Value), (.int .i64 0 : Value), (.slice none 0 0 : Value)] : Array Value)[2]? = some (.slice none 0 0) from rfl); have hqf_2 := blk_frozen hbox.out 2)
            refine skip_ (w1 := ?_) (by rfl) rfl ?_ ?_
            rotate_left
            · go_simp
              rfl
            refine hK.out _ _ ?_
            clear hK K
            refine done_ (by kernel_rfl) ?_
            go_wp2_with fail
            go_meet
            have b1 := blk_set hbox.out 0 (.int .u64 1)
            have b2 := blk_set b1 1 (.int .i64 0)
            have b3 := blk_set b2 2 (.slice A5 1 c5)
            have r1 := Kd.R_set (Kd.R_set (Kd.R_set HR5.out hbox.out HT.out 0 (.int .u64 1)) b1 HT.out 1 (.int .i64 0)) b2 HT.out 2 (.slice A5 1 c5)
            exact ⟨g4, A5, c5, rfl, ⟨blk_far (blk_far (blk_far BK1.out hn14 _) hn14 _) hn14 _⟩, ⟨blk_far (blk_far (blk_far BK2.out hn24 _) hn24 _) hn24 _⟩, ⟨blk_far (blk_far (blk_far BK3.out hn34 _) hn34 _) hn34 _⟩, ⟨b3⟩, ⟨(reads1' r1).2⟩, HRc, ⟨hn24⟩, HG4, ⟨below_set (below_set (below_set HB.out HG4.out) HG4.out) HG4.out⟩⟩
        · skip
          refine box_step (by rfl) (N := 4) (by rfl) (cs := #[.int .u64 0, .int .i64 0, .slice none 0 0]) (t := 33) ?hr ?_
          case hr => first | (go_simp; done) | (go_simp; rfl)
          intro g4 hg w6 hbox hb6
          have HG4 := Aside0.mk (show w.heap.size ≤ g4 by rw [hg]; exact HB.out.size)
          have hn14 : g1 ≠ g4 := (by have h1 := blk_lt BK1.out; rw [hg]; omega)
          have hn24 : g2 ≠ g4 := (by have h1 := blk_lt BK2.out; rw [hg]; omega)
          have hn34 : g3 ≠ g4 := (by have h1 := blk_lt BK3.out; rw [hg]; omega)
          replace HB := Aside0.mk (below_then HB.out HB.out.size hb6)
          replace BK1 := Aside0.mk (cells_below BK1.out hb6)
          replace BK2 := Aside0.mk (cells_below BK2.out hb6)
          replace BK3 := Aside0.mk (cells_below BK3.out hb6)
          try replace HL := Aside0.mk (Kd.C_below HL.out hb6)
          try replace HR5 := Aside0.mk (Kd.R_below HR5.out hb6)
          replace hbox := Aside0.mk hbox
          clear hg
          refine hK.out _ _ ⟨(pw_cell_below hb6 hHeld.1), (pw_cell_below hb6 hHeld.2)⟩ (fun hHeld => ?_)
          clear hK K
          refine norm_ (a' := ?_) ?_ ?_
          rotate_left
          · show Act.put _ (some 4) _ = _
            simp only [Act.put, List.setIfInBounds_toArray, List.set_cons_zero, List.set_cons_succ, i64_w, i32_w]
            rfl
          refine one_ (i := 3) (N := some 21) #[true, true, true, true, false, false, true, false] rfl rfl (by kernel_rfl) (by decide) (fun K hK => ?_)
          refine lit1_step Kd.string 9 (by rfl) (N := 21) (by rfl) (x := strB) (v := .string strB) ?hr (Reps.one (show Kd.M Kd.string _ _ _ strB [.string strB] from rfl) (Reps.none _ _)) ?_
          case hr => first | (go_simp; done) | (go_simp; rfl)
          intro A9 c9 w9 hC9 hc9 hb9
          replace HB := Aside0.mk (below_then HB.out HB.out.size hb9)
          replace BK1 := Aside0.mk (cells_below BK1.out hb9)
          replace BK2 := Aside0.mk (cells_below BK2.out hb9)
          replace BK3 := Aside0.mk (cells_below BK3.out hb9)
          replace HL := Aside0.mk hC9
          try replace hbox := Aside0.mk (cells_below hbox.out hb9)
          have HLc := Aside0.mk hc9
          clear hC9 hc9
          refine hK.out _ _ ⟨(pw_cell_below hb9 hHeld.1), (pw_cell_below hb9 hHeld.2)⟩ (fun hHeld => ?_)
          clear hK K
          refine norm_ (a' := ?_) ?_ ?_
          rotate_left
          · show Act.put _ (some 21) _ = _
            simp only [Act.put, List.setIfInBounds_toArray, List.set_cons_zero, List.set_cons_succ, i64_w, i32_w]
            rfl
          refine pure_ (i := 4) (N := some 22) (v := ?_) (a' := ?_) #[true, true, true, true, true, false, true, false] rfl rfl (by kernel_rfl) (fun _ _ _ h => h) (Or.inl ⟨by rfl, ?_⟩) ?_ ?_
          rotate_left
          · intro w'
            go_simp
            with_reducible rfl
          rotate_left
          · simp only [Act.put, List.setIfInBounds_toArray, List.set_cons_zero, List.set_cons_succ, i64_w, i32_w]
            rfl
          refine one_ (i := 5) (N := some 23) #[true, true, true, true, true, true, true, false] rfl rfl (by kernel_rfl) (by decide) (fun K hK => ?_)
          refine goes_ Try.func19 (by kernel_rfl) rfl #[.agg #[.int .i64 5, .int .i64 0], .agg #[.int .u64 0, .int .i64 0, .slice A3 0 c3], .agg #[.int .i64 0, .slice A9 1 c9, .slice none 0 0], .int .u64 1] (by rfl) rfl rfl (by simp only [List.map_toArray, List.map_cons, List.map_nil]; rfl) ?_
          with_reducible refine (addText strB 1 1 0 [strB] A3 A9 c3 c9 _ HL.out HLc.out aw3).mono ?_
          rintro e w5 ⟨v5, rfl, ho5, hb5⟩
          refine ⟨_, rfl, ?_⟩
          obtain ⟨A5, c5, rfl, hc5, hC5⟩ := reads1 ho5
          replace HB := Aside0.mk (below_then HB.out HB.out.size hb5)
          replace BK1 := Aside0.mk (cells_below BK1.out hb5)
          replace BK2 := Aside0.mk (cells_below BK2.out hb5)
          replace BK3 := Aside0.mk (cells_below BK3.out hb5)
          try replace hbox := Aside0.mk (cells_below hbox.out hb5)
          have HR5 := Aside0.mk ho5
          have HRc := Aside0.mk hc5
          clear ho5 hc5 hC5
          refine hK.out _ _ ⟨(pw_cell_below hb5 hHeld.1), (pw_cell_below hb5 hHeld.2)⟩ (fun hHeld => ?_)
          clear hK K
          refine norm_ (a' := ?_) ?_ ?_
          rotate_left
          · show Act.put _ (some 23) _ = _
            simp only [Act.put, List.setIfInBounds_toArray, List.set_cons_zero, List.set_cons_succ, i64_w, i32_w]
            rfl
          refine last_ (i := 7) (N := none) #[true, true, true, true, true, true, true, true] rfl rfl (by kernel_rfl) (by decide) (fun K hK => ?_)
          (have hq_0 := (blk_cell hbox.out 0).trans (show (#[(.int .u64 0 : Value), (.int .i64 0 : Value), (.slice none 0 0 : Value)] : Array Value)[0]? = some (.int .u64 0) from rfl); have hqf_0 := blk_frozen hbox.out 0; have hq_1 := (blk_cell hbox.out 1).trans (show (#[(.int .u64 0 : Value), (.int .i64 0 : Value), (.slice none 0 0 : Value)] : Array Value)[1]? = some (.int .i64 0) from rfl); have hqf_1 := blk_frozen hbox.out 1; have hq_2 := (blk_cell hbox.out 2).trans (show (#[(.int .u64 0 : Value), (.int .i64 0 : Value), (.slice none 0 0 : Value)] : Array Value)[2]? = some (.slice none 0 0) from rfl); have hqf_2 := blk_frozen hbox.out 2)
          refine skip_ (w1 := ?_) (by rfl) rfl ?_ ?_
          rotate_left
          · go_simp
            rfl
          refine hK.out _ _ ?_
          clear hK K
          refine done_ (by kernel_rfl) ?_
          go_wp2_with fail
          go_meet
          have b1 := blk_set hbox.out 0 (.int .u64 1)
          have b2 := blk_set b1 1 (.int .i64 0)
          have b3 := blk_set b2 2 (.slice A5 1 c5)
          have r1 := Kd.R_set (Kd.R_set (Kd.R_set HR5.out hbox.out HT.out 0 (.int .u64 1)) b1 HT.out 1 (.int .i64 0)) b2 HT.out 2 (.slice A5 1 c5)
          exact ⟨g4, A5, c5, rfl, ⟨blk_far (blk_far (blk_far BK1.out hn14 _) hn14 _) hn14 _⟩, ⟨blk_far (blk_far (blk_far BK2.out hn24 _) hn24 _) hn24 _⟩, ⟨blk_far (blk_far (blk_far BK3.out hn34 _) hn34 _) hn34 _⟩, ⟨b3⟩, ⟨(reads1' r1).2⟩, HRc, ⟨hn24⟩, HG4, ⟨below_set (below_set (below_set HB.out HG4.out) HG4.out) HG4.out⟩⟩
      · skip
        refine lit1_step Kd.string 9 (by rfl) (N := 21) (by rfl) (x := strB) (v := .string strB) ?hr (Reps.one (show Kd.M Kd.string _ _ _ strB [.string strB] from rfl) (Reps.none _ _)) ?_
        case hr => first | (go_simp; done) | (go_simp; rfl)
        intro A9 c9 w9 hC9 hc9 hb9
        replace HB := Aside0.mk (below_then HB.out HB.out.size hb9)
        replace BK1 := Aside0.mk (cells_below BK1.out hb9)
        replace BK2 := Aside0.mk (cells_below BK2.out hb9)
        replace BK3 := Aside0.mk (cells_below BK3.out hb9)
        replace HL := Aside0.mk hC9
        try replace hbox := Aside0.mk (cells_below hbox.out hb9)
        have HLc := Aside0.mk hc9
        clear hC9 hc9
        refine hK.out _ _ ⟨(pw_cell_below hb9 hHeld.1), (pw_cell_below hb9 hHeld.2)⟩ (fun hHeld => ?_)
        clear hK K
        refine norm_ (a' := ?_) ?_ ?_
        rotate_left
        · show Act.put _ (some 21) _ = _
          simp only [Act.put, List.setIfInBounds_toArray, List.set_cons_zero, List.set_cons_succ, i64_w, i32_w]
          rfl
        refine pure_ (i := 4) (N := some 22) (v := ?_) (a' := ?_) #[true, true, false, true, true, false, false, false] rfl rfl (by kernel_rfl) (fun _ _ _ h => h) (Or.inl ⟨by rfl, ?_⟩) ?_ ?_
        rotate_left
        · intro w'
          go_simp
          with_reducible rfl
        rotate_left
        · simp only [Act.put, List.setIfInBounds_toArray, List.set_cons_zero, List.set_cons_succ, i64_w, i32_w]
          rfl
        refine two_ (i := 2) (j := 6) (Ni := some 20) (Nj := some 4) #[true, true, true, true, true, false, false, false] #[true, true, false, true, true, false, true, false] rfl rfl rfl rfl (by kernel_rfl) (by decide) (by decide) (fun K hK => ?_) (fun K hK => ?_)
        · skip
          refine goes_ Try.func18 (by kernel_rfl) rfl #[.agg #[.int .i64 5, .int .i64 0]] (by rfl) rfl rfl (by simp only [List.map_toArray, List.map_cons, List.map_nil]; rfl) ?_
          with_reducible refine (start0 5 0 _).mono ?_
          rintro e w3 ⟨A3, c3, rfl, hb3⟩
          refine ⟨_, rfl, ?_⟩
          replace HB := Aside0.mk (below_then HB.out HB.out.size hb3)
          replace BK1 := Aside0.mk (cells_below BK1.out hb3)
          replace BK2 := Aside0.mk (cells_below BK2.out hb3)
          replace BK3 := Aside0.mk (cells_below BK3.out hb3)
          try replace HL := Aside0.mk (Kd.C_below HL.out hb3)
          try replace hbox := Aside0.mk (cells_below hbox.out hb3)
          refine hK.out _ _ ⟨(pw_cell_below hb3 hHeld.1), (pw_cell_below hb3 hHeld.2)⟩ (fun hHeld => ?_)
          clear hK K
          refine norm_ (a' := ?_) ?_ ?_
          rotate_left
          · show Act.put _ (some 20) _ = _
            simp only [Act.put, List.setIfInBounds_toArray, List.set_cons_zero, List.set_cons_succ, i64_w, i32_w]
            rfl
          refine two_ (i := 5) (j := 6) (Ni := some 23) (Nj := some 4) #[true, true, true, true, true, true, false, false] #[true, true, true, true, true, false, true, false] rfl rfl rfl rfl (by kernel_rfl) (by decide) (by decide) (fun K hK => ?_) (fun K hK => ?_)
          · skip
            refine goes_ Try.func19 (by kernel_rfl) rfl #[.agg #[.int .i64 5, .int .i64 0], .agg #[.int .u64 0, .int .i64 0, .slice A3 0 c3], .agg #[.int .i64 0, .slice A9 1 c9, .slice none 0 0], .int .u64 1] (by rfl) rfl rfl (by simp only [List.map_toArray, List.map_cons, List.map_nil]; rfl) ?_
            with_reducible refine (addText strB 1 1 0 [strB] A3 A9 c3 c9 _ HL.out HLc.out aw3).mono ?_
            rintro e w5 ⟨v5, rfl, ho5, hb5⟩
            refine ⟨_, rfl, ?_⟩
            obtain ⟨A5, c5, rfl, hc5, hC5⟩ := reads1 ho5
            replace HB := Aside0.mk (below_then HB.out HB.out.size hb5)
            replace BK1 := Aside0.mk (cells_below BK1.out hb5)
            replace BK2 := Aside0.mk (cells_below BK2.out hb5)
            replace BK3 := Aside0.mk (cells_below BK3.out hb5)
            try replace hbox := Aside0.mk (cells_below hbox.out hb5)
            have HR5 := Aside0.mk ho5
            have HRc := Aside0.mk hc5
            clear ho5 hc5 hC5
            refine hK.out _ _ ⟨(pw_cell_below hb5 hHeld.1), (pw_cell_below hb5 hHeld.2)⟩ (fun hHeld => ?_)
            clear hK K
            refine norm_ (a' := ?_) ?_ ?_
            rotate_left
            · show Act.put _ (some 23) _ = _
              simp only [Act.put, List.setIfInBounds_toArray, List.set_cons_zero, List.set_cons_succ, i64_w, i32_w]
              rfl
            refine one_ (i := 6) (N := some 4) #[true, true, true, true, true, true, true, false] rfl rfl (by kernel_rfl) (by decide) (fun K hK => ?_)
            refine box_step (by rfl) (N := 4) (by rfl) (cs := #[.int .u64 0, .int .i64 0, .slice none 0 0]) (t := 33) ?hr ?_
            case hr => first | (go_simp; done) | (go_simp; rfl)
            intro g4 hg w6 hbox hb6
            have HG4 := Aside0.mk (show w.heap.size ≤ g4 by rw [hg]; exact HB.out.size)
            have hn14 : g1 ≠ g4 := (by have h1 := blk_lt BK1.out; rw [hg]; omega)
            have hn24 : g2 ≠ g4 := (by have h1 := blk_lt BK2.out; rw [hg]; omega)
            have hn34 : g3 ≠ g4 := (by have h1 := blk_lt BK3.out; rw [hg]; omega)
            replace HB := Aside0.mk (below_then HB.out HB.out.size hb6)
            replace BK1 := Aside0.mk (cells_below BK1.out hb6)
            replace BK2 := Aside0.mk (cells_below BK2.out hb6)
            replace BK3 := Aside0.mk (cells_below BK3.out hb6)
            try replace HL := Aside0.mk (Kd.C_below HL.out hb6)
            try replace HR5 := Aside0.mk (Kd.R_below HR5.out hb6)
            replace hbox := Aside0.mk hbox
            clear hg
            refine hK.out _ _ ⟨(pw_cell_below hb6 hHeld.1), (pw_cell_below hb6 hHeld.2)⟩ (fun hHeld => ?_)
            clear hK K
            refine norm_ (a' := ?_) ?_ ?_
            rotate_left
            · show Act.put _ (some 4) _ = _
              simp only [Act.put, List.setIfInBounds_toArray, List.set_cons_zero, List.set_cons_succ, i64_w, i32_w]
              rfl
            refine last_ (i := 7) (N := none) #[true, true, true, true, true, true, true, true] rfl rfl (by kernel_rfl) (by decide) (fun K hK => ?_)
            (have hq_0 := (blk_cell hbox.out 0).trans (show (#[(.int .u64 0 : Value), (.int .i64 0 : Value), (.slice none 0 0 : Value)] : Array Value)[0]? = some (.int .u64 0) from rfl); have hqf_0 := blk_frozen hbox.out 0; have hq_1 := (blk_cell hbox.out 1).trans (show (#[(.int .u64 0 : Value), (.int .i64 0 : Value), (.slice none 0 0 : Value)] : Array Value)[1]? = some (.int .i64 0) from rfl); have hqf_1 := blk_frozen hbox.out 1; have hq_2 := (blk_cell hbox.out 2).trans (show (#[(.int .u64 0 : Value), (.int .i64 0 : Value), (.slice none 0 0 : Value)] : Array Value)[2]? = some (.slice none 0 0) from rfl); have hqf_2 := blk_frozen hbox.out 2)
            refine skip_ (w1 := ?_) (by rfl) rfl ?_ ?_
            rotate_left
            · go_simp
              rfl
            refine hK.out _ _ ?_
            clear hK K
            refine done_ (by kernel_rfl) ?_
            go_wp2_with fail
            go_meet
            have b1 := blk_set hbox.out 0 (.int .u64 1)
            have b2 := blk_set b1 1 (.int .i64 0)
            have b3 := blk_set b2 2 (.slice A5 1 c5)
            have r1 := Kd.R_set (Kd.R_set (Kd.R_set HR5.out hbox.out HT.out 0 (.int .u64 1)) b1 HT.out 1 (.int .i64 0)) b2 HT.out 2 (.slice A5 1 c5)
            exact ⟨g4, A5, c5, rfl, ⟨blk_far (blk_far (blk_far BK1.out hn14 _) hn14 _) hn14 _⟩, ⟨blk_far (blk_far (blk_far BK2.out hn24 _) hn24 _) hn24 _⟩, ⟨blk_far (blk_far (blk_far BK3.out hn34 _) hn34 _) hn34 _⟩, ⟨b3⟩, ⟨(reads1' r1).2⟩, HRc, ⟨hn24⟩, HG4, ⟨below_set (below_set (below_set HB.out HG4.out) HG4.out) HG4.out⟩⟩
          · skip
            refine box_step (by rfl) (N := 4) (by rfl) (cs := #[.int .u64 0, .int .i64 0, .slice none 0 0]) (t := 33) ?hr ?_
            case hr => first | (go_simp; done) | (go_simp; rfl)
            intro g4 hg w6 hbox hb6
            have HG4 := Aside0.mk (show w.heap.size ≤ g4 by rw [hg]; exact HB.out.size)
            have hn14 : g1 ≠ g4 := (by have h1 := blk_lt BK1.out; rw [hg]; omega)
            have hn24 : g2 ≠ g4 := (by have h1 := blk_lt BK2.out; rw [hg]; omega)
            have hn34 : g3 ≠ g4 := (by have h1 := blk_lt BK3.out; rw [hg]; omega)
            replace HB := Aside0.mk (below_then HB.out HB.out.size hb6)
            replace BK1 := Aside0.mk (cells_below BK1.out hb6)
            replace BK2 := Aside0.mk (cells_below BK2.out hb6)
            replace BK3 := Aside0.mk (cells_below BK3.out hb6)
            try replace HL := Aside0.mk (Kd.C_below HL.out hb6)
            try replace HR5 := Aside0.mk (Kd.R_below HR5.out hb6)
            replace hbox := Aside0.mk hbox
            clear hg
            refine hK.out _ _ ⟨(pw_cell_below hb6 hHeld.1), (pw_cell_below hb6 hHeld.2)⟩ (fun hHeld => ?_)
            clear hK K
            refine norm_ (a' := ?_) ?_ ?_
            rotate_left
            · show Act.put _ (some 4) _ = _
              simp only [Act.put, List.setIfInBounds_toArray, List.set_cons_zero, List.set_cons_succ, i64_w, i32_w]
              rfl
            refine one_ (i := 5) (N := some 23) #[true, true, true, true, true, true, true, false] rfl rfl (by kernel_rfl) (by decide) (fun K hK => ?_)
            refine goes_ Try.func19 (by kernel_rfl) rfl #[.agg #[.int .i64 5, .int .i64 0], .agg #[.int .u64 0, .int .i64 0, .slice A3 0 c3], .agg #[.int .i64 0, .slice A9 1 c9, .slice none 0 0], .int .u64 1] (by rfl) rfl rfl (by simp only [List.map_toArray, List.map_cons, List.map_nil]; rfl) ?_
            with_reducible refine (addText strB 1 1 0 [strB] A3 A9 c3 c9 _ HL.out HLc.out aw3).mono ?_
            rintro e w5 ⟨v5, rfl, ho5, hb5⟩
            refine ⟨_, rfl, ?_⟩
            obtain ⟨A5, c5, rfl, hc5, hC5⟩ := reads1 ho5
            replace HB := Aside0.mk (below_then HB.out HB.out.size hb5)
            replace BK1 := Aside0.mk (cells_below BK1.out hb5)
            replace BK2 := Aside0.mk (cells_below BK2.out hb5)
            replace BK3 := Aside0.mk (cells_below BK3.out hb5)
            try replace hbox := Aside0.mk (cells_below hbox.out hb5)
            have HR5 := Aside0.mk ho5
            have HRc := Aside0.mk hc5
            clear ho5 hc5 hC5
            refine hK.out _ _ ⟨(pw_cell_below hb5 hHeld.1), (pw_cell_below hb5 hHeld.2)⟩ (fun hHeld => ?_)
            clear hK K
            refine norm_ (a' := ?_) ?_ ?_
            rotate_left
            · show Act.put _ (some 23) _ = _
              simp only [Act.put, List.setIfInBounds_toArray, List.set_cons_zero, List.set_cons_succ, i64_w, i32_w]
              rfl
            refine last_ (i := 7) (N := none) #[true, true, true, true, true, true, true, true] rfl rfl (by kernel_rfl) (by decide) (fun K hK => ?_)
            (have hq_0 := (blk_cell hbox.out 0).trans (show (#[(.int .u64 0 : Value), (.int .i64 0 : Value), (.slice none 0 0 : Value)] : Array Value)[0]? = some (.int .u64 0) from rfl); have hqf_0 := blk_frozen hbox.out 0; have hq_1 := (blk_cell hbox.out 1).trans (show (#[(.int .u64 0 : Value), (.int .i64 0 : Value), (.slice none 0 0 : Value)] : Array Value)[1]? = some (.int .i64 0) from rfl); have hqf_1 := blk_frozen hbox.out 1; have hq_2 := (blk_cell hbox.out 2).trans (show (#[(.int .u64 0 : Value), (.int .i64 0 : Value), (.slice none 0 0 : Value)] : Array Value)[2]? = some (.slice none 0 0) from rfl); have hqf_2 := blk_frozen hbox.out 2)
            refine skip_ (w1 := ?_) (by rfl) rfl ?_ ?_
            rotate_left
            · go_simp
              rfl
            refine hK.out _ _ ?_
            clear hK K
            refine done_ (by kernel_rfl) ?_
            go_wp2_with fail
            go_meet
            have b1 := blk_set hbox.out 0 (.int .u64 1)
            have b2 := blk_set b1 1 (.int .i64 0)
            have b3 := blk_set b2 2 (.slice A5 1 c5)
            have r1 := Kd.R_set (Kd.R_set (Kd.R_set HR5.out hbox.out HT.out 0 (.int .u64 1)) b1 HT.out 1 (.int .i64 0)) b2 HT.out 2 (.slice A5 1 c5)
            exact ⟨g4, A5, c5, rfl, ⟨blk_far (blk_far (blk_far BK1.out hn14 _) hn14 _) hn14 _⟩, ⟨blk_far (blk_far (blk_far BK2.out hn24 _) hn24 _) hn24 _⟩, ⟨blk_far (blk_far (blk_far BK3.out hn34 _) hn34 _) hn34 _⟩, ⟨b3⟩, ⟨(reads1' r1).2⟩, HRc, ⟨hn24⟩, HG4, ⟨below_set (below_set (below_set HB.out HG4.out) HG4.out) HG4.out⟩⟩
        · skip
          refine box_step (by rfl) (N := 4) (by rfl) (cs := #[.int .u64 0, .int .i64 0, .slice none 0 0]) (t := 33) ?hr ?_
          case hr => first | (go_simp; done) | (go_simp; rfl)
          intro g4 hg w6 hbox hb6
          have HG4 := Aside0.mk (show w.heap.size ≤ g4 by rw [hg]; exact HB.out.size)
          have hn14 : g1 ≠ g4 := (by have h1 := blk_lt BK1.out; rw [hg]; omega)
          have hn24 : g2 ≠ g4 := (by have h1 := blk_lt BK2.out; rw [hg]; omega)
          have hn34 : g3 ≠ g4 := (by have h1 := blk_lt BK3.out; rw [hg]; omega)
          replace HB := Aside0.mk (below_then HB.out HB.out.size hb6)
          replace BK1 := Aside0.mk (cells_below BK1.out hb6)
          replace BK2 := Aside0.mk (cells_below BK2.out hb6)
          replace BK3 := Aside0.mk (cells_below BK3.out hb6)
          try replace HL := Aside0.mk (Kd.C_below HL.out hb6)
          try replace HR5 := Aside0.mk (Kd.R_below HR5.out hb6)
          replace hbox := Aside0.mk hbox
          clear hg
          refine hK.out _ _ ⟨(pw_cell_below hb6 hHeld.1), (pw_cell_below hb6 hHeld.2)⟩ (fun hHeld => ?_)
          clear hK K
          refine norm_ (a' := ?_) ?_ ?_
          rotate_left
          · show Act.put _ (some 4) _ = _
            simp only [Act.put, List.setIfInBounds_toArray, List.set_cons_zero, List.set_cons_succ, i64_w, i32_w]
            rfl
          refine one_ (i := 2) (N := some 20) #[true, true, true, true, true, false, true, false] rfl rfl (by kernel_rfl) (by decide) (fun K hK => ?_)
          refine goes_ Try.func18 (by kernel_rfl) rfl #[.agg #[.int .i64 5, .int .i64 0]] (by rfl) rfl rfl (by simp only [List.map_toArray, List.map_cons, List.map_nil]; rfl) ?_
          with_reducible refine (start0 5 0 _).mono ?_
          rintro e w3 ⟨A3, c3, rfl, hb3⟩
          refine ⟨_, rfl, ?_⟩
          replace HB := Aside0.mk (below_then HB.out HB.out.size hb3)
          replace BK1 := Aside0.mk (cells_below BK1.out hb3)
          replace BK2 := Aside0.mk (cells_below BK2.out hb3)
          replace BK3 := Aside0.mk (cells_below BK3.out hb3)
          try replace HL := Aside0.mk (Kd.C_below HL.out hb3)
          try replace hbox := Aside0.mk (cells_below hbox.out hb3)
          refine hK.out _ _ ⟨(pw_cell_below hb3 hHeld.1), (pw_cell_below hb3 hHeld.2)⟩ (fun hHeld => ?_)
          clear hK K
          refine norm_ (a' := ?_) ?_ ?_
          rotate_left
          · show Act.put _ (some 20) _ = _
            simp only [Act.put, List.setIfInBounds_toArray, List.set_cons_zero, List.set_cons_succ, i64_w, i32_w]
            rfl
          refine one_ (i := 5) (N := some 23) #[true, true, true, true, true, true, true, false] rfl rfl (by kernel_rfl) (by decide) (fun K hK => ?_)
          refine goes_ Try.func19 (by kernel_rfl) rfl #[.agg #[.int .i64 5, .int .i64 0], .agg #[.int .u64 0, .int .i64 0, .slice A3 0 c3], .agg #[.int .i64 0, .slice A9 1 c9, .slice none 0 0], .int .u64 1] (by rfl) rfl rfl (by simp only [List.map_toArray, List.map_cons, List.map_nil]; rfl) ?_
          with_reducible refine (addText strB 1 1 0 [strB] A3 A9 c3 c9 _ HL.out HLc.out aw3).mono ?_
          rintro e w5 ⟨v5, rfl, ho5, hb5⟩
          refine ⟨_, rfl, ?_⟩
          obtain ⟨A5, c5, rfl, hc5, hC5⟩ := reads1 ho5
          replace HB := Aside0.mk (below_then HB.out HB.out.size hb5)
          replace BK1 := Aside0.mk (cells_below BK1.out hb5)
          replace BK2 := Aside0.mk (cells_below BK2.out hb5)
          replace BK3 := Aside0.mk (cells_below BK3.out hb5)
          try replace hbox := Aside0.mk (cells_below hbox.out hb5)
          have HR5 := Aside0.mk ho5
          have HRc := Aside0.mk hc5
          clear ho5 hc5 hC5
          refine hK.out _ _ ⟨(pw_cell_below hb5 hHeld.1), (pw_cell_below hb5 hHeld.2)⟩ (fun hHeld => ?_)
          clear hK K
          refine norm_ (a' := ?_) ?_ ?_
          rotate_left
          · show Act.put _ (some 23) _ = _
            simp only [Act.put, List.setIfInBounds_toArray, List.set_cons_zero, List.set_cons_succ, i64_w, i32_w]
            rfl
          refine last_ (i := 7) (N := none) #[true, true, true, true, true, true, true, true] rfl rfl (by kernel_rfl) (by decide) (fun K hK => ?_)
          (have hq_0 := (blk_cell hbox.out 0).trans (show (#[(.int .u64 0 : Value), (.int .i64 0 : Value), (.slice none 0 0 : Value)] : Array Value)[0]? = some (.int .u64 0) from rfl); have hqf_0 := blk_frozen hbox.out 0; have hq_1 := (blk_cell hbox.out 1).trans (show (#[(.int .u64 0 : Value), (.int .i64 0 : Value), (.slice none 0 0 : Value)] : Array Value)[1]? = some (.int .i64 0) from rfl); have hqf_1 := blk_frozen hbox.out 1; have hq_2 := (blk_cell hbox.out 2).trans (show (#[(.int .u64 0 : Value), (.int .i64 0 : Value), (.slice none 0 0 : Value)] : Array Value)[2]? = some (.slice none 0 0) from rfl); have hqf_2 := blk_frozen hbox.out 2)
          refine skip_ (w1 := ?_) (by rfl) rfl ?_ ?_
          rotate_left
          · go_simp
            rfl
          refine hK.out _ _ ?_
          clear hK K
          refine done_ (by kernel_rfl) ?_
          go_wp2_with fail
          go_meet
          have b1 := blk_set hbox.out 0 (.int .u64 1)
          have b2 := blk_set b1 1 (.int .i64 0)
          have b3 := blk_set b2 2 (.slice A5 1 c5)
          have r1 := Kd.R_set (Kd.R_set (Kd.R_set HR5.out hbox.out HT.out 0 (.int .u64 1)) b1 HT.out 1 (.int .i64 0)) b2 HT.out 2 (.slice A5 1 c5)
          exact ⟨g4, A5, c5, rfl, ⟨blk_far (blk_far (blk_far BK1.out hn14 _) hn14 _) hn14 _⟩, ⟨blk_far (blk_far (blk_far BK2.out hn24 _) hn24 _) hn24 _⟩, ⟨blk_far (blk_far (blk_far BK3.out hn34 _) hn34 _) hn34 _⟩, ⟨b3⟩, ⟨(reads1' r1).2⟩, HRc, ⟨hn24⟩, HG4, ⟨below_set (below_set (below_set HB.out HG4.out) HG4.out) HG4.out⟩⟩
      · skip
        refine box_step (by rfl) (N := 4) (by rfl) (cs := #[.int .u64 0, .int .i64 0, .slice none 0 0]) (t := 33) ?hr ?_
        case hr => first | (go_simp; done) | (go_simp; rfl)
        intro g4 hg w6 hbox hb6
        have HG4 := Aside0.mk (show w.heap.size ≤ g4 by rw [hg]; exact HB.out.size)
        have hn14 : g1 ≠ g4 := (by have h1 := blk_lt BK1.out; rw [hg]; omega)
        have hn24 : g2 ≠ g4 := (by have h1 := blk_lt BK2.out; rw [hg]; omega)
        have hn34 : g3 ≠ g4 := (by have h1 := blk_lt BK3.out; rw [hg]; omega)
        replace HB := Aside0.mk (below_then HB.out HB.out.size hb6)
        replace BK1 := Aside0.mk (cells_below BK1.out hb6)
        replace BK2 := Aside0.mk (cells_below BK2.out hb6)
        replace BK3 := Aside0.mk (cells_below BK3.out hb6)
        try replace HL := Aside0.mk (Kd.C_below HL.out hb6)
        try replace HR5 := Aside0.mk (Kd.R_below HR5.out hb6)
        replace hbox := Aside0.mk hbox
        clear hg
        refine hK.out _ _ ⟨(pw_cell_below hb6 hHeld.1), (pw_cell_below hb6 hHeld.2)⟩ (fun hHeld => ?_)
        clear hK K
        refine norm_ (a' := ?_) ?_ ?_
        rotate_left
        · show Act.put _ (some 4) _ = _
          simp only [Act.put, List.setIfInBounds_toArray, List.set_cons_zero, List.set_cons_succ, i64_w, i32_w]
          rfl
        refine two_ (i := 2) (j := 3) (Ni := some 20) (Nj := some 21) #[true, true, true, false, false, false, true, false] #[true, true, false, true, false, false, true, false] rfl rfl rfl rfl (by kernel_rfl) (by decide) (by decide) (fun K hK => ?_) (fun K hK => ?_)
        · skip
          refine goes_ Try.func18 (by kernel_rfl) rfl #[.agg #[.int .i64 5, .int .i64 0]] (by rfl) rfl rfl (by simp only [List.map_toArray, List.map_cons, List.map_nil]; rfl) ?_
          with_reducible refine (start0 5 0 _).mono ?_
          rintro e w3 ⟨A3, c3, rfl, hb3⟩
          refine ⟨_, rfl, ?_⟩
          replace HB := Aside0.mk (below_then HB.out HB.out.size hb3)
          replace BK1 := Aside0.mk (cells_below BK1.out hb3)
          replace BK2 := Aside0.mk (cells_below BK2.out hb3)
          replace BK3 := Aside0.mk (cells_below BK3.out hb3)
          try replace HL := Aside0.mk (Kd.C_below HL.out hb3)
          try replace hbox := Aside0.mk (cells_below hbox.out hb3)
          refine hK.out _ _ ⟨(pw_cell_below hb3 hHeld.1), (pw_cell_below hb3 hHeld.2)⟩ (fun hHeld => ?_)
          clear hK K
          refine norm_ (a' := ?_) ?_ ?_
          rotate_left
          · show Act.put _ (some 20) _ = _
            simp only [Act.put, List.setIfInBounds_toArray, List.set_cons_zero, List.set_cons_succ, i64_w, i32_w]
            rfl
          refine one_ (i := 3) (N := some 21) #[true, true, true, true, false, false, true, false] rfl rfl (by kernel_rfl) (by decide) (fun K hK => ?_)
          refine lit1_step Kd.string 9 (by rfl) (N := 21) (by rfl) (x := strB) (v := .string strB) ?hr (Reps.one (show Kd.M Kd.string _ _ _ strB [.string strB] from rfl) (Reps.none _ _)) ?_
          case hr => first | (go_simp; done) | (go_simp; rfl)
          intro A9 c9 w9 hC9 hc9 hb9
          replace HB := Aside0.mk (below_then HB.out HB.out.size hb9)
          replace BK1 := Aside0.mk (cells_below BK1.out hb9)
          replace BK2 := Aside0.mk (cells_below BK2.out hb9)
          replace BK3 := Aside0.mk (cells_below BK3.out hb9)
          replace HL := Aside0.mk hC9
          try replace hbox := Aside0.mk (cells_below hbox.out hb9)
          have HLc := Aside0.mk hc9
          clear hC9 hc9
          refine hK.out _ _ ⟨(pw_cell_below hb9 hHeld.1), (pw_cell_below hb9 hHeld.2)⟩ (fun hHeld => ?_)
          clear hK K
          refine norm_ (a' := ?_) ?_ ?_
          rotate_left
          · show Act.put _ (some 21) _ = _
            simp only [Act.put, List.setIfInBounds_toArray, List.set_cons_zero, List.set_cons_succ, i64_w, i32_w]
            rfl
          refine pure_ (i := 4) (N := some 22) (v := ?_) (a' := ?_) #[true, true, true, true, true, false, true, false] rfl rfl (by kernel_rfl) (fun _ _ _ h => h) (Or.inl ⟨by rfl, ?_⟩) ?_ ?_
          rotate_left
          · intro w'
            go_simp
            with_reducible rfl
          rotate_left
          · simp only [Act.put, List.setIfInBounds_toArray, List.set_cons_zero, List.set_cons_succ, i64_w, i32_w]
            rfl
          refine one_ (i := 5) (N := some 23) #[true, true, true, true, true, true, true, false] rfl rfl (by kernel_rfl) (by decide) (fun K hK => ?_)
          refine goes_ Try.func19 (by kernel_rfl) rfl #[.agg #[.int .i64 5, .int .i64 0], .agg #[.int .u64 0, .int .i64 0, .slice A3 0 c3], .agg #[.int .i64 0, .slice A9 1 c9, .slice none 0 0], .int .u64 1] (by rfl) rfl rfl (by simp only [List.map_toArray, List.map_cons, List.map_nil]; rfl) ?_
          with_reducible refine (addText strB 1 1 0 [strB] A3 A9 c3 c9 _ HL.out HLc.out aw3).mono ?_
          rintro e w5 ⟨v5, rfl, ho5, hb5⟩
          refine ⟨_, rfl, ?_⟩
          obtain ⟨A5, c5, rfl, hc5, hC5⟩ := reads1 ho5
          replace HB := Aside0.mk (below_then HB.out HB.out.size hb5)
          replace BK1 := Aside0.mk (cells_below BK1.out hb5)
          replace BK2 := Aside0.mk (cells_below BK2.out hb5)
          replace BK3 := Aside0.mk (cells_below BK3.out hb5)
          try replace hbox := Aside0.mk (cells_below hbox.out hb5)
          have HR5 := Aside0.mk ho5
          have HRc := Aside0.mk hc5
          clear ho5 hc5 hC5
          refine hK.out _ _ ⟨(pw_cell_below hb5 hHeld.1), (pw_cell_below hb5 hHeld.2)⟩ (fun hHeld => ?_)
          clear hK K
          refine norm_ (a' := ?_) ?_ ?_
          rotate_left
          · show Act.put _ (some 23) _ = _
            simp only [Act.put, List.setIfInBounds_toArray, List.set_cons_zero, List.set_cons_succ, i64_w, i32_w]
            rfl
          refine last_ (i := 7) (N := none) #[true, true, true, true, true, true, true, true] rfl rfl (by kernel_rfl) (by decide) (fun K hK => ?_)
          (have hq_0 := (blk_cell hbox.out 0).trans (show (#[(.int .u64 0 : Value), (.int .i64 0 : Value), (.slice none 0 0 : Value)] : Array Value)[0]? = some (.int .u64 0) from rfl); have hqf_0 := blk_frozen hbox.out 0; have hq_1 := (blk_cell hbox.out 1).trans (show (#[(.int .u64 0 : Value), (.int .i64 0 : Value), (.slice none 0 0 : Value)] : Array Value)[1]? = some (.int .i64 0) from rfl); have hqf_1 := blk_frozen hbox.out 1; have hq_2 := (blk_cell hbox.out 2).trans (show (#[(.int .u64 0 : Value), (.int .i64 0 : Value), (.slice none 0 0 : Value)] : Array Value)[2]? = some (.slice none 0 0) from rfl); have hqf_2 := blk_frozen hbox.out 2)
          refine skip_ (w1 := ?_) (by rfl) rfl ?_ ?_
          rotate_left
          · go_simp
            rfl
          refine hK.out _ _ ?_
          clear hK K
          refine done_ (by kernel_rfl) ?_
          go_wp2_with fail
          go_meet
          have b1 := blk_set hbox.out 0 (.int .u64 1)
          have b2 := blk_set b1 1 (.int .i64 0)
          have b3 := blk_set b2 2 (.slice A5 1 c5)
          have r1 := Kd.R_set (Kd.R_set (Kd.R_set HR5.out hbox.out HT.out 0 (.int .u64 1)) b1 HT.out 1 (.int .i64 0)) b2 HT.out 2 (.slice A5 1 c5)
          exact ⟨g4, A5, c5, rfl, ⟨blk_far (blk_far (blk_far BK1.out hn14 _) hn14 _) hn14 _⟩, ⟨blk_far (blk_far (blk_far BK2.out hn24 _) hn24 _) hn24 _⟩, ⟨blk_far (blk_far (blk_far BK3.out hn34 _) hn34 _) hn34 _⟩, ⟨b3⟩, ⟨(reads1' r1).2⟩, HRc, ⟨hn24⟩, HG4, ⟨below_set (below_set (below_set HB.out HG4.out) HG4.out) HG4.out⟩⟩
        · skip
          refine lit1_step Kd.string 9 (by rfl) (N := 21) (by rfl) (x := strB) (v := .string strB) ?hr (Reps.one (show Kd.M Kd.string _ _ _ strB [.string strB] from rfl) (Reps.none _ _)) ?_
          case hr => first | (go_simp; done) | (go_simp; rfl)
          intro A9 c9 w9 hC9 hc9 hb9
          replace HB := Aside0.mk (below_then HB.out HB.out.size hb9)
          replace BK1 := Aside0.mk (cells_below BK1.out hb9)
          replace BK2 := Aside0.mk (cells_below BK2.out hb9)
          replace BK3 := Aside0.mk (cells_below BK3.out hb9)
          replace HL := Aside0.mk hC9
          try replace hbox := Aside0.mk (cells_below hbox.out hb9)
          have HLc := Aside0.mk hc9
          clear hC9 hc9
          refine hK.out _ _ ⟨(pw_cell_below hb9 hHeld.1), (pw_cell_below hb9 hHeld.2)⟩ (fun hHeld => ?_)
          clear hK K
          refine norm_ (a' := ?_) ?_ ?_
          rotate_left
          · show Act.put _ (some 21) _ = _
            simp only [Act.put, List.setIfInBounds_toArray, List.set_cons_zero, List.set_cons_succ, i64_w, i32_w]
            rfl
          refine pure_ (i := 4) (N := some 22) (v := ?_) (a' := ?_) #[true, true, false, true, true, false, true, false] rfl rfl (by kernel_rfl) (fun _ _ _ h => h) (Or.inl ⟨by rfl, ?_⟩) ?_ ?_
          rotate_left
          · intro w'
            go_simp
            with_reducible rfl
          rotate_left
          · simp only [Act.put, List.setIfInBounds_toArray, List.set_cons_zero, List.set_cons_succ, i64_w, i32_w]
            rfl
          refine one_ (i := 2) (N := some 20) #[true, true, true, true, true, false, true, false] rfl rfl (by kernel_rfl) (by decide) (fun K hK => ?_)
          refine goes_ Try.func18 (by kernel_rfl) rfl #[.agg #[.int .i64 5, .int .i64 0]] (by rfl) rfl rfl (by simp only [List.map_toArray, List.map_cons, List.map_nil]; rfl) ?_
          with_reducible refine (start0 5 0 _).mono ?_
          rintro e w3 ⟨A3, c3, rfl, hb3⟩
          refine ⟨_, rfl, ?_⟩
          replace HB := Aside0.mk (below_then HB.out HB.out.size hb3)
          replace BK1 := Aside0.mk (cells_below BK1.out hb3)
          replace BK2 := Aside0.mk (cells_below BK2.out hb3)
          replace BK3 := Aside0.mk (cells_below BK3.out hb3)
          try replace HL := Aside0.mk (Kd.C_below HL.out hb3)
          try replace hbox := Aside0.mk (cells_below hbox.out hb3)
          refine hK.out _ _ ⟨(pw_cell_below hb3 hHeld.1), (pw_cell_below hb3 hHeld.2)⟩ (fun hHeld => ?_)
          clear hK K
          refine norm_ (a' := ?_) ?_ ?_
          rotate_left
          · show Act.put _ (some 20) _ = _
            simp only [Act.put, List.setIfInBounds_toArray, List.set_cons_zero, List.set_cons_succ, i64_w, i32_w]
            rfl
          refine one_ (i := 5) (N := some 23) #[true, true, true, true, true, true, true, false] rfl rfl (by kernel_rfl) (by decide) (fun K hK => ?_)
          refine goes_ Try.func19 (by kernel_rfl) rfl #[.agg #[.int .i64 5, .int .i64 0], .agg #[.int .u64 0, .int .i64 0, .slice A3 0 c3], .agg #[.int .i64 0, .slice A9 1 c9, .slice none 0 0], .int .u64 1] (by rfl) rfl rfl (by simp only [List.map_toArray, List.map_cons, List.map_nil]; rfl) ?_
          with_reducible refine (addText strB 1 1 0 [strB] A3 A9 c3 c9 _ HL.out HLc.out aw3).mono ?_
          rintro e w5 ⟨v5, rfl, ho5, hb5⟩
          refine ⟨_, rfl, ?_⟩
          obtain ⟨A5, c5, rfl, hc5, hC5⟩ := reads1 ho5
          replace HB := Aside0.mk (below_then HB.out HB.out.size hb5)
          replace BK1 := Aside0.mk (cells_below BK1.out hb5)
          replace BK2 := Aside0.mk (cells_below BK2.out hb5)
          replace BK3 := Aside0.mk (cells_below BK3.out hb5)
          try replace hbox := Aside0.mk (cells_below hbox.out hb5)
          have HR5 := Aside0.mk ho5
          have HRc := Aside0.mk hc5
          clear ho5 hc5 hC5
          refine hK.out _ _ ⟨(pw_cell_below hb5 hHeld.1), (pw_cell_below hb5 hHeld.2)⟩ (fun hHeld => ?_)
          clear hK K
          refine norm_ (a' := ?_) ?_ ?_
          rotate_left
          · show Act.put _ (some 23) _ = _
            simp only [Act.put, List.setIfInBounds_toArray, List.set_cons_zero, List.set_cons_succ, i64_w, i32_w]
            rfl
          refine last_ (i := 7) (N := none) #[true, true, true, true, true, true, true, true] rfl rfl (by kernel_rfl) (by decide) (fun K hK => ?_)
          (have hq_0 := (blk_cell hbox.out 0).trans (show (#[(.int .u64 0 : Value), (.int .i64 0 : Value), (.slice none 0 0 : Value)] : Array Value)[0]? = some (.int .u64 0) from rfl); have hqf_0 := blk_frozen hbox.out 0; have hq_1 := (blk_cell hbox.out 1).trans (show (#[(.int .u64 0 : Value), (.int .i64 0 : Value), (.slice none 0 0 : Value)] : Array Value)[1]? = some (.int .i64 0) from rfl); have hqf_1 := blk_frozen hbox.out 1; have hq_2 := (blk_cell hbox.out 2).trans (show (#[(.int .u64 0 : Value), (.int .i64 0 : Value), (.slice none 0 0 : Value)] : Array Value)[2]? = some (.slice none 0 0) from rfl); have hqf_2 := blk_frozen hbox.out 2)
          refine skip_ (w1 := ?_) (by rfl) rfl ?_ ?_
          rotate_left
          · go_simp
            rfl
          refine hK.out _ _ ?_
          clear hK K
          refine done_ (by kernel_rfl) ?_
          go_wp2_with fail
          go_meet
          have b1 := blk_set hbox.out 0 (.int .u64 1)
          have b2 := blk_set b1 1 (.int .i64 0)
          have b3 := blk_set b2 2 (.slice A5 1 c5)
          have r1 := Kd.R_set (Kd.R_set (Kd.R_set HR5.out hbox.out HT.out 0 (.int .u64 1)) b1 HT.out 1 (.int .i64 0)) b2 HT.out 2 (.slice A5 1 c5)
          exact ⟨g4, A5, c5, rfl, ⟨blk_far (blk_far (blk_far BK1.out hn14 _) hn14 _) hn14 _⟩, ⟨blk_far (blk_far (blk_far BK2.out hn24 _) hn24 _) hn24 _⟩, ⟨blk_far (blk_far (blk_far BK3.out hn34 _) hn34 _) hn34 _⟩, ⟨b3⟩, ⟨(reads1' r1).2⟩, HRc, ⟨hn24⟩, HG4, ⟨below_set (below_set (below_set HB.out HG4.out) HG4.out) HG4.out⟩⟩
    case rest =>
      obtain ⟨g4, A4, c4, rfl, BK1, BK2, BK3, BK4, HC4, HRc4, HN24, HG4, HB⟩ := hcut
      have hn24 := HN24.out
      have c0 : wc.cell? ⟨g3, 0, none⟩ = some (.int .i64 5) := (blk_cell BK3.out 0).trans rfl
      have c1 : wc.cell? ⟨g3, 1, none⟩ = some (.int .i64 0) := (blk_cell BK3.out 1).trans rfl
      have c2' : wc.cell? ⟨g4, 0, none⟩ = some (.int .u64 1) := (blk_cell BK4.out 0).trans rfl
      have c3' : wc.cell? ⟨g4, 1, none⟩ = some (.int .i64 0) := (blk_cell BK4.out 1).trans rfl
      have c4' : wc.cell? ⟨g4, 2, none⟩ = some (.slice A4 1 c4) := (blk_cell BK4.out 2).trans rfl
      replace HB := Aside0.mk (below_drew HB.out)
      replace BK1 := Aside0.mk (blk_drew BK1.out)
      replace BK2 := Aside0.mk (blk_drew BK2.out)
      replace BK3 := Aside0.mk (blk_drew BK3.out)
      replace BK4 := Aside0.mk (blk_drew BK4.out)
      replace HC4 := Aside0.mk (Kd.C_drew HC4.out)
      have hn14 := blk_ne BK1.out BK4.out (by decide)
      have hn34 := blk_ne BK3.out BK4.out (by decide)
      go_upto_region 6 with (fail)
      go_cut [] (fun wx => ∃ (A8 : Option Addr) (c8 : Nat), Aside0 (wx.heap[g1]? = some (.cells #[.int .i64 2, .int .i64 0] 23 (0, 0))) ∧ Aside0 (wx.heap[g2]? = some (.cells #[.int .u64 3, .int .i64 5, .slice A5 0 c5] 33 (0, 0))) ∧ Aside0 (wx.heap[g3]? = some (.cells #[.int .i64 5, .int .i64 0] 23 (0, 0))) ∧ Aside0 (wx.heap[g4]? = some (.cells #[.int .u64 2, .int .i64 0, .slice A8 2 c8] 33 (0, 0))) ∧ Aside0 (Kd.C Kd.string wx A8 2 [strA, strB]) ∧ Aside0 (2 ≤ c8) ∧ Aside0 (Below w.heap.size w wx))
      case first =>
        have HL := Aside0.mk trivial
        refine start_ (n := 10) (S := fun w' => w'.cell? ⟨g3, 0, none⟩ = some (.int .i64 5) ∧ w'.cell? ⟨g3, 1, none⟩ = some (.int .i64 0) ∧ w'.cell? ⟨g4, 0, none⟩ = some (.int .u64 1) ∧ w'.cell? ⟨g4, 1, none⟩ = some (.int .i64 0) ∧ w'.cell? ⟨g4, 2, none⟩ = some (.slice A4 1 c4)) (ds := [9]) #[false, false, false, false, false, false, false, false, false, false] (by kernel_rfl) rfl rfl ⟨c0, c1, c2', c3', c4'⟩ (fun hHeld => ?_)
        refine take_ (i := 0) (N := some 24) (v := ?_) (a' := ?_) #[true, false, false, false, false, false, false, false, false, false] rfl rfl (by kernel_rfl) (fun _ _ _ h => h) (Or.inl ⟨by rfl, ?_⟩) hHeld ?_ ?_
        rotate_left
        · rintro w' ⟨s0, s1, s2, s3, s4⟩
          go_simp
          with_reducible rfl
        rotate_left
        · simp only [Act.put, List.setIfInBounds_toArray, List.set_cons_zero, List.set_cons_succ, i64_w, i32_w]
          rfl
        refine take_ (i := 1) (N := some 25) (v := ?_) (a' := ?_) #[true, true, false, false, false, false, false, false, false, false] rfl rfl (by kernel_rfl) (fun _ _ _ h => h) (Or.inl ⟨by rfl, ?_⟩) hHeld ?_ ?_
        rotate_left
        · rintro w' ⟨s0, s1, s2, s3, s4⟩
          go_simp
          with_reducible rfl
        rotate_left
        · simp only [Act.put, List.setIfInBounds_toArray, List.set_cons_zero, List.set_cons_succ, i64_w, i32_w]
          rfl
        refine take_ (i := 2) (N := some 26) (v := ?_) (a' := ?_) #[true, true, true, false, false, false, false, false, false, false] rfl rfl (by kernel_rfl) (fun _ _ _ h => h) (Or.inl ⟨by rfl, ?_⟩) hHeld ?_ ?_
        rotate_left
        · rintro w' ⟨s0, s1, s2, s3, s4⟩
          go_simp
          with_reducible rfl
        rotate_left
        · simp only [Act.put, List.setIfInBounds_toArray, List.set_cons_zero, List.set_cons_succ, i64_w, i32_w]
          rfl
        refine take_ (i := 3) (N := some 27) (v := ?_) (a' := ?_) #[true, true, true, true, false, false, false, false, false, false] rfl rfl (by kernel_rfl) (fun _ _ _ h => h) (Or.inl ⟨by rfl, ?_⟩) hHeld ?_ ?_
        rotate_left
        · rintro w' ⟨s0, s1, s2, s3, s4⟩
          go_simp
          with_reducible rfl
        rotate_left
        · simp only [Act.put, List.setIfInBounds_toArray, List.set_cons_zero, List.set_cons_succ, i64_w, i32_w]
          rfl
        refine two_ (i := 4) (j := 5) (Ni := some 28) (Nj := some 29) #[true, true, true, true, true, false, false, false, false, false] #[true, true, true, true, false, true, false, false, false, false] rfl rfl rfl rfl (by kernel_rfl) (by decide) (by decide) (fun K hK => ?_) (fun K hK => ?_)
        · skip
          refine goes_ Try.func18 (by kernel_rfl) rfl #[.agg #[.int .i64 5, .int .i64 0]] (by rfl) rfl rfl (by simp only [List.map_toArray, List.map_cons, List.map_nil]; rfl) ?_
          with_reducible refine (start0 5 0 _).mono ?_
          rintro e w3 ⟨A3, c3, rfl, hb3⟩
          refine ⟨_, rfl, ?_⟩
          replace HB := Aside0.mk (below_then HB.out HB.out.size hb3)
          replace BK1 := Aside0.mk (cells_below BK1.out hb3)
          replace BK2 := Aside0.mk (cells_below BK2.out hb3)
          replace BK3 := Aside0.mk (cells_below BK3.out hb3)
          replace BK4 := Aside0.mk (cells_below BK4.out hb3)
          replace HC4 := Aside0.mk (Kd.C_below HC4.out hb3)
          try replace HL := Aside0.mk (Kd.C_below HL.out hb3)
          try replace HC7 := Aside0.mk (Kd.C_below HC7.out hb3)
          refine hK.out _ _ ⟨(pw_cell_below hb3 hHeld.1), (pw_cell_below hb3 hHeld.2.1), (pw_cell_below hb3 hHeld.2.2.1), (pw_cell_below hb3 hHeld.2.2.2.1), (pw_cell_below hb3 hHeld.2.2.2.2)⟩ (fun hHeld => ?_)
          clear hK K
          refine norm_ (a' := ?_) ?_ ?_
          rotate_left
          · show Act.put _ (some 28) _ = _
            simp only [Act.put, List.setIfInBounds_toArray, List.set_cons_zero, List.set_cons_succ, i64_w, i32_w]
            rfl
          refine one_ (i := 5) (N := some 29) #[true, true, true, true, true, true, false, false, false, false] rfl rfl (by kernel_rfl) (by decide) (fun K hK => ?_)
          refine lit1_step Kd.string 9 (by rfl) (N := 29) (by rfl) (x := strA) (v := .string strA) ?hr (Reps.one (show Kd.M Kd.string _ _ _ strA [.string strA] from rfl) (Reps.none _ _)) ?_
          case hr => first | (go_simp; done) | (go_simp; rfl)
          intro A9 c9 w9 hC9 hc9 hb9
          replace HB := Aside0.mk (below_then HB.out HB.out.size hb9)
          replace BK1 := Aside0.mk (cells_below BK1.out hb9)
          replace BK2 := Aside0.mk (cells_below BK2.out hb9)
          replace BK3 := Aside0.mk (cells_below BK3.out hb9)
          replace BK4 := Aside0.mk (cells_below BK4.out hb9)
          replace HC4 := Aside0.mk (Kd.C_below HC4.out hb9)
          try replace HL := Aside0.mk (Kd.C_below HL.out hb9)
          try replace HC7 := Aside0.mk (Kd.C_below HC7.out hb9)
          replace HL := Aside0.mk hC9
          have HLc := Aside0.mk hc9
          clear hC9 hc9
          refine hK.out _ _ ⟨(pw_cell_below hb9 hHeld.1), (pw_cell_below hb9 hHeld.2.1), (pw_cell_below hb9 hHeld.2.2.1), (pw_cell_below hb9 hHeld.2.2.2.1), (pw_cell_below hb9 hHeld.2.2.2.2)⟩ (fun hHeld => ?_)
          clear hK K
          refine norm_ (a' := ?_) ?_ ?_
          rotate_left
          · show Act.put _ (some 29) _ = _
            simp only [Act.put, List.setIfInBounds_toArray, List.set_cons_zero, List.set_cons_succ, i64_w, i32_w]
            rfl
          refine pure_ (i := 6) (N := some 30) (v := ?_) (a' := ?_) #[true, true, true, true, true, true, true, false, false, false] rfl rfl (by kernel_rfl) (fun _ _ _ h => h) (Or.inl ⟨by rfl, ?_⟩) ?_ ?_
          rotate_left
          · intro w'
            go_simp
            with_reducible rfl
          rotate_left
          · simp only [Act.put, List.setIfInBounds_toArray, List.set_cons_zero, List.set_cons_succ, i64_w, i32_w]
            rfl
          refine one_ (i := 7) (N := some 31) #[true, true, true, true, true, true, true, true, false, false] rfl rfl (by kernel_rfl) (by decide) (fun K hK => ?_)
          refine goes_ Try.func19 (by kernel_rfl) rfl #[.agg #[.int .i64 5, .int .i64 0], .agg #[.int .u64 0, .int .i64 0, .slice A3 0 c3], .agg #[.int .i64 0, .slice A9 1 c9, .slice none 0 0], .int .u64 1] (by rfl) rfl rfl (by simp only [List.map_toArray, List.map_cons, List.map_nil]; rfl) ?_
          with_reducible refine (addText strA 1 1 0 [strA] A3 A9 c3 c9 _ HL.out HLc.out aw4).mono ?_
          rintro e w5 ⟨v5, rfl, ho5, hb5⟩
          refine ⟨_, rfl, ?_⟩
          obtain ⟨A7, c7, rfl, hc7, hC7⟩ := reads1 ho5
          replace HB := Aside0.mk (below_then HB.out HB.out.size hb5)
          replace BK1 := Aside0.mk (cells_below BK1.out hb5)
          replace BK2 := Aside0.mk (cells_below BK2.out hb5)
          replace BK3 := Aside0.mk (cells_below BK3.out hb5)
          replace BK4 := Aside0.mk (cells_below BK4.out hb5)
          replace HC4 := Aside0.mk (Kd.C_below HC4.out hb5)
          try replace HL := Aside0.mk (Kd.C_below HL.out hb5)
          try replace HC7 := Aside0.mk (Kd.C_below HC7.out hb5)
          have HC7 := Aside0.mk hC7
          have HRc7 := Aside0.mk hc7
          clear ho5 hc7 hC7
          refine hK.out _ _ ⟨(pw_cell_below hb5 hHeld.1), (pw_cell_below hb5 hHeld.2.1), (pw_cell_below hb5 hHeld.2.2.1), (pw_cell_below hb5 hHeld.2.2.2.1), (pw_cell_below hb5 hHeld.2.2.2.2)⟩ (fun hHeld => ?_)
          clear hK K
          refine norm_ (a' := ?_) ?_ ?_
          rotate_left
          · show Act.put _ (some 31) _ = _
            simp only [Act.put, List.setIfInBounds_toArray, List.set_cons_zero, List.set_cons_succ, i64_w, i32_w]
            rfl
          refine one_ (i := 8) (N := some 32) #[true, true, true, true, true, true, true, true, true, false] rfl rfl (by kernel_rfl) (by decide) (fun K hK => ?_)
          refine goes_ Try.func17 (by kernel_rfl) rfl #[.agg #[.int .i64 5, .int .i64 0], .agg #[.int .u64 1, .int .i64 0, .slice A4 1 c4], .agg #[.int .u64 1, .int .i64 0, .slice A7 1 c7]] (by rfl) rfl rfl (by simp only [List.map_toArray, List.map_cons, List.map_nil]; rfl) ?_
          with_reducible refine (mergeTexts strB strA 2 0 [strA, strB] A4 A7 c4 c7 _ HC4.out HRc4.out HC7.out HRc7.out aw5).mono ?_
          rintro e w8 ⟨v8, rfl, ho8, hb8⟩
          refine ⟨_, rfl, ?_⟩
          obtain ⟨A8, c8, rfl, hc8, hC8⟩ := reads2 ho8
          replace HB := Aside0.mk (below_then HB.out HB.out.size hb8)
          replace BK1 := Aside0.mk (cells_below BK1.out hb8)
          replace BK2 := Aside0.mk (cells_below BK2.out hb8)
          replace BK3 := Aside0.mk (cells_below BK3.out hb8)
          replace BK4 := Aside0.mk (cells_below BK4.out hb8)
          replace HC4 := Aside0.mk (Kd.C_below HC4.out hb8)
          try replace HL := Aside0.mk (Kd.C_below HL.out hb8)
          try replace HC7 := Aside0.mk (Kd.C_below HC7.out hb8)
          have HR8 := Aside0.mk ho8
          have HRc8 := Aside0.mk hc8
          clear ho8 hc8 hC8
          refine hK.out _ _ ⟨(pw_cell_below hb8 hHeld.1), (pw_cell_below hb8 hHeld.2.1), (pw_cell_below hb8 hHeld.2.2.1), (pw_cell_below hb8 hHeld.2.2.2.1), (pw_cell_below hb8 hHeld.2.2.2.2)⟩ (fun hHeld => ?_)
          clear hK K
          refine norm_ (a' := ?_) ?_ ?_
          rotate_left
          · show Act.put _ (some 32) _ = _
            simp only [Act.put, List.setIfInBounds_toArray, List.set_cons_zero, List.set_cons_succ, i64_w, i32_w]
            rfl
          refine last_ (i := 9) (N := none) #[true, true, true, true, true, true, true, true, true, true] rfl rfl (by kernel_rfl) (by decide) (fun K hK => ?_)
          (have hq_0 := (blk_cell BK4.out 0).trans (show (#[(.int .u64 1 : Value), (.int .i64 0 : Value), (.slice A4 1 c4 : Value)] : Array Value)[0]? = some (.int .u64 1) from rfl); have hqf_0 := blk_frozen BK4.out 0; have hq_1 := (blk_cell BK4.out 1).trans (show (#[(.int .u64 1 : Value), (.int .i64 0 : Value), (.slice A4 1 c4 : Value)] : Array Value)[1]? = some (.int .i64 0) from rfl); have hqf_1 := blk_frozen BK4.out 1; have hq_2 := (blk_cell BK4.out 2).trans (show (#[(.int .u64 1 : Value), (.int .i64 0 : Value), (.slice A4 1 c4 : Value)] : Array Value)[2]? = some (.slice A4 1 c4) from rfl); have hqf_2 := blk_frozen BK4.out 2)
          refine skip_ (w1 := ?_) (by rfl) rfl ?_ ?_
          rotate_left
          · go_simp
            rfl
          refine hK.out _ _ ?_
          clear hK K
          refine done_ (by kernel_rfl) ?_
          go_wp2_with fail
          go_meet
          have b1 := blk_set BK4.out 0 (.int .u64 2)
          have b2 := blk_set b1 1 (.int .i64 0)
          have b3 := blk_set b2 2 (.slice A8 2 c8)
          have r1 := Kd.R_set (Kd.R_set (Kd.R_set HR8.out BK4.out HT.out 0 (.int .u64 2)) b1 HT.out 1 (.int .i64 0)) b2 HT.out 2 (.slice A8 2 c8)
          exact ⟨A8, c8, ⟨blk_far (blk_far (blk_far BK1.out hn14 _) hn14 _) hn14 _⟩, ⟨blk_far (blk_far (blk_far BK2.out hn24 _) hn24 _) hn24 _⟩, ⟨blk_far (blk_far (blk_far BK3.out hn34 _) hn34 _) hn34 _⟩, ⟨b3⟩, ⟨(Kd.R_reads' r1).2.2⟩, HRc8, ⟨below_set (below_set (below_set HB.out HG4.out) HG4.out) HG4.out⟩⟩
        · skip
          refine lit1_step Kd.string 9 (by rfl) (N := 29) (by rfl) (x := strA) (v := .string strA) ?hr (Reps.one (show Kd.M Kd.string _ _ _ strA [.string strA] from rfl) (Reps.none _ _)) ?_
          case hr => first | (go_simp; done) | (go_simp; rfl)
          intro A9 c9 w9 hC9 hc9 hb9
          replace HB := Aside0.mk (below_then HB.out HB.out.size hb9)
          replace BK1 := Aside0.mk (cells_below BK1.out hb9)
          replace BK2 := Aside0.mk (cells_below BK2.out hb9)
          replace BK3 := Aside0.mk (cells_below BK3.out hb9)
          replace BK4 := Aside0.mk (cells_below BK4.out hb9)
          replace HC4 := Aside0.mk (Kd.C_below HC4.out hb9)
          try replace HL := Aside0.mk (Kd.C_below HL.out hb9)
          try replace HC7 := Aside0.mk (Kd.C_below HC7.out hb9)
          replace HL := Aside0.mk hC9
          have HLc := Aside0.mk hc9
          clear hC9 hc9
          refine hK.out _ _ ⟨(pw_cell_below hb9 hHeld.1), (pw_cell_below hb9 hHeld.2.1), (pw_cell_below hb9 hHeld.2.2.1), (pw_cell_below hb9 hHeld.2.2.2.1), (pw_cell_below hb9 hHeld.2.2.2.2)⟩ (fun hHeld => ?_)
          clear hK K
          refine norm_ (a' := ?_) ?_ ?_
          rotate_left
          · show Act.put _ (some 29) _ = _
            simp only [Act.put, List.setIfInBounds_toArray, List.set_cons_zero, List.set_cons_succ, i64_w, i32_w]
            rfl
          refine pure_ (i := 6) (N := some 30) (v := ?_) (a' := ?_) #[true, true, true, true, false, true, true, false, false, false] rfl rfl (by kernel_rfl) (fun _ _ _ h => h) (Or.inl ⟨by rfl, ?_⟩) ?_ ?_
          rotate_left
          · intro w'
            go_simp
            with_reducible rfl
          rotate_left
          · simp only [Act.put, List.setIfInBounds_toArray, List.set_cons_zero, List.set_cons_succ, i64_w, i32_w]
            rfl
          refine one_ (i := 4) (N := some 28) #[true, true, true, true, true, true, true, false, false, false] rfl rfl (by kernel_rfl) (by decide) (fun K hK => ?_)
          refine goes_ Try.func18 (by kernel_rfl) rfl #[.agg #[.int .i64 5, .int .i64 0]] (by rfl) rfl rfl (by simp only [List.map_toArray, List.map_cons, List.map_nil]; rfl) ?_
          with_reducible refine (start0 5 0 _).mono ?_
          rintro e w3 ⟨A3, c3, rfl, hb3⟩
          refine ⟨_, rfl, ?_⟩
          replace HB := Aside0.mk (below_then HB.out HB.out.size hb3)
          replace BK1 := Aside0.mk (cells_below BK1.out hb3)
          replace BK2 := Aside0.mk (cells_below BK2.out hb3)
          replace BK3 := Aside0.mk (cells_below BK3.out hb3)
          replace BK4 := Aside0.mk (cells_below BK4.out hb3)
          replace HC4 := Aside0.mk (Kd.C_below HC4.out hb3)
          try replace HL := Aside0.mk (Kd.C_below HL.out hb3)
          try replace HC7 := Aside0.mk (Kd.C_below HC7.out hb3)
          refine hK.out _ _ ⟨(pw_cell_below hb3 hHeld.1), (pw_cell_below hb3 hHeld.2.1), (pw_cell_below hb3 hHeld.2.2.1), (pw_cell_below hb3 hHeld.2.2.2.1), (pw_cell_below hb3 hHeld.2.2.2.2)⟩ (fun hHeld => ?_)
          clear hK K
          refine norm_ (a' := ?_) ?_ ?_
          rotate_left
          · show Act.put _ (some 28) _ = _
            simp only [Act.put, List.setIfInBounds_toArray, List.set_cons_zero, List.set_cons_succ, i64_w, i32_w]
            rfl
          refine one_ (i := 7) (N := some 31) #[true, true, true, true, true, true, true, true, false, false] rfl rfl (by kernel_rfl) (by decide) (fun K hK => ?_)
          refine goes_ Try.func19 (by kernel_rfl) rfl #[.agg #[.int .i64 5, .int .i64 0], .agg #[.int .u64 0, .int .i64 0, .slice A3 0 c3], .agg #[.int .i64 0, .slice A9 1 c9, .slice none 0 0], .int .u64 1] (by rfl) rfl rfl (by simp only [List.map_toArray, List.map_cons, List.map_nil]; rfl) ?_
          with_reducible refine (addText strA 1 1 0 [strA] A3 A9 c3 c9 _ HL.out HLc.out aw4).mono ?_
          rintro e w5 ⟨v5, rfl, ho5, hb5⟩
          refine ⟨_, rfl, ?_⟩
          obtain ⟨A7, c7, rfl, hc7, hC7⟩ := reads1 ho5
          replace HB := Aside0.mk (below_then HB.out HB.out.size hb5)
          replace BK1 := Aside0.mk (cells_below BK1.out hb5)
          replace BK2 := Aside0.mk (cells_below BK2.out hb5)
          replace BK3 := Aside0.mk (cells_below BK3.out hb5)
          replace BK4 := Aside0.mk (cells_below BK4.out hb5)
          replace HC4 := Aside0.mk (Kd.C_below HC4.out hb5)
          try replace HL := Aside0.mk (Kd.C_below HL.out hb5)
          try replace HC7 := Aside0.mk (Kd.C_below HC7.out hb5)
          have HC7 := Aside0.mk hC7
          have HRc7 := Aside0.mk hc7
          clear ho5 hc7 hC7
          refine hK.out _ _ ⟨(pw_cell_below hb5 hHeld.1), (pw_cell_below hb5 hHeld.2.1), (pw_cell_below hb5 hHeld.2.2.1), (pw_cell_below hb5 hHeld.2.2.2.1), (pw_cell_below hb5 hHeld.2.2.2.2)⟩ (fun hHeld => ?_)
          clear hK K
          refine norm_ (a' := ?_) ?_ ?_
          rotate_left
          · show Act.put _ (some 31) _ = _
            simp only [Act.put, List.setIfInBounds_toArray, List.set_cons_zero, List.set_cons_succ, i64_w, i32_w]
            rfl
          refine one_ (i := 8) (N := some 32) #[true, true, true, true, true, true, true, true, true, false] rfl rfl (by kernel_rfl) (by decide) (fun K hK => ?_)
          refine goes_ Try.func17 (by kernel_rfl) rfl #[.agg #[.int .i64 5, .int .i64 0], .agg #[.int .u64 1, .int .i64 0, .slice A4 1 c4], .agg #[.int .u64 1, .int .i64 0, .slice A7 1 c7]] (by rfl) rfl rfl (by simp only [List.map_toArray, List.map_cons, List.map_nil]; rfl) ?_
          with_reducible refine (mergeTexts strB strA 2 0 [strA, strB] A4 A7 c4 c7 _ HC4.out HRc4.out HC7.out HRc7.out aw5).mono ?_
          rintro e w8 ⟨v8, rfl, ho8, hb8⟩
          refine ⟨_, rfl, ?_⟩
          obtain ⟨A8, c8, rfl, hc8, hC8⟩ := reads2 ho8
          replace HB := Aside0.mk (below_then HB.out HB.out.size hb8)
          replace BK1 := Aside0.mk (cells_below BK1.out hb8)
          replace BK2 := Aside0.mk (cells_below BK2.out hb8)
          replace BK3 := Aside0.mk (cells_below BK3.out hb8)
          replace BK4 := Aside0.mk (cells_below BK4.out hb8)
          replace HC4 := Aside0.mk (Kd.C_below HC4.out hb8)
          try replace HL := Aside0.mk (Kd.C_below HL.out hb8)
          try replace HC7 := Aside0.mk (Kd.C_below HC7.out hb8)
          have HR8 := Aside0.mk ho8
          have HRc8 := Aside0.mk hc8
          clear ho8 hc8 hC8
          refine hK.out _ _ ⟨(pw_cell_below hb8 hHeld.1), (pw_cell_below hb8 hHeld.2.1), (pw_cell_below hb8 hHeld.2.2.1), (pw_cell_below hb8 hHeld.2.2.2.1), (pw_cell_below hb8 hHeld.2.2.2.2)⟩ (fun hHeld => ?_)
          clear hK K
          refine norm_ (a' := ?_) ?_ ?_
          rotate_left
          · show Act.put _ (some 32) _ = _
            simp only [Act.put, List.setIfInBounds_toArray, List.set_cons_zero, List.set_cons_succ, i64_w, i32_w]
            rfl
          refine last_ (i := 9) (N := none) #[true, true, true, true, true, true, true, true, true, true] rfl rfl (by kernel_rfl) (by decide) (fun K hK => ?_)
          (have hq_0 := (blk_cell BK4.out 0).trans (show (#[(.int .u64 1 : Value), (.int .i64 0 : Value), (.slice A4 1 c4 : Value)] : Array Value)[0]? = some (.int .u64 1) from rfl); have hqf_0 := blk_frozen BK4.out 0; have hq_1 := (blk_cell BK4.out 1).trans (show (#[(.int .u64 1 : Value), (.int .i64 0 : Value), (.slice A4 1 c4 : Value)] : Array Value)[1]? = some (.int .i64 0) from rfl); have hqf_1 := blk_frozen BK4.out 1; have hq_2 := (blk_cell BK4.out 2).trans (show (#[(.int .u64 1 : Value), (.int .i64 0 : Value), (.slice A4 1 c4 : Value)] : Array Value)[2]? = some (.slice A4 1 c4) from rfl); have hqf_2 := blk_frozen BK4.out 2)
          refine skip_ (w1 := ?_) (by rfl) rfl ?_ ?_
          rotate_left
          · go_simp
            rfl
          refine hK.out _ _ ?_
          clear hK K
          refine done_ (by kernel_rfl) ?_
          go_wp2_with fail
          go_meet
          have b1 := blk_set BK4.out 0 (.int .u64 2)
          have b2 := blk_set b1 1 (.int .i64 0)
          have b3 := blk_set b2 2 (.slice A8 2 c8)
          have r1 := Kd.R_set (Kd.R_set (Kd.R_set HR8.out BK4.out HT.out 0 (.int .u64 2)) b1 HT.out 1 (.int .i64 0)) b2 HT.out 2 (.slice A8 2 c8)
          exact ⟨A8, c8, ⟨blk_far (blk_far (blk_far BK1.out hn14 _) hn14 _) hn14 _⟩, ⟨blk_far (blk_far (blk_far BK2.out hn24 _) hn24 _) hn24 _⟩, ⟨blk_far (blk_far (blk_far BK3.out hn34 _) hn34 _) hn34 _⟩, ⟨b3⟩, ⟨(Kd.R_reads' r1).2.2⟩, HRc8, ⟨below_set (below_set (below_set HB.out HG4.out) HG4.out) HG4.out⟩⟩
      case rest =>
        obtain ⟨A8, c8, BK1, BK2, BK3, BK4, HC8, HRc8, HB⟩ := hcut
        (have hq1_0 := (blk_cell BK1.out 0).trans (show (#[(.int .i64 2 : Value), (.int .i64 0 : Value)] : Array Value)[0]? = some (.int .i64 2) from rfl); have hqf1_0 := blk_frozen BK1.out 0; have hq1_1 := (blk_cell BK1.out 1).trans (show (#[(.int .i64 2 : Value), (.int .i64 0 : Value)] : Array Value)[1]? = some (.int .i64 0) from rfl); have hqf1_1 := blk_frozen BK1.out 1)
        (have hq2_0 := (blk_cell BK2.out 0).trans (show (#[(.int .u64 3 : Value), (.int .i64 5 : Value), (.slice A5 0 c5 : Value)] : Array Value)[0]? = some (.int .u64 3) from rfl); have hqf2_0 := blk_frozen BK2.out 0; have hq2_1 := (blk_cell BK2.out 1).trans (show (#[(.int .u64 3 : Value), (.int .i64 5 : Value), (.slice A5 0 c5 : Value)] : Array Value)[1]? = some (.int .i64 5) from rfl); have hqf2_1 := blk_frozen BK2.out 1; have hq2_2 := (blk_cell BK2.out 2).trans (show (#[(.int .u64 3 : Value), (.int .i64 5 : Value), (.slice A5 0 c5 : Value)] : Array Value)[2]? = some (.slice A5 0 c5) from rfl); have hqf2_2 := blk_frozen BK2.out 2)
        (have hq3_0 := (blk_cell BK3.out 0).trans (show (#[(.int .i64 5 : Value), (.int .i64 0 : Value)] : Array Value)[0]? = some (.int .i64 5) from rfl); have hqf3_0 := blk_frozen BK3.out 0; have hq3_1 := (blk_cell BK3.out 1).trans (show (#[(.int .i64 5 : Value), (.int .i64 0 : Value)] : Array Value)[1]? = some (.int .i64 0) from rfl); have hqf3_1 := blk_frozen BK3.out 1)
        (have hq4_0 := (blk_cell BK4.out 0).trans (show (#[(.int .u64 2 : Value), (.int .i64 0 : Value), (.slice A8 2 c8 : Value)] : Array Value)[0]? = some (.int .u64 2) from rfl); have hqf4_0 := blk_frozen BK4.out 0; have hq4_1 := (blk_cell BK4.out 1).trans (show (#[(.int .u64 2 : Value), (.int .i64 0 : Value), (.slice A8 2 c8 : Value)] : Array Value)[1]? = some (.int .i64 0) from rfl); have hqf4_1 := blk_frozen BK4.out 1; have hq4_2 := (blk_cell BK4.out 2).trans (show (#[(.int .u64 2 : Value), (.int .i64 0 : Value), (.slice A8 2 c8 : Value)] : Array Value)[2]? = some (.slice A8 2 c8) from rfl); have hqf4_2 := blk_frozen BK4.out 2)
        go_wp2_with fail
        refine (value0 2 3 5 5 A5 c5 _ val1).mono ?_
        rintro e w6 ⟨rfl, hb6⟩
        replace HB := Aside0.mk (below_then HB.out HB.out.size hb6)
        replace BK1 := Aside0.mk (cells_below BK1.out hb6)
        replace BK2 := Aside0.mk (cells_below BK2.out hb6)
        replace BK3 := Aside0.mk (cells_below BK3.out hb6)
        replace BK4 := Aside0.mk (cells_below BK4.out hb6)
        replace HC8 := Aside0.mk (Kd.C_below HC8.out hb6)
        clear hq1_0 hqf1_0 hq1_1 hqf1_1 hq2_0 hqf2_0 hq2_1 hqf2_1 hq2_2 hqf2_2 hq3_0 hqf3_0 hq3_1 hqf3_1 hq4_0 hqf4_0 hq4_1 hqf4_1 hq4_2 hqf4_2
        (have hq1_0 := (blk_cell BK1.out 0).trans (show (#[(.int .i64 2 : Value), (.int .i64 0 : Value)] : Array Value)[0]? = some (.int .i64 2) from rfl); have hqf1_0 := blk_frozen BK1.out 0; have hq1_1 := (blk_cell BK1.out 1).trans (show (#[(.int .i64 2 : Value), (.int .i64 0 : Value)] : Array Value)[1]? = some (.int .i64 0) from rfl); have hqf1_1 := blk_frozen BK1.out 1)
        (have hq2_0 := (blk_cell BK2.out 0).trans (show (#[(.int .u64 3 : Value), (.int .i64 5 : Value), (.slice A5 0 c5 : Value)] : Array Value)[0]? = some (.int .u64 3) from rfl); have hqf2_0 := blk_frozen BK2.out 0; have hq2_1 := (blk_cell BK2.out 1).trans (show (#[(.int .u64 3 : Value), (.int .i64 5 : Value), (.slice A5 0 c5 : Value)] : Array Value)[1]? = some (.int .i64 5) from rfl); have hqf2_1 := blk_frozen BK2.out 1; have hq2_2 := (blk_cell BK2.out 2).trans (show (#[(.int .u64 3 : Value), (.int .i64 5 : Value), (.slice A5 0 c5 : Value)] : Array Value)[2]? = some (.slice A5 0 c5) from rfl); have hqf2_2 := blk_frozen BK2.out 2)
        (have hq3_0 := (blk_cell BK3.out 0).trans (show (#[(.int .i64 5 : Value), (.int .i64 0 : Value)] : Array Value)[0]? = some (.int .i64 5) from rfl); have hqf3_0 := blk_frozen BK3.out 0; have hq3_1 := (blk_cell BK3.out 1).trans (show (#[(.int .i64 5 : Value), (.int .i64 0 : Value)] : Array Value)[1]? = some (.int .i64 0) from rfl); have hqf3_1 := blk_frozen BK3.out 1)
        (have hq4_0 := (blk_cell BK4.out 0).trans (show (#[(.int .u64 2 : Value), (.int .i64 0 : Value), (.slice A8 2 c8 : Value)] : Array Value)[0]? = some (.int .u64 2) from rfl); have hqf4_0 := blk_frozen BK4.out 0; have hq4_1 := (blk_cell BK4.out 1).trans (show (#[(.int .u64 2 : Value), (.int .i64 0 : Value), (.slice A8 2 c8 : Value)] : Array Value)[1]? = some (.int .i64 0) from rfl); have hqf4_1 := blk_frozen BK4.out 1; have hq4_2 := (blk_cell BK4.out 2).trans (show (#[(.int .u64 2 : Value), (.int .i64 0 : Value), (.slice A8 2 c8 : Value)] : Array Value)[2]? = some (.slice A8 2 c8) from rfl); have hqf4_2 := blk_frozen BK4.out 2)
        clear hb6
        go_wp2_with fail
        refine (value2 5 2 0 2 strA strB A8 c8 _ HC8.out HRc8.out val2).mono ?_
        rintro e w7 ⟨rfl, hb7⟩
        replace HB := Aside0.mk (below_then HB.out HB.out.size hb7)
        replace BK1 := Aside0.mk (cells_below BK1.out hb7)
        replace BK2 := Aside0.mk (cells_below BK2.out hb7)
        replace BK3 := Aside0.mk (cells_below BK3.out hb7)
        replace BK4 := Aside0.mk (cells_below BK4.out hb7)
        replace HC8 := Aside0.mk (Kd.C_below HC8.out hb7)
        clear hq1_0 hqf1_0 hq1_1 hqf1_1 hq2_0 hqf2_0 hq2_1 hqf2_1 hq2_2 hqf2_2 hq3_0 hqf3_0 hq3_1 hqf3_1 hq4_0 hqf4_0 hq4_1 hqf4_1 hq4_2 hqf4_2
        (have hq1_0 := (blk_cell BK1.out 0).trans (show (#[(.int .i64 2 : Value), (.int .i64 0 : Value)] : Array Value)[0]? = some (.int .i64 2) from rfl); have hqf1_0 := blk_frozen BK1.out 0; have hq1_1 := (blk_cell BK1.out 1).trans (show (#[(.int .i64 2 : Value), (.int .i64 0 : Value)] : Array Value)[1]? = some (.int .i64 0) from rfl); have hqf1_1 := blk_frozen BK1.out 1)
        (have hq2_0 := (blk_cell BK2.out 0).trans (show (#[(.int .u64 3 : Value), (.int .i64 5 : Value), (.slice A5 0 c5 : Value)] : Array Value)[0]? = some (.int .u64 3) from rfl); have hqf2_0 := blk_frozen BK2.out 0; have hq2_1 := (blk_cell BK2.out 1).trans (show (#[(.int .u64 3 : Value), (.int .i64 5 : Value), (.slice A5 0 c5 : Value)] : Array Value)[1]? = some (.int .i64 5) from rfl); have hqf2_1 := blk_frozen BK2.out 1; have hq2_2 := (blk_cell BK2.out 2).trans (show (#[(.int .u64 3 : Value), (.int .i64 5 : Value), (.slice A5 0 c5 : Value)] : Array Value)[2]? = some (.slice A5 0 c5) from rfl); have hqf2_2 := blk_frozen BK2.out 2)
        (have hq3_0 := (blk_cell BK3.out 0).trans (show (#[(.int .i64 5 : Value), (.int .i64 0 : Value)] : Array Value)[0]? = some (.int .i64 5) from rfl); have hqf3_0 := blk_frozen BK3.out 0; have hq3_1 := (blk_cell BK3.out 1).trans (show (#[(.int .i64 5 : Value), (.int .i64 0 : Value)] : Array Value)[1]? = some (.int .i64 0) from rfl); have hqf3_1 := blk_frozen BK3.out 1)
        (have hq4_0 := (blk_cell BK4.out 0).trans (show (#[(.int .u64 2 : Value), (.int .i64 0 : Value), (.slice A8 2 c8 : Value)] : Array Value)[0]? = some (.int .u64 2) from rfl); have hqf4_0 := blk_frozen BK4.out 0; have hq4_1 := (blk_cell BK4.out 1).trans (show (#[(.int .u64 2 : Value), (.int .i64 0 : Value), (.slice A8 2 c8 : Value)] : Array Value)[1]? = some (.int .i64 0) from rfl); have hqf4_1 := blk_frozen BK4.out 1; have hq4_2 := (blk_cell BK4.out 2).trans (show (#[(.int .u64 2 : Value), (.int .i64 0 : Value), (.slice A8 2 c8 : Value)] : Array Value)[2]? = some (.slice A8 2 c8) from rfl); have hqf4_2 := blk_frozen BK4.out 2)
        clear hb7
        go_wp2_with fail
        refine (check1 0 0 2 0 1 _ _ (C_agg1 (heap_alloc_new _ (.cells #[.int .i64 2, .int .i64 0] 23))) chk).mono ?_
        rintro e w8 ⟨rfl, hb8⟩
        replace HB := Aside0.mk (below_then (below_alloc' HB.out (.cells #[.int .i64 2, .int .i64 0] 23)) (below_alloc' HB.out (.cells #[.int .i64 2, .int .i64 0] 23)).size hb8)
        clear hb8
        go_wp2_with fail
        go_ret
        exact ⟨rfl, HB.out⟩
def gristmilllaw06_awake.f : Option Bool := some true
theorem gristmilllaw06_awake.calls (r : Bool) (w : World) (h : gristmilllaw06_awake.f = some r) : Calls Try.prog 10 #[] w fun e w' => e = .returned (.bool r) ∧ Below w.heap.size w w' := by
  injection h with h
  subst h
  exact gristmilllaw06_awake.calls0 w
end Go.Proofs.Ytmjhgeinhhhodaa.P
end
