/- A fact more: what agg.Add answers. -/
import Derived.Test.YtmjhgeinhhhodaaExtMerge2
namespace Go.Proofs.Ytmjhgeinhhhodaa.P
set_option linter.unusedVariables false
set_option linter.unusedSimpArgs false
open Go.RowKit Go.Proofs.YtmjhgeinhhhodaaW.PrintWords Go.Proofs.YtmjhgeinhhhodaaW.PrintLast Go.Proofs.YtmjhgeinhhhodaaW.PrintMore Go.Proofs.Ytmjhgeinhhhodaa.Lib

theorem C_none (w : World) (A : Option Addr) : Kd.C Kd.string w A ([] : List ByteArray).length [] := ⟨rfl, by simp, fun h => absurd h (by simp)⟩
set_option maxRecDepth 100000 in
set_option maxHeartbeats 400000 in
theorem add_out (k j n1 v1 tm n : Int) (A1 A2 A3 : Option Addr) (l1 l2 : List ByteArray) (l3 : List Int) (c1 c2 c3 : Nat) (w : World) (ka kb kc kd : Value) (HC : Knows k j #[ka, kb, kc, kd] false)
    (h1 : ka.oneCell' = true) (h2 : kb.oneCell' = true) (h3 : kc.oneCell' = true) (h4 : kd.oneCell' = true) (hr1 : Kd.C Kd.string w A1 l1.length l1) (hc1 : l1.length ≤ c1) (r1 r2 : Int) (r3 : List ByteArray) (HM : agg_Merge.f k j n1 v1 l1 0 0 [] = some (r1, r2, r3)) :
    Calls Try.prog 19 #[.agg #[.int .i64 k, .int .i64 j], .agg #[.int .u64 n1, .int .i64 v1, .slice A1 l1.length c1], .agg #[.int .i64 tm, .slice A2 l2.length c2, .slice A3 l3.length c3], .int .u64 n] w (Merged w r1 r2 r3) := by
  have sa := store_fact h1
  have sb := store_fact h2
  have sc := store_fact h3
  have sd := store_fact h4
  have HR1 := Aside0.mk hr1
  have HC1 := Aside0.mk hc1
  clear h1 h2 h3 h4 hr1 hc1
  have hM := Aside0.mk HM
  clear HM
  go_enter Try.func19, Try.ntmps19
  go_wp2_with (first
    | ((with_reducible refine gate_dst (N := 4) rfl ?_); refine box_event ?hg (N := 4) ?hd (cs := #[.int .i64 k, .int .i64 j]) (t := 23) ?hr ?_; (case hd => rfl); (case hg => rfl); (case hr => first | (go_simp; done) | (go_simp; rfl)); intro g1 hg w1 hbox hb; have GE1 := Aside0.mk (Nat.le_of_eq hg.symm); have BK1 := Aside0.mk hbox; have HX1 := Aside0.mk hb; clear hg hbox hb)
    | ((with_reducible refine gate_dst (N := 5) rfl ?_); refine box_event ?hg (N := 5) ?hd (cs := #[.int .u64 n1, .int .i64 v1, .slice A1 l1.length c1]) (t := 33) ?hr ?_; (case hd => rfl); (case hg => rfl); (case hr => first | (go_simp; done) | (go_simp; rfl)); intro g2 hg w2 hbox hb; have GE2 := Aside0.mk (Nat.le_of_eq hg.symm); have BK2 := Aside0.mk hbox; have HX2 := Aside0.mk hb; clear hg hbox hb)
    | (((with_reducible refine gate_dst (N := 6) rfl ?_); refine box_event ?hg (N := 6) ?hd (cs := #[.int .i64 tm, .slice A2 l2.length c2, .slice A3 l3.length c3]) (t := 42) ?hr ?_; (case hd => rfl); (case hg => rfl); (case hr => first | (go_simp; done) | (go_simp; rfl)); intro g3 hg w3 hbox hb; have GE3 := Aside0.mk (Nat.le_of_eq hg.symm); have BK3 := Aside0.mk hbox; have HX3 := Aside0.mk hb; clear hg hbox hb); have BK1b := Aside0.mk (blk_below (blk_below BK1.out HX2.out) HX3.out); have BK2b := Aside0.mk (blk_below BK2.out HX3.out); have HB3 := Aside0.mk (below_then (below_then HX1.out HX1.out.size HX2.out) (Nat.le_trans HX1.out.size HX2.out.size) HX3.out))
    | (((with_reducible refine gate_dst (N := 8) rfl ?_); refine box_event ?hg (N := 8) ?hd (cs := #[.int .u64 0, .int .i64 0, .slice none 0 0]) (t := 33) ?hr ?_; (case hd => rfl); (case hg => rfl); (case hr => first | (go_simp; done) | (go_simp; rfl)); intro g4 hg w4 hbox hb; have GE4 := Aside0.mk (Nat.le_of_eq hg.symm); have BK4 := Aside0.mk hbox; have HX4 := Aside0.mk hb; clear hg hbox hb); have BK1c := Aside0.mk (blk_below BK1b.out HX4.out); have BK2c := Aside0.mk (blk_below BK2b.out HX4.out); have BK3c := Aside0.mk (blk_below BK3.out HX4.out); have HB4 := Aside0.mk (below_then HB3.out HB3.out.size HX4.out); have HG4 := Aside0.mk (Nat.le_trans HB3.out.size GE4.out); (have hg1_0 : w4.cell? ⟨g1, 0, none⟩ = some (.int .i64 k) := (blk_cell BK1c.out 0).trans rfl; have hfg1_0 := blk_frozen BK1c.out 0; have hg1_1 : w4.cell? ⟨g1, 1, none⟩ = some (.int .i64 j) := (blk_cell BK1c.out 1).trans rfl; have hfg1_1 := blk_frozen BK1c.out 1); have hn14 : g1 ≠ g4 := (by have := blk_lt BK1b.out; have := GE4.out; omega); have hn24 : g2 ≠ g4 := (by have := blk_lt BK2b.out; have := GE4.out; omega); have hn34 : g3 ≠ g4 := (by have := blk_lt BK3.out; have := GE4.out; omega))
    | (go_at_call 27; refine (HC _).mono ?_; rintro e w5 ⟨rfl, hb5⟩; have BK4b := Aside0.mk (blk_below BK4.out hb5); have BK1d := Aside0.mk (blk_below BK1c.out hb5); have BK2d := Aside0.mk (blk_below BK2c.out hb5); have BK3d := Aside0.mk (blk_below BK3c.out hb5); have HB5 := Aside0.mk (below_then HB4.out HB4.out.size hb5); clear hb5; clear hg1_0 hfg1_0 hg1_1 hfg1_1)
    | (((with_reducible refine gate_dst (N := 9) rfl ?_); refine box_event ?hg (N := 9) ?hd (cs := #[.bool false, .nilFunc, .nilFunc, .nilFunc]) (t := 61) ?hr ?_; (case hd => rfl); (case hg => rfl); (case hr => first | (go_simp; done) | (go_simp; rfl)); intro g6 hg w6 hbox hb; have GE6 := Aside0.mk (Nat.le_of_eq hg.symm); have BK6 := Aside0.mk hbox; have HX6 := Aside0.mk hb; clear hg hbox hb); have BK4c := Aside0.mk (blk_below BK4b.out HX6.out); have BK1e := Aside0.mk (blk_below BK1d.out HX6.out); have BK2e := Aside0.mk (blk_below BK2d.out HX6.out); have BK3e := Aside0.mk (blk_below BK3d.out HX6.out); have HB6 := Aside0.mk (below_then HB5.out HB5.out.size HX6.out); have HG6 := Aside0.mk (Nat.le_trans HB5.out.size GE6.out); (have hg6_0 : w6.cell? ⟨g6, 0, none⟩ = some (.bool false) := (blk_cell BK6.out 0).trans rfl; have hfg6_0 := blk_frozen BK6.out 0; have hg6_1 : w6.cell? ⟨g6, 1, none⟩ = some (.nilFunc) := (blk_cell BK6.out 1).trans rfl; have hfg6_1 := blk_frozen BK6.out 1; have hg6_2 : w6.cell? ⟨g6, 2, none⟩ = some (.nilFunc) := (blk_cell BK6.out 2).trans rfl; have hfg6_2 := blk_frozen BK6.out 2; have hg6_3 : w6.cell? ⟨g6, 3, none⟩ = some (.nilFunc) := (blk_cell BK6.out 3).trans rfl; have hfg6_3 := blk_frozen BK6.out 3); (have hg1_0 : w6.cell? ⟨g1, 0, none⟩ = some (.int .i64 k) := (blk_cell BK1e.out 0).trans rfl; have hfg1_0 := blk_frozen BK1e.out 0; have hg1_1 : w6.cell? ⟨g1, 1, none⟩ = some (.int .i64 j) := (blk_cell BK1e.out 1).trans rfl; have hfg1_1 := blk_frozen BK1e.out 1); (have hg2_0 : w6.cell? ⟨g2, 0, none⟩ = some (.int .u64 n1) := (blk_cell BK2e.out 0).trans rfl; have hfg2_0 := blk_frozen BK2e.out 0; have hg2_1 : w6.cell? ⟨g2, 1, none⟩ = some (.int .i64 v1) := (blk_cell BK2e.out 1).trans rfl; have hfg2_1 := blk_frozen BK2e.out 1; have hg2_2 : w6.cell? ⟨g2, 2, none⟩ = some (.slice A1 l1.length c1) := (blk_cell BK2e.out 2).trans rfl; have hfg2_2 := blk_frozen BK2e.out 2); (have hg3_0 : w6.cell? ⟨g3, 0, none⟩ = some (.int .i64 tm) := (blk_cell BK3e.out 0).trans rfl; have hfg3_0 := blk_frozen BK3e.out 0; have hg3_1 : w6.cell? ⟨g3, 1, none⟩ = some (.slice A2 l2.length c2) := (blk_cell BK3e.out 1).trans rfl; have hfg3_1 := blk_frozen BK3e.out 1; have hg3_2 : w6.cell? ⟨g3, 2, none⟩ = some (.slice A3 l3.length c3) := (blk_cell BK3e.out 2).trans rfl; have hfg3_2 := blk_frozen BK3e.out 2); have hn16 : g1 ≠ g6 := (by have := blk_lt BK1d.out; have := GE6.out; omega); have hn46 : g4 ≠ g6 := (by have := blk_lt BK4b.out; have := GE6.out; omega); have hn26 : g2 ≠ g6 := (by have := blk_lt BK2d.out; have := GE6.out; omega); have hn36 : g3 ≠ g6 := (by have := blk_lt BK3d.out; have := GE6.out; omega))
    | fail)
  have HBW := Aside0.mk (show Below w.heap.size w (((((w6.setCell ⟨g6, 0, none⟩ (ka)).setCell ⟨g6, 1, none⟩ (kb)).setCell ⟨g6, 2, none⟩ kc).setCell ⟨g6, 3, none⟩ kd)) from (below_set (below_set (below_set (below_set HB6.out HG6.out) HG6.out) HG6.out) HG6.out))
  have BK1W := Aside0.mk (show (((((w6.setCell ⟨g6, 0, none⟩ (ka)).setCell ⟨g6, 1, none⟩ (kb)).setCell ⟨g6, 2, none⟩ kc).setCell ⟨g6, 3, none⟩ kd)).heap[g1]? = some (.cells #[.int .i64 k, .int .i64 j] 23 (0, 0)) from (blk_far (blk_far (blk_far (blk_far BK1e.out hn16 _) hn16 _) hn16 _) hn16 _))
  have BK2W := Aside0.mk (show (((((w6.setCell ⟨g6, 0, none⟩ (ka)).setCell ⟨g6, 1, none⟩ (kb)).setCell ⟨g6, 2, none⟩ kc).setCell ⟨g6, 3, none⟩ kd)).heap[g2]? = some (.cells #[.int .u64 n1, .int .i64 v1, .slice A1 l1.length c1] 33 (0, 0)) from (blk_far (blk_far (blk_far (blk_far BK2e.out hn26 _) hn26 _) hn26 _) hn26 _))
  have BK3W := Aside0.mk (show (((((w6.setCell ⟨g6, 0, none⟩ (ka)).setCell ⟨g6, 1, none⟩ (kb)).setCell ⟨g6, 2, none⟩ kc).setCell ⟨g6, 3, none⟩ kd)).heap[g3]? = some (.cells #[.int .i64 tm, .slice A2 l2.length c2, .slice A3 l3.length c3] 42 (0, 0)) from (blk_far (blk_far (blk_far (blk_far BK3e.out hn36 _) hn36 _) hn36 _) hn36 _))
  have BK4W := Aside0.mk (show (((((w6.setCell ⟨g6, 0, none⟩ (ka)).setCell ⟨g6, 1, none⟩ (kb)).setCell ⟨g6, 2, none⟩ kc).setCell ⟨g6, 3, none⟩ kd)).heap[g4]? = some (.cells #[.int .u64 0, .int .i64 0, .slice none 0 0] 33 (0, 0)) from (blk_far (blk_far (blk_far (blk_far BK4c.out hn46 _) hn46 _) hn46 _) hn46 _))
  have BK6W := Aside0.mk (show (((((w6.setCell ⟨g6, 0, none⟩ (ka)).setCell ⟨g6, 1, none⟩ (kb)).setCell ⟨g6, 2, none⟩ kc).setCell ⟨g6, 3, none⟩ kd)).heap[g6]? = some (.cells #[(ka), (kb), kc, kd] 61 (0, 0)) from (blk_set (blk_set (blk_set (blk_set BK6.out 0 _) 1 _) 2 _) 3 _))
  have HSz := Aside0.mk (show (((((w6.setCell ⟨g6, 0, none⟩ (ka)).setCell ⟨g6, 1, none⟩ (kb)).setCell ⟨g6, 2, none⟩ kc).setCell ⟨g6, 3, none⟩ kd)).heap.size = w6.heap.size by simp)
  clear hg6_0 hfg6_0 hg6_1 hfg6_1 hg6_2 hfg6_2 hg6_3 hfg6_3 hg1_0 hfg1_0 hg1_1 hfg1_1 hg2_0 hfg2_0 hg2_1 hfg2_1 hg2_2 hfg2_2 hg3_0 hfg3_0 hg3_1 hfg3_1 hg3_2 hfg3_2
  generalize ((((w6.setCell ⟨g6, 0, none⟩ (ka)).setCell ⟨g6, 1, none⟩ (kb)).setCell ⟨g6, 2, none⟩ kc).setCell ⟨g6, 3, none⟩ kd) = wW at *
  (try rw [← HSz.out])
  refine (agg_Merge.calls _ _ _ _ _ _ _ _ _ none 0 [] r1 r2 r3 _ (Kd.C_below HR1.out HBW.out) HC1.out (C_none _ _) (Nat.le_refl _) hM.out).mono ?_
  rintro e w9 ⟨v9, rfl, ho9, hb9⟩
  obtain ⟨A9, c9, rfl, -, -⟩ := Kd.R_reads ho9
  have BK4m := Aside0.mk (blk_below BK4W.out hb9)
  have HB9 := Aside0.mk (below_then HBW.out HBW.out.size hb9)
  have HO9 := Aside0.mk ho9
  have HSb := Aside0.mk HBW.out.size
  clear ho9 hb9
  (have hg4_0 : w9.cell? ⟨g4, 0, none⟩ = some (.int .u64 0) := (blk_cell BK4m.out 0).trans rfl; have hfg4_0 := blk_frozen BK4m.out 0; have hg4_1 : w9.cell? ⟨g4, 1, none⟩ = some (.int .i64 0) := (blk_cell BK4m.out 1).trans rfl; have hfg4_1 := blk_frozen BK4m.out 1; have hg4_2 : w9.cell? ⟨g4, 2, none⟩ = some (.slice none 0 0) := (blk_cell BK4m.out 2).trans rfl; have hfg4_2 := blk_frozen BK4m.out 2)
  go_wp2_with fail
  have HT := Aside0.mk (show ∀ q, q ∈ 9 :: Kd.string.E → q ≠ 33 by decide)
  have b1 := blk_set BK4m.out 0 (.int .u64 r1)
  have b2 := blk_set b1 1 (.int .i64 r2)
  have b3 := blk_set b2 2 (.slice A9 r3.length c9)
  have q1 := Kd.R_set (Kd.R_set (Kd.R_set HO9.out BK4m.out HT.out 0 (.int .u64 r1)) b1 HT.out 1 (.int .i64 r2)) b2 HT.out 2 (.slice A9 r3.length c9)
  exact bodyPost_ret (results_cell_row rfl _ _ g4 33 #[.int .u64 r1, .int .i64 r2, .slice A9 r3.length c9] (0, 0) _ rfl b3 Try.underlying33 rfl (by kernel_rfl)) rfl ⟨_, rfl, Kd.R_lower q1 HSb.out, below_set (below_set (below_set HB9.out HG4.out) HG4.out) HG4.out⟩
set_option maxRecDepth 100000 in
set_option maxHeartbeats 400000 in
theorem add_none (k j n1 v1 tm n : Int) (A1 A2 A3 : Option Addr) (l1 l2 : List ByteArray) (l3 : List Int) (c1 c2 c3 : Nat) (w : World) (ka kb kc kd : Value) (HC : Knows k j #[ka, kb, kc, kd] true)
    (h1 : ka.oneCell' = true) (h2 : kb.oneCell' = true) (h3 : kc.oneCell' = true) (h4 : kd.oneCell' = true) (hr1 : Kd.C Kd.string w A1 l1.length l1) (hc1 : l1.length ≤ c1) (r1 r2 : Int) (r3 : List ByteArray) (e1 : (n == 0) = true) (HM : agg_Merge.f k j n1 v1 l1 0 0 [] = some (r1, r2, r3)) :
    Calls Try.prog 19 #[.agg #[.int .i64 k, .int .i64 j], .agg #[.int .u64 n1, .int .i64 v1, .slice A1 l1.length c1], .agg #[.int .i64 tm, .slice A2 l2.length c2, .slice A3 l3.length c3], .int .u64 n] w (Merged w r1 r2 r3) := by
  have sa := store_fact h1
  have sb := store_fact h2
  have sc := store_fact h3
  have sd := store_fact h4
  have HR1 := Aside0.mk hr1
  have HC1 := Aside0.mk hc1
  clear h1 h2 h3 h4 hr1 hc1
  have hM := Aside0.mk HM
  clear HM
  go_enter Try.func19, Try.ntmps19
  go_wp2_with (first
    | ((with_reducible refine gate_dst (N := 4) rfl ?_); refine box_event ?hg (N := 4) ?hd (cs := #[.int .i64 k, .int .i64 j]) (t := 23) ?hr ?_; (case hd => rfl); (case hg => rfl); (case hr => first | (go_simp; done) | (go_simp; rfl)); intro g1 hg w1 hbox hb; have GE1 := Aside0.mk (Nat.le_of_eq hg.symm); have BK1 := Aside0.mk hbox; have HX1 := Aside0.mk hb; clear hg hbox hb)
    | ((with_reducible refine gate_dst (N := 5) rfl ?_); refine box_event ?hg (N := 5) ?hd (cs := #[.int .u64 n1, .int .i64 v1, .slice A1 l1.length c1]) (t := 33) ?hr ?_; (case hd => rfl); (case hg => rfl); (case hr => first | (go_simp; done) | (go_simp; rfl)); intro g2 hg w2 hbox hb; have GE2 := Aside0.mk (Nat.le_of_eq hg.symm); have BK2 := Aside0.mk hbox; have HX2 := Aside0.mk hb; clear hg hbox hb)
    | (((with_reducible refine gate_dst (N := 6) rfl ?_); refine box_event ?hg (N := 6) ?hd (cs := #[.int .i64 tm, .slice A2 l2.length c2, .slice A3 l3.length c3]) (t := 42) ?hr ?_; (case hd => rfl); (case hg => rfl); (case hr => first | (go_simp; done) | (go_simp; rfl)); intro g3 hg w3 hbox hb; have GE3 := Aside0.mk (Nat.le_of_eq hg.symm); have BK3 := Aside0.mk hbox; have HX3 := Aside0.mk hb; clear hg hbox hb); have BK1b := Aside0.mk (blk_below (blk_below BK1.out HX2.out) HX3.out); have BK2b := Aside0.mk (blk_below BK2.out HX3.out); have HB3 := Aside0.mk (below_then (below_then HX1.out HX1.out.size HX2.out) (Nat.le_trans HX1.out.size HX2.out.size) HX3.out))
    | (((with_reducible refine gate_dst (N := 8) rfl ?_); refine box_event ?hg (N := 8) ?hd (cs := #[.int .u64 0, .int .i64 0, .slice none 0 0]) (t := 33) ?hr ?_; (case hd => rfl); (case hg => rfl); (case hr => first | (go_simp; done) | (go_simp; rfl)); intro g4 hg w4 hbox hb; have GE4 := Aside0.mk (Nat.le_of_eq hg.symm); have BK4 := Aside0.mk hbox; have HX4 := Aside0.mk hb; clear hg hbox hb); have BK1c := Aside0.mk (blk_below BK1b.out HX4.out); have BK2c := Aside0.mk (blk_below BK2b.out HX4.out); have BK3c := Aside0.mk (blk_below BK3.out HX4.out); have HB4 := Aside0.mk (below_then HB3.out HB3.out.size HX4.out); have HG4 := Aside0.mk (Nat.le_trans HB3.out.size GE4.out); (have hg1_0 : w4.cell? ⟨g1, 0, none⟩ = some (.int .i64 k) := (blk_cell BK1c.out 0).trans rfl; have hfg1_0 := blk_frozen BK1c.out 0; have hg1_1 : w4.cell? ⟨g1, 1, none⟩ = some (.int .i64 j) := (blk_cell BK1c.out 1).trans rfl; have hfg1_1 := blk_frozen BK1c.out 1); have hn14 : g1 ≠ g4 := (by have := blk_lt BK1b.out; have := GE4.out; omega); have hn24 : g2 ≠ g4 := (by have := blk_lt BK2b.out; have := GE4.out; omega); have hn34 : g3 ≠ g4 := (by have := blk_lt BK3.out; have := GE4.out; omega))
    | (go_at_call 27; refine (HC _).mono ?_; rintro e w5 ⟨rfl, hb5⟩; have BK4b := Aside0.mk (blk_below BK4.out hb5); have BK1d := Aside0.mk (blk_below BK1c.out hb5); have BK2d := Aside0.mk (blk_below BK2c.out hb5); have BK3d := Aside0.mk (blk_below BK3c.out hb5); have HB5 := Aside0.mk (below_then HB4.out HB4.out.size hb5); clear hb5; clear hg1_0 hfg1_0 hg1_1 hfg1_1)
    | (((with_reducible refine gate_dst (N := 9) rfl ?_); refine box_event ?hg (N := 9) ?hd (cs := #[.bool false, .nilFunc, .nilFunc, .nilFunc]) (t := 61) ?hr ?_; (case hd => rfl); (case hg => rfl); (case hr => first | (go_simp; done) | (go_simp; rfl)); intro g6 hg w6 hbox hb; have GE6 := Aside0.mk (Nat.le_of_eq hg.symm); have BK6 := Aside0.mk hbox; have HX6 := Aside0.mk hb; clear hg hbox hb); have BK4c := Aside0.mk (blk_below BK4b.out HX6.out); have BK1e := Aside0.mk (blk_below BK1d.out HX6.out); have BK2e := Aside0.mk (blk_below BK2d.out HX6.out); have BK3e := Aside0.mk (blk_below BK3d.out HX6.out); have HB6 := Aside0.mk (below_then HB5.out HB5.out.size HX6.out); have HG6 := Aside0.mk (Nat.le_trans HB5.out.size GE6.out); (have hg6_0 : w6.cell? ⟨g6, 0, none⟩ = some (.bool false) := (blk_cell BK6.out 0).trans rfl; have hfg6_0 := blk_frozen BK6.out 0; have hg6_1 : w6.cell? ⟨g6, 1, none⟩ = some (.nilFunc) := (blk_cell BK6.out 1).trans rfl; have hfg6_1 := blk_frozen BK6.out 1; have hg6_2 : w6.cell? ⟨g6, 2, none⟩ = some (.nilFunc) := (blk_cell BK6.out 2).trans rfl; have hfg6_2 := blk_frozen BK6.out 2; have hg6_3 : w6.cell? ⟨g6, 3, none⟩ = some (.nilFunc) := (blk_cell BK6.out 3).trans rfl; have hfg6_3 := blk_frozen BK6.out 3); (have hg1_0 : w6.cell? ⟨g1, 0, none⟩ = some (.int .i64 k) := (blk_cell BK1e.out 0).trans rfl; have hfg1_0 := blk_frozen BK1e.out 0; have hg1_1 : w6.cell? ⟨g1, 1, none⟩ = some (.int .i64 j) := (blk_cell BK1e.out 1).trans rfl; have hfg1_1 := blk_frozen BK1e.out 1); (have hg2_0 : w6.cell? ⟨g2, 0, none⟩ = some (.int .u64 n1) := (blk_cell BK2e.out 0).trans rfl; have hfg2_0 := blk_frozen BK2e.out 0; have hg2_1 : w6.cell? ⟨g2, 1, none⟩ = some (.int .i64 v1) := (blk_cell BK2e.out 1).trans rfl; have hfg2_1 := blk_frozen BK2e.out 1; have hg2_2 : w6.cell? ⟨g2, 2, none⟩ = some (.slice A1 l1.length c1) := (blk_cell BK2e.out 2).trans rfl; have hfg2_2 := blk_frozen BK2e.out 2); (have hg3_0 : w6.cell? ⟨g3, 0, none⟩ = some (.int .i64 tm) := (blk_cell BK3e.out 0).trans rfl; have hfg3_0 := blk_frozen BK3e.out 0; have hg3_1 : w6.cell? ⟨g3, 1, none⟩ = some (.slice A2 l2.length c2) := (blk_cell BK3e.out 1).trans rfl; have hfg3_1 := blk_frozen BK3e.out 1; have hg3_2 : w6.cell? ⟨g3, 2, none⟩ = some (.slice A3 l3.length c3) := (blk_cell BK3e.out 2).trans rfl; have hfg3_2 := blk_frozen BK3e.out 2); have hn16 : g1 ≠ g6 := (by have := blk_lt BK1d.out; have := GE6.out; omega); have hn46 : g4 ≠ g6 := (by have := blk_lt BK4b.out; have := GE6.out; omega); have hn26 : g2 ≠ g6 := (by have := blk_lt BK2d.out; have := GE6.out; omega); have hn36 : g3 ≠ g6 := (by have := blk_lt BK3d.out; have := GE6.out; omega))
    | fail)
  have HBW := Aside0.mk (show Below w.heap.size w (((((w6.setCell ⟨g6, 0, none⟩ (ka)).setCell ⟨g6, 1, none⟩ (kb)).setCell ⟨g6, 2, none⟩ kc).setCell ⟨g6, 3, none⟩ kd)) from (below_set (below_set (below_set (below_set HB6.out HG6.out) HG6.out) HG6.out) HG6.out))
  have BK1W := Aside0.mk (show (((((w6.setCell ⟨g6, 0, none⟩ (ka)).setCell ⟨g6, 1, none⟩ (kb)).setCell ⟨g6, 2, none⟩ kc).setCell ⟨g6, 3, none⟩ kd)).heap[g1]? = some (.cells #[.int .i64 k, .int .i64 j] 23 (0, 0)) from (blk_far (blk_far (blk_far (blk_far BK1e.out hn16 _) hn16 _) hn16 _) hn16 _))
  have BK2W := Aside0.mk (show (((((w6.setCell ⟨g6, 0, none⟩ (ka)).setCell ⟨g6, 1, none⟩ (kb)).setCell ⟨g6, 2, none⟩ kc).setCell ⟨g6, 3, none⟩ kd)).heap[g2]? = some (.cells #[.int .u64 n1, .int .i64 v1, .slice A1 l1.length c1] 33 (0, 0)) from (blk_far (blk_far (blk_far (blk_far BK2e.out hn26 _) hn26 _) hn26 _) hn26 _))
  have BK3W := Aside0.mk (show (((((w6.setCell ⟨g6, 0, none⟩ (ka)).setCell ⟨g6, 1, none⟩ (kb)).setCell ⟨g6, 2, none⟩ kc).setCell ⟨g6, 3, none⟩ kd)).heap[g3]? = some (.cells #[.int .i64 tm, .slice A2 l2.length c2, .slice A3 l3.length c3] 42 (0, 0)) from (blk_far (blk_far (blk_far (blk_far BK3e.out hn36 _) hn36 _) hn36 _) hn36 _))
  have BK4W := Aside0.mk (show (((((w6.setCell ⟨g6, 0, none⟩ (ka)).setCell ⟨g6, 1, none⟩ (kb)).setCell ⟨g6, 2, none⟩ kc).setCell ⟨g6, 3, none⟩ kd)).heap[g4]? = some (.cells #[.int .u64 0, .int .i64 0, .slice none 0 0] 33 (0, 0)) from (blk_far (blk_far (blk_far (blk_far BK4c.out hn46 _) hn46 _) hn46 _) hn46 _))
  have BK6W := Aside0.mk (show (((((w6.setCell ⟨g6, 0, none⟩ (ka)).setCell ⟨g6, 1, none⟩ (kb)).setCell ⟨g6, 2, none⟩ kc).setCell ⟨g6, 3, none⟩ kd)).heap[g6]? = some (.cells #[(ka), (kb), kc, kd] 61 (0, 0)) from (blk_set (blk_set (blk_set (blk_set BK6.out 0 _) 1 _) 2 _) 3 _))
  have HSz := Aside0.mk (show (((((w6.setCell ⟨g6, 0, none⟩ (ka)).setCell ⟨g6, 1, none⟩ (kb)).setCell ⟨g6, 2, none⟩ kc).setCell ⟨g6, 3, none⟩ kd)).heap.size = w6.heap.size by simp)
  clear hg6_0 hfg6_0 hg6_1 hfg6_1 hg6_2 hfg6_2 hg6_3 hfg6_3 hg1_0 hfg1_0 hg1_1 hfg1_1 hg2_0 hfg2_0 hg2_1 hfg2_1 hg2_2 hfg2_2 hg3_0 hfg3_0 hg3_1 hfg3_1 hg3_2 hfg3_2
  generalize ((((w6.setCell ⟨g6, 0, none⟩ (ka)).setCell ⟨g6, 1, none⟩ (kb)).setCell ⟨g6, 2, none⟩ kc).setCell ⟨g6, 3, none⟩ kd) = wW at *
  (try rw [← HSz.out])
  refine (agg_Merge.calls _ _ _ _ _ _ _ _ _ none 0 [] r1 r2 r3 _ (Kd.C_below HR1.out HBW.out) HC1.out (C_none _ _) (Nat.le_refl _) hM.out).mono ?_
  rintro e w9 ⟨v9, rfl, ho9, hb9⟩
  obtain ⟨A9, c9, rfl, -, -⟩ := Kd.R_reads ho9
  have BK4m := Aside0.mk (blk_below BK4W.out hb9)
  have HB9 := Aside0.mk (below_then HBW.out HBW.out.size hb9)
  have HO9 := Aside0.mk ho9
  have HSb := Aside0.mk HBW.out.size
  clear ho9 hb9
  (have hg4_0 : w9.cell? ⟨g4, 0, none⟩ = some (.int .u64 0) := (blk_cell BK4m.out 0).trans rfl; have hfg4_0 := blk_frozen BK4m.out 0; have hg4_1 : w9.cell? ⟨g4, 1, none⟩ = some (.int .i64 0) := (blk_cell BK4m.out 1).trans rfl; have hfg4_1 := blk_frozen BK4m.out 1; have hg4_2 : w9.cell? ⟨g4, 2, none⟩ = some (.slice none 0 0) := (blk_cell BK4m.out 2).trans rfl; have hfg4_2 := blk_frozen BK4m.out 2)
  go_wp2_with fail
  have HT := Aside0.mk (show ∀ q, q ∈ 9 :: Kd.string.E → q ≠ 33 by decide)
  have b1 := blk_set BK4m.out 0 (.int .u64 r1)
  have b2 := blk_set b1 1 (.int .i64 r2)
  have b3 := blk_set b2 2 (.slice A9 r3.length c9)
  have q1 := Kd.R_set (Kd.R_set (Kd.R_set HO9.out BK4m.out HT.out 0 (.int .u64 r1)) b1 HT.out 1 (.int .i64 r2)) b2 HT.out 2 (.slice A9 r3.length c9)
  exact bodyPost_ret (results_cell_row rfl _ _ g4 33 #[.int .u64 r1, .int .i64 r2, .slice A9 r3.length c9] (0, 0) _ rfl b3 Try.underlying33 rfl (by kernel_rfl)) rfl ⟨_, rfl, Kd.R_lower q1 HSb.out, below_set (below_set (below_set HB9.out HG4.out) HG4.out) HG4.out⟩
theorem nil_neq2 (u : World) : (binOp .neq 57 .nilFunc .nilFunc).run Try.prog u = .ok (.bool false) u := by kernel_rfl
theorem fn_neq2 (m : Nat) (u : World) : (binOp .neq 57 (.func (.func m) #[] #[]) .nilFunc).run Try.prog u = .ok (.bool true) u := by kernel_rfl
set_option maxRecDepth 100000 in
set_option maxHeartbeats 3200000 in
theorem add_count (k j n1 v1 tm n : Int) (A1 A2 A3 : Option Addr) (l1 l2 : List ByteArray) (l3 : List Int) (c1 c2 c3 : Nat) (w : World) (ka kb kc kd : Value) (HC : Knows k j #[ka, kb, kc, kd] true)
    (h1 : ka.oneCell' = true) (h2 : kb.oneCell' = true) (h3 : kc.oneCell' = true) (h4 : kd.oneCell' = true) (hr1 : Kd.C Kd.string w A1 l1.length l1) (hc1 : l1.length ≤ c1) (r1 r2 : Int) (r3 : List ByteArray) (e1 : (n == 0) = false) (hka : ka = .bool false) (hkb : kb = .nilFunc) (HM : agg_Merge.f k j n1 v1 l1 n 0 [] = some (r1, r2, r3)) :
    Calls Try.prog 19 #[.agg #[.int .i64 k, .int .i64 j], .agg #[.int .u64 n1, .int .i64 v1, .slice A1 l1.length c1], .agg #[.int .i64 tm, .slice A2 l2.length c2, .slice A3 l3.length c3], .int .u64 n] w (Merged w r1 r2 r3) := by
  have sa := store_fact h1
  have sb := store_fact h2
  have sc := store_fact h3
  have sd := store_fact h4
  have HR1 := Aside0.mk hr1
  have HC1 := Aside0.mk hc1
  clear h1 h2 h3 h4 hr1 hc1
  subst hka
  subst hkb
  have hcmp := nil_neq2
  have hM := Aside0.mk HM
  clear HM
  go_enter Try.func19, Try.ntmps19
  go_wp2_with (first
    | ((with_reducible refine gate_dst (N := 4) rfl ?_); refine box_event ?hg (N := 4) ?hd (cs := #[.int .i64 k, .int .i64 j]) (t := 23) ?hr ?_; (case hd => rfl); (case hg => rfl); (case hr => first | (go_simp; done) | (go_simp; rfl)); intro g1 hg w1 hbox hb; have GE1 := Aside0.mk (Nat.le_of_eq hg.symm); have BK1 := Aside0.mk hbox; have HX1 := Aside0.mk hb; clear hg hbox hb)
    | ((with_reducible refine gate_dst (N := 5) rfl ?_); refine box_event ?hg (N := 5) ?hd (cs := #[.int .u64 n1, .int .i64 v1, .slice A1 l1.length c1]) (t := 33) ?hr ?_; (case hd => rfl); (case hg => rfl); (case hr => first | (go_simp; done) | (go_simp; rfl)); intro g2 hg w2 hbox hb; have GE2 := Aside0.mk (Nat.le_of_eq hg.symm); have BK2 := Aside0.mk hbox; have HX2 := Aside0.mk hb; clear hg hbox hb)
    | (((with_reducible refine gate_dst (N := 6) rfl ?_); refine box_event ?hg (N := 6) ?hd (cs := #[.int .i64 tm, .slice A2 l2.length c2, .slice A3 l3.length c3]) (t := 42) ?hr ?_; (case hd => rfl); (case hg => rfl); (case hr => first | (go_simp; done) | (go_simp; rfl)); intro g3 hg w3 hbox hb; have GE3 := Aside0.mk (Nat.le_of_eq hg.symm); have BK3 := Aside0.mk hbox; have HX3 := Aside0.mk hb; clear hg hbox hb); have BK1b := Aside0.mk (blk_below (blk_below BK1.out HX2.out) HX3.out); have BK2b := Aside0.mk (blk_below BK2.out HX3.out); have HB3 := Aside0.mk (below_then (below_then HX1.out HX1.out.size HX2.out) (Nat.le_trans HX1.out.size HX2.out.size) HX3.out))
    | (((with_reducible refine gate_dst (N := 8) rfl ?_); refine box_event ?hg (N := 8) ?hd (cs := #[.int .u64 0, .int .i64 0, .slice none 0 0]) (t := 33) ?hr ?_; (case hd => rfl); (case hg => rfl); (case hr => first | (go_simp; done) | (go_simp; rfl)); intro g4 hg w4 hbox hb; have GE4 := Aside0.mk (Nat.le_of_eq hg.symm); have BK4 := Aside0.mk hbox; have HX4 := Aside0.mk hb; clear hg hbox hb); have BK1c := Aside0.mk (blk_below BK1b.out HX4.out); have BK2c := Aside0.mk (blk_below BK2b.out HX4.out); have BK3c := Aside0.mk (blk_below BK3.out HX4.out); have HB4 := Aside0.mk (below_then HB3.out HB3.out.size HX4.out); have HG4 := Aside0.mk (Nat.le_trans HB3.out.size GE4.out); (have hg1_0 : w4.cell? ⟨g1, 0, none⟩ = some (.int .i64 k) := (blk_cell BK1c.out 0).trans rfl; have hfg1_0 := blk_frozen BK1c.out 0; have hg1_1 : w4.cell? ⟨g1, 1, none⟩ = some (.int .i64 j) := (blk_cell BK1c.out 1).trans rfl; have hfg1_1 := blk_frozen BK1c.out 1); have hn14 : g1 ≠ g4 := (by have := blk_lt BK1b.out; have := GE4.out; omega); have hn24 : g2 ≠ g4 := (by have := blk_lt BK2b.out; have := GE4.out; omega); have hn34 : g3 ≠ g4 := (by have := blk_lt BK3.out; have := GE4.out; omega))
    | (go_at_call 27; refine (HC _).mono ?_; rintro e w5 ⟨rfl, hb5⟩; have BK4b := Aside0.mk (blk_below BK4.out hb5); have BK1d := Aside0.mk (blk_below BK1c.out hb5); have BK2d := Aside0.mk (blk_below BK2c.out hb5); have BK3d := Aside0.mk (blk_below BK3c.out hb5); have HB5 := Aside0.mk (below_then HB4.out HB4.out.size hb5); clear hb5; clear hg1_0 hfg1_0 hg1_1 hfg1_1)
    | (((with_reducible refine gate_dst (N := 9) rfl ?_); refine box_event ?hg (N := 9) ?hd (cs := #[.bool false, .nilFunc, .nilFunc, .nilFunc]) (t := 61) ?hr ?_; (case hd => rfl); (case hg => rfl); (case hr => first | (go_simp; done) | (go_simp; rfl)); intro g6 hg w6 hbox hb; have GE6 := Aside0.mk (Nat.le_of_eq hg.symm); have BK6 := Aside0.mk hbox; have HX6 := Aside0.mk hb; clear hg hbox hb); have BK4c := Aside0.mk (blk_below BK4b.out HX6.out); have BK1e := Aside0.mk (blk_below BK1d.out HX6.out); have BK2e := Aside0.mk (blk_below BK2d.out HX6.out); have BK3e := Aside0.mk (blk_below BK3d.out HX6.out); have HB6 := Aside0.mk (below_then HB5.out HB5.out.size HX6.out); have HG6 := Aside0.mk (Nat.le_trans HB5.out.size GE6.out); (have hg6_0 : w6.cell? ⟨g6, 0, none⟩ = some (.bool false) := (blk_cell BK6.out 0).trans rfl; have hfg6_0 := blk_frozen BK6.out 0; have hg6_1 : w6.cell? ⟨g6, 1, none⟩ = some (.nilFunc) := (blk_cell BK6.out 1).trans rfl; have hfg6_1 := blk_frozen BK6.out 1; have hg6_2 : w6.cell? ⟨g6, 2, none⟩ = some (.nilFunc) := (blk_cell BK6.out 2).trans rfl; have hfg6_2 := blk_frozen BK6.out 2; have hg6_3 : w6.cell? ⟨g6, 3, none⟩ = some (.nilFunc) := (blk_cell BK6.out 3).trans rfl; have hfg6_3 := blk_frozen BK6.out 3); (have hg1_0 : w6.cell? ⟨g1, 0, none⟩ = some (.int .i64 k) := (blk_cell BK1e.out 0).trans rfl; have hfg1_0 := blk_frozen BK1e.out 0; have hg1_1 : w6.cell? ⟨g1, 1, none⟩ = some (.int .i64 j) := (blk_cell BK1e.out 1).trans rfl; have hfg1_1 := blk_frozen BK1e.out 1); (have hg2_0 : w6.cell? ⟨g2, 0, none⟩ = some (.int .u64 n1) := (blk_cell BK2e.out 0).trans rfl; have hfg2_0 := blk_frozen BK2e.out 0; have hg2_1 : w6.cell? ⟨g2, 1, none⟩ = some (.int .i64 v1) := (blk_cell BK2e.out 1).trans rfl; have hfg2_1 := blk_frozen BK2e.out 1; have hg2_2 : w6.cell? ⟨g2, 2, none⟩ = some (.slice A1 l1.length c1) := (blk_cell BK2e.out 2).trans rfl; have hfg2_2 := blk_frozen BK2e.out 2); (have hg3_0 : w6.cell? ⟨g3, 0, none⟩ = some (.int .i64 tm) := (blk_cell BK3e.out 0).trans rfl; have hfg3_0 := blk_frozen BK3e.out 0; have hg3_1 : w6.cell? ⟨g3, 1, none⟩ = some (.slice A2 l2.length c2) := (blk_cell BK3e.out 1).trans rfl; have hfg3_1 := blk_frozen BK3e.out 1; have hg3_2 : w6.cell? ⟨g3, 2, none⟩ = some (.slice A3 l3.length c3) := (blk_cell BK3e.out 2).trans rfl; have hfg3_2 := blk_frozen BK3e.out 2); have hn16 : g1 ≠ g6 := (by have := blk_lt BK1d.out; have := GE6.out; omega); have hn46 : g4 ≠ g6 := (by have := blk_lt BK4b.out; have := GE6.out; omega); have hn26 : g2 ≠ g6 := (by have := blk_lt BK2d.out; have := GE6.out; omega); have hn36 : g3 ≠ g6 := (by have := blk_lt BK3d.out; have := GE6.out; omega))
    | (((with_reducible refine gate_dst (N := 11) rfl ?_); refine box_event ?hg (N := 11) ?hd (cs := #[.int .u64 0, .int .i64 0, .slice none 0 0]) (t := 33) ?hr ?_; (case hd => rfl); (case hg => rfl); (case hr => first | (go_simp; done) | (go_simp; rfl)); intro g8 hg w8 hbox hb; have GE8 := Aside0.mk (Nat.le_of_eq hg.symm); have BK8 := Aside0.mk hbox; have HX8 := Aside0.mk hb; clear hg hbox hb); have hsz8 : w6.heap.size ≤ g8 := (by have := GE8.out; simpa using this); have HB8 := Aside0.mk (below_then (below_set (below_set (below_set (below_set HB6.out HG6.out) HG6.out) HG6.out) HG6.out) (by simp; exact HB6.out.size) HX8.out); have BK1f := Aside0.mk (blk_below (blk_far (blk_far (blk_far (blk_far BK1e.out hn16 _) hn16 _) hn16 _) hn16 _) HX8.out); have hn18 : g1 ≠ g8 := (by have := blk_lt BK1e.out; omega); have BK2f := Aside0.mk (blk_below (blk_far (blk_far (blk_far (blk_far BK2e.out hn26 _) hn26 _) hn26 _) hn26 _) HX8.out); have hn28 : g2 ≠ g8 := (by have := blk_lt BK2e.out; omega); have BK3f := Aside0.mk (blk_below (blk_far (blk_far (blk_far (blk_far BK3e.out hn36 _) hn36 _) hn36 _) hn36 _) HX8.out); have hn38 : g3 ≠ g8 := (by have := blk_lt BK3e.out; omega); have BK4f := Aside0.mk (blk_below (blk_far (blk_far (blk_far (blk_far BK4c.out hn46 _) hn46 _) hn46 _) hn46 _) HX8.out); have hn48 : g4 ≠ g8 := (by have := blk_lt BK4c.out; omega); have BK6f := Aside0.mk (blk_below (blk_set (blk_set (blk_set (blk_set BK6.out 0 _) 1 _) 2 _) 3 _) HX8.out); have hn68 : g6 ≠ g8 := (by have := blk_lt BK6.out; omega); have HG8 := Aside0.mk (Nat.le_trans HB6.out.size hsz8); clear hsz8 hg6_0 hfg6_0 hg6_1 hfg6_1 hg6_2 hfg6_2 hg6_3 hfg6_3 hg1_0 hfg1_0 hg1_1 hfg1_1 hg2_0 hfg2_0 hg2_1 hfg2_1 hg2_2 hfg2_2 hg3_0 hfg3_0 hg3_1 hfg3_1 hg3_2 hfg3_2; (have hg6_0 : w8.cell? ⟨g6, 0, none⟩ = some (.bool false) := (blk_cell BK6f.out 0).trans rfl; have hfg6_0 := blk_frozen BK6f.out 0; have hg6_1 : w8.cell? ⟨g6, 1, none⟩ = some (.nilFunc) := (blk_cell BK6f.out 1).trans rfl; have hfg6_1 := blk_frozen BK6f.out 1; have hg6_2 : w8.cell? ⟨g6, 2, none⟩ = some (kc) := (blk_cell BK6f.out 2).trans rfl; have hfg6_2 := blk_frozen BK6f.out 2; have hg6_3 : w8.cell? ⟨g6, 3, none⟩ = some (kd) := (blk_cell BK6f.out 3).trans rfl; have hfg6_3 := blk_frozen BK6f.out 3); (have hg1_0 : w8.cell? ⟨g1, 0, none⟩ = some (.int .i64 k) := (blk_cell BK1f.out 0).trans rfl; have hfg1_0 := blk_frozen BK1f.out 0; have hg1_1 : w8.cell? ⟨g1, 1, none⟩ = some (.int .i64 j) := (blk_cell BK1f.out 1).trans rfl; have hfg1_1 := blk_frozen BK1f.out 1); (have hg2_0 : w8.cell? ⟨g2, 0, none⟩ = some (.int .u64 n1) := (blk_cell BK2f.out 0).trans rfl; have hfg2_0 := blk_frozen BK2f.out 0; have hg2_1 : w8.cell? ⟨g2, 1, none⟩ = some (.int .i64 v1) := (blk_cell BK2f.out 1).trans rfl; have hfg2_1 := blk_frozen BK2f.out 1; have hg2_2 : w8.cell? ⟨g2, 2, none⟩ = some (.slice A1 l1.length c1) := (blk_cell BK2f.out 2).trans rfl; have hfg2_2 := blk_frozen BK2f.out 2); (have hg3_0 : w8.cell? ⟨g3, 0, none⟩ = some (.int .i64 tm) := (blk_cell BK3f.out 0).trans rfl; have hfg3_0 := blk_frozen BK3f.out 0; have hg3_1 : w8.cell? ⟨g3, 1, none⟩ = some (.slice A2 l2.length c2) := (blk_cell BK3f.out 1).trans rfl; have hfg3_1 := blk_frozen BK3f.out 1; have hg3_2 : w8.cell? ⟨g3, 2, none⟩ = some (.slice A3 l3.length c3) := (blk_cell BK3f.out 2).trans rfl; have hfg3_2 := blk_frozen BK3f.out 2); (have hg8_0 : w8.cell? ⟨g8, 0, none⟩ = some (.int .u64 0) := (blk_cell BK8.out 0).trans rfl; have hfg8_0 := blk_frozen BK8.out 0; have hg8_1 : w8.cell? ⟨g8, 1, none⟩ = some (.int .i64 0) := (blk_cell BK8.out 1).trans rfl; have hfg8_1 := blk_frozen BK8.out 1; have hg8_2 : w8.cell? ⟨g8, 2, none⟩ = some (.slice none 0 0) := (blk_cell BK8.out 2).trans rfl; have hfg8_2 := blk_frozen BK8.out 2))
    | fail)
  have HBq := Aside0.mk (show Below w.heap.size w (((w8.setCell ⟨g8, 0, none⟩ (.int .u64 n)).setCell ⟨g8, 1, none⟩ (.int .i64 0)).setCell ⟨g8, 2, none⟩ (.slice none 0 0)) from below_set (below_set (below_set HB8.out HG8.out) HG8.out) HG8.out)
  have BK4q := Aside0.mk (show (((w8.setCell ⟨g8, 0, none⟩ (.int .u64 n)).setCell ⟨g8, 1, none⟩ (.int .i64 0)).setCell ⟨g8, 2, none⟩ (.slice none 0 0)).heap[g4]? = some (.cells #[.int .u64 0, .int .i64 0, .slice none 0 0] 33 (0, 0)) from blk_far (blk_far (blk_far BK4f.out hn48 _) hn48 _) hn48 _)
  clear hg6_0 hfg6_0 hg6_1 hfg6_1 hg6_2 hfg6_2 hg6_3 hfg6_3 hg1_0 hfg1_0 hg1_1 hfg1_1 hg2_0 hfg2_0 hg2_1 hfg2_1 hg2_2 hfg2_2 hg3_0 hfg3_0 hg3_1 hfg3_1 hg3_2 hfg3_2 hg8_0 hfg8_0 hg8_1 hfg8_1 hg8_2 hfg8_2
  refine (agg_Merge.calls _ _ _ _ _ _ _ _ _ none 0 [] r1 r2 r3 _ (Kd.C_below HR1.out HBq.out) HC1.out (C_none _ _) (Nat.le_refl _) hM.out).mono ?_
  rintro e w9 ⟨v9, rfl, ho9, hb9⟩
  obtain ⟨A9, c9, rfl, -, -⟩ := Kd.R_reads ho9
  have BK4m := Aside0.mk (blk_below BK4q.out hb9)
  have HB9 := Aside0.mk (below_then HBq.out HBq.out.size hb9)
  have HO9 := Aside0.mk ho9
  have HSb := Aside0.mk HBq.out.size
  clear ho9 hb9
  (have hg4_0 : w9.cell? ⟨g4, 0, none⟩ = some (.int .u64 0) := (blk_cell BK4m.out 0).trans rfl; have hfg4_0 := blk_frozen BK4m.out 0; have hg4_1 : w9.cell? ⟨g4, 1, none⟩ = some (.int .i64 0) := (blk_cell BK4m.out 1).trans rfl; have hfg4_1 := blk_frozen BK4m.out 1; have hg4_2 : w9.cell? ⟨g4, 2, none⟩ = some (.slice none 0 0) := (blk_cell BK4m.out 2).trans rfl; have hfg4_2 := blk_frozen BK4m.out 2)
  go_wp2_with fail
  have HT := Aside0.mk (show ∀ q, q ∈ 9 :: Kd.string.E → q ≠ 33 by decide)
  have b1 := blk_set BK4m.out 0 (.int .u64 r1)
  have b2 := blk_set b1 1 (.int .i64 r2)
  have b3 := blk_set b2 2 (.slice A9 r3.length c9)
  have q1 := Kd.R_set (Kd.R_set (Kd.R_set HO9.out BK4m.out HT.out 0 (.int .u64 r1)) b1 HT.out 1 (.int .i64 r2)) b2 HT.out 2 (.slice A9 r3.length c9)
  exact bodyPost_ret (results_cell_row rfl _ _ g4 33 #[.int .u64 r1, .int .i64 r2, .slice A9 r3.length c9] (0, 0) _ rfl b3 Try.underlying33 rfl (by kernel_rfl)) rfl ⟨_, rfl, Kd.R_lower q1 HSb.out, below_set (below_set (below_set HB9.out HG4.out) HG4.out) HG4.out⟩
set_option maxRecDepth 100000 in
set_option maxHeartbeats 3200000 in
theorem add_num (k j n1 v1 tm n : Int) (A1 A2 A3 : Option Addr) (l1 l2 : List ByteArray) (l3 : List Int) (c1 c2 c3 : Nat) (w : World) (ka kb kc kd : Value) (HC : Knows k j #[ka, kb, kc, kd] true)
    (h1 : ka.oneCell' = true) (h2 : kb.oneCell' = true) (h3 : kc.oneCell' = true) (h4 : kd.oneCell' = true) (hr1 : Kd.C Kd.string w A1 l1.length l1) (hc1 : l1.length ≤ c1) (r1 r2 : Int) (r3 : List ByteArray) (e1 : (n == 0) = false) (hka : ka = .bool false) (m : Nat) (hkb : kb = fn m) (hj0 : 0 ≤ j) (hj : j < (l3.length : Int)) (hr3 : Kd.C (Kd.int .i64) w A3 l3.length l3) (f : Func) (hf : Try.prog.funcs[m]? = some f) (hname : (f.name == "runtime.NumGoroutine") = false) (hbody : f.body.isSome = true) (y : Int) (HV : Aside0 (∀ u, Calls Try.prog m #[.int .i64 (rd l3 j), .int .u64 n] u fun e w' => e = .returned (.int .i64 y) ∧ Below u.heap.size u w')) (HM : agg_Merge.f k j n1 v1 l1 n y [] = some (r1, r2, r3)) :
    Calls Try.prog 19 #[.agg #[.int .i64 k, .int .i64 j], .agg #[.int .u64 n1, .int .i64 v1, .slice A1 l1.length c1], .agg #[.int .i64 tm, .slice A2 l2.length c2, .slice A3 l3.length c3], .int .u64 n] w (Merged w r1 r2 r3) := by
  have sa := store_fact h1
  have sb := store_fact h2
  have sc := store_fact h3
  have sd := store_fact h4
  have HR1 := Aside0.mk hr1
  have HC1 := Aside0.mk hc1
  clear h1 h2 h3 h4 hr1 hc1
  subst hka
  subst hkb
  have hcmp := fn_neq2 m
  have HF := Aside0.mk hf
  have HNm := Aside0.mk hname
  have HBd := Aside0.mk hbody
  clear hf hname hbody
  have hM := Aside0.mk HM
  clear HM
  obtain ⟨ad, cc, hA3, hcl, hcK, hcc⟩ := Kd.C_get hr3 (0 : Int) j hj0 hj
  have HE := Aside0.mk (show w.cell? (ad.add j.toNat) = some (.int .i64 (rd l3 j)) from by
    have h1 : cc = [Value.int .i64 (l3.getD j.toNat 0)] := hcK
    subst h1
    have h2 := hcc 0 _ rfl
    have e : (Kd.int .i64).sz = 1 := rfl
    rw [e, Nat.mul_one, Nat.add_zero] at h2
    exact h2)
  have HA3 := Aside0.mk hA3
  clear hcl hcK hcc hr3 hA3
  have HV2 : Aside0 (∀ u, Calls Try.prog m (#[] ++ #[.int .i64 (rd l3 j), .int .u64 n] ++ #[]) u fun e w' => e = .returned (.int .i64 y) ∧ Below u.heap.size u w') := ⟨fun u => by have h := HV.out u; simpa using h⟩
  have d0 : decide (0 ≤ j) = true := decide_eq_true hj0
  have d1 : decide (j < (l3.length : Int)) = true := decide_eq_true hj
  go_enter Try.func19, Try.ntmps19
  go_wp2_with (first
    | ((with_reducible refine gate_dst (N := 4) rfl ?_); refine box_event ?hg (N := 4) ?hd (cs := #[.int .i64 k, .int .i64 j]) (t := 23) ?hr ?_; (case hd => rfl); (case hg => rfl); (case hr => first | (go_simp; done) | (go_simp; rfl)); intro g1 hg w1 hbox hb; have GE1 := Aside0.mk (Nat.le_of_eq hg.symm); have BK1 := Aside0.mk hbox; have HX1 := Aside0.mk hb; clear hg hbox hb)
    | ((with_reducible refine gate_dst (N := 5) rfl ?_); refine box_event ?hg (N := 5) ?hd (cs := #[.int .u64 n1, .int .i64 v1, .slice A1 l1.length c1]) (t := 33) ?hr ?_; (case hd => rfl); (case hg => rfl); (case hr => first | (go_simp; done) | (go_simp; rfl)); intro g2 hg w2 hbox hb; have GE2 := Aside0.mk (Nat.le_of_eq hg.symm); have BK2 := Aside0.mk hbox; have HX2 := Aside0.mk hb; clear hg hbox hb)
    | (((with_reducible refine gate_dst (N := 6) rfl ?_); refine box_event ?hg (N := 6) ?hd (cs := #[.int .i64 tm, .slice A2 l2.length c2, .slice A3 l3.length c3]) (t := 42) ?hr ?_; (case hd => rfl); (case hg => rfl); (case hr => first | (go_simp; done) | (go_simp; rfl)); intro g3 hg w3 hbox hb; have GE3 := Aside0.mk (Nat.le_of_eq hg.symm); have BK3 := Aside0.mk hbox; have HX3 := Aside0.mk hb; clear hg hbox hb); have BK1b := Aside0.mk (blk_below (blk_below BK1.out HX2.out) HX3.out); have BK2b := Aside0.mk (blk_below BK2.out HX3.out); have HB3 := Aside0.mk (below_then (below_then HX1.out HX1.out.size HX2.out) (Nat.le_trans HX1.out.size HX2.out.size) HX3.out))
    | (((with_reducible refine gate_dst (N := 8) rfl ?_); refine box_event ?hg (N := 8) ?hd (cs := #[.int .u64 0, .int .i64 0, .slice none 0 0]) (t := 33) ?hr ?_; (case hd => rfl); (case hg => rfl); (case hr => first | (go_simp; done) | (go_simp; rfl)); intro g4 hg w4 hbox hb; have GE4 := Aside0.mk (Nat.le_of_eq hg.symm); have BK4 := Aside0.mk hbox; have HX4 := Aside0.mk hb; clear hg hbox hb); have BK1c := Aside0.mk (blk_below BK1b.out HX4.out); have BK2c := Aside0.mk (blk_below BK2b.out HX4.out); have BK3c := Aside0.mk (blk_below BK3.out HX4.out); have HB4 := Aside0.mk (below_then HB3.out HB3.out.size HX4.out); have HG4 := Aside0.mk (Nat.le_trans HB3.out.size GE4.out); (have hg1_0 : w4.cell? ⟨g1, 0, none⟩ = some (.int .i64 k) := (blk_cell BK1c.out 0).trans rfl; have hfg1_0 := blk_frozen BK1c.out 0; have hg1_1 : w4.cell? ⟨g1, 1, none⟩ = some (.int .i64 j) := (blk_cell BK1c.out 1).trans rfl; have hfg1_1 := blk_frozen BK1c.out 1); have hn14 : g1 ≠ g4 := (by have := blk_lt BK1b.out; have := GE4.out; omega); have hn24 : g2 ≠ g4 := (by have := blk_lt BK2b.out; have := GE4.out; omega); have hn34 : g3 ≠ g4 := (by have := blk_lt BK3.out; have := GE4.out; omega))
    | (go_at_call 27; refine (HC _).mono ?_; rintro e w5 ⟨rfl, hb5⟩; have BK4b := Aside0.mk (blk_below BK4.out hb5); have BK1d := Aside0.mk (blk_below BK1c.out hb5); have BK2d := Aside0.mk (blk_below BK2c.out hb5); have BK3d := Aside0.mk (blk_below BK3c.out hb5); have HB5 := Aside0.mk (below_then HB4.out HB4.out.size hb5); clear hb5; clear hg1_0 hfg1_0 hg1_1 hfg1_1)
    | (((with_reducible refine gate_dst (N := 9) rfl ?_); refine box_event ?hg (N := 9) ?hd (cs := #[.bool false, .nilFunc, .nilFunc, .nilFunc]) (t := 61) ?hr ?_; (case hd => rfl); (case hg => rfl); (case hr => first | (go_simp; done) | (go_simp; rfl)); intro g6 hg w6 hbox hb; have GE6 := Aside0.mk (Nat.le_of_eq hg.symm); have BK6 := Aside0.mk hbox; have HX6 := Aside0.mk hb; clear hg hbox hb); have BK4c := Aside0.mk (blk_below BK4b.out HX6.out); have BK1e := Aside0.mk (blk_below BK1d.out HX6.out); have BK2e := Aside0.mk (blk_below BK2d.out HX6.out); have BK3e := Aside0.mk (blk_below BK3d.out HX6.out); have HB6 := Aside0.mk (below_then HB5.out HB5.out.size HX6.out); have HG6 := Aside0.mk (Nat.le_trans HB5.out.size GE6.out); (have hg6_0 : w6.cell? ⟨g6, 0, none⟩ = some (.bool false) := (blk_cell BK6.out 0).trans rfl; have hfg6_0 := blk_frozen BK6.out 0; have hg6_1 : w6.cell? ⟨g6, 1, none⟩ = some (.nilFunc) := (blk_cell BK6.out 1).trans rfl; have hfg6_1 := blk_frozen BK6.out 1; have hg6_2 : w6.cell? ⟨g6, 2, none⟩ = some (.nilFunc) := (blk_cell BK6.out 2).trans rfl; have hfg6_2 := blk_frozen BK6.out 2; have hg6_3 : w6.cell? ⟨g6, 3, none⟩ = some (.nilFunc) := (blk_cell BK6.out 3).trans rfl; have hfg6_3 := blk_frozen BK6.out 3); (have hg1_0 : w6.cell? ⟨g1, 0, none⟩ = some (.int .i64 k) := (blk_cell BK1e.out 0).trans rfl; have hfg1_0 := blk_frozen BK1e.out 0; have hg1_1 : w6.cell? ⟨g1, 1, none⟩ = some (.int .i64 j) := (blk_cell BK1e.out 1).trans rfl; have hfg1_1 := blk_frozen BK1e.out 1); (have hg2_0 : w6.cell? ⟨g2, 0, none⟩ = some (.int .u64 n1) := (blk_cell BK2e.out 0).trans rfl; have hfg2_0 := blk_frozen BK2e.out 0; have hg2_1 : w6.cell? ⟨g2, 1, none⟩ = some (.int .i64 v1) := (blk_cell BK2e.out 1).trans rfl; have hfg2_1 := blk_frozen BK2e.out 1; have hg2_2 : w6.cell? ⟨g2, 2, none⟩ = some (.slice A1 l1.length c1) := (blk_cell BK2e.out 2).trans rfl; have hfg2_2 := blk_frozen BK2e.out 2); (have hg3_0 : w6.cell? ⟨g3, 0, none⟩ = some (.int .i64 tm) := (blk_cell BK3e.out 0).trans rfl; have hfg3_0 := blk_frozen BK3e.out 0; have hg3_1 : w6.cell? ⟨g3, 1, none⟩ = some (.slice A2 l2.length c2) := (blk_cell BK3e.out 1).trans rfl; have hfg3_1 := blk_frozen BK3e.out 1; have hg3_2 : w6.cell? ⟨g3, 2, none⟩ = some (.slice A3 l3.length c3) := (blk_cell BK3e.out 2).trans rfl; have hfg3_2 := blk_frozen BK3e.out 2); have hn16 : g1 ≠ g6 := (by have := blk_lt BK1d.out; have := GE6.out; omega); have hn46 : g4 ≠ g6 := (by have := blk_lt BK4b.out; have := GE6.out; omega); have hn26 : g2 ≠ g6 := (by have := blk_lt BK2d.out; have := GE6.out; omega); have hn36 : g3 ≠ g6 := (by have := blk_lt BK3d.out; have := GE6.out; omega))
    | (((with_reducible refine gate_dst (N := 11) rfl ?_); refine box_event ?hg (N := 11) ?hd (cs := #[.int .u64 0, .int .i64 0, .slice none 0 0]) (t := 33) ?hr ?_; (case hd => rfl); (case hg => rfl); (case hr => first | (go_simp; done) | (go_simp; rfl)); intro g8 hg w8 hbox hb; have GE8 := Aside0.mk (Nat.le_of_eq hg.symm); have BK8 := Aside0.mk hbox; have HX8 := Aside0.mk hb; clear hg hbox hb); have hsz8 : w6.heap.size ≤ g8 := (by have := GE8.out; simpa using this); have HB8 := Aside0.mk (below_then (below_set (below_set (below_set (below_set HB6.out HG6.out) HG6.out) HG6.out) HG6.out) (by simp; exact HB6.out.size) HX8.out); have BK1f := Aside0.mk (blk_below (blk_far (blk_far (blk_far (blk_far BK1e.out hn16 _) hn16 _) hn16 _) hn16 _) HX8.out); have hn18 : g1 ≠ g8 := (by have := blk_lt BK1e.out; omega); have BK2f := Aside0.mk (blk_below (blk_far (blk_far (blk_far (blk_far BK2e.out hn26 _) hn26 _) hn26 _) hn26 _) HX8.out); have hn28 : g2 ≠ g8 := (by have := blk_lt BK2e.out; omega); have BK3f := Aside0.mk (blk_below (blk_far (blk_far (blk_far (blk_far BK3e.out hn36 _) hn36 _) hn36 _) hn36 _) HX8.out); have hn38 : g3 ≠ g8 := (by have := blk_lt BK3e.out; omega); have BK4f := Aside0.mk (blk_below (blk_far (blk_far (blk_far (blk_far BK4c.out hn46 _) hn46 _) hn46 _) hn46 _) HX8.out); have hn48 : g4 ≠ g8 := (by have := blk_lt BK4c.out; omega); have BK6f := Aside0.mk (blk_below (blk_set (blk_set (blk_set (blk_set BK6.out 0 _) 1 _) 2 _) 3 _) HX8.out); have hn68 : g6 ≠ g8 := (by have := blk_lt BK6.out; omega); have HG8 := Aside0.mk (Nat.le_trans HB6.out.size hsz8); clear hsz8 hg6_0 hfg6_0 hg6_1 hfg6_1 hg6_2 hfg6_2 hg6_3 hfg6_3 hg1_0 hfg1_0 hg1_1 hfg1_1 hg2_0 hfg2_0 hg2_1 hfg2_1 hg2_2 hfg2_2 hg3_0 hfg3_0 hg3_1 hfg3_1 hg3_2 hfg3_2; (have hg6_0 : w8.cell? ⟨g6, 0, none⟩ = some (.bool false) := (blk_cell BK6f.out 0).trans rfl; have hfg6_0 := blk_frozen BK6f.out 0; have hg6_1 : w8.cell? ⟨g6, 1, none⟩ = some (.func (.func m) #[] #[]) := (blk_cell BK6f.out 1).trans rfl; have hfg6_1 := blk_frozen BK6f.out 1; have hg6_2 : w8.cell? ⟨g6, 2, none⟩ = some (kc) := (blk_cell BK6f.out 2).trans rfl; have hfg6_2 := blk_frozen BK6f.out 2; have hg6_3 : w8.cell? ⟨g6, 3, none⟩ = some (kd) := (blk_cell BK6f.out 3).trans rfl; have hfg6_3 := blk_frozen BK6f.out 3); (have hg1_0 : w8.cell? ⟨g1, 0, none⟩ = some (.int .i64 k) := (blk_cell BK1f.out 0).trans rfl; have hfg1_0 := blk_frozen BK1f.out 0; have hg1_1 : w8.cell? ⟨g1, 1, none⟩ = some (.int .i64 j) := (blk_cell BK1f.out 1).trans rfl; have hfg1_1 := blk_frozen BK1f.out 1); (have hg2_0 : w8.cell? ⟨g2, 0, none⟩ = some (.int .u64 n1) := (blk_cell BK2f.out 0).trans rfl; have hfg2_0 := blk_frozen BK2f.out 0; have hg2_1 : w8.cell? ⟨g2, 1, none⟩ = some (.int .i64 v1) := (blk_cell BK2f.out 1).trans rfl; have hfg2_1 := blk_frozen BK2f.out 1; have hg2_2 : w8.cell? ⟨g2, 2, none⟩ = some (.slice A1 l1.length c1) := (blk_cell BK2f.out 2).trans rfl; have hfg2_2 := blk_frozen BK2f.out 2); (have hg3_0 : w8.cell? ⟨g3, 0, none⟩ = some (.int .i64 tm) := (blk_cell BK3f.out 0).trans rfl; have hfg3_0 := blk_frozen BK3f.out 0; have hg3_1 : w8.cell? ⟨g3, 1, none⟩ = some (.slice A2 l2.length c2) := (blk_cell BK3f.out 1).trans rfl; have hfg3_1 := blk_frozen BK3f.out 1; have hg3_2 : w8.cell? ⟨g3, 2, none⟩ = some (.slice A3 l3.length c3) := (blk_cell BK3f.out 2).trans rfl; have hfg3_2 := blk_frozen BK3f.out 2); (have hg8_0 : w8.cell? ⟨g8, 0, none⟩ = some (.int .u64 0) := (blk_cell BK8.out 0).trans rfl; have hfg8_0 := blk_frozen BK8.out 0; have hg8_1 : w8.cell? ⟨g8, 1, none⟩ = some (.int .i64 0) := (blk_cell BK8.out 1).trans rfl; have hfg8_1 := blk_frozen BK8.out 1; have hg8_2 : w8.cell? ⟨g8, 2, none⟩ = some (.slice none 0 0) := (blk_cell BK8.out 2).trans rfl; have hfg8_2 := blk_frozen BK8.out 2))
    | fail)
  have HBq := Aside0.mk (show Below w.heap.size w (((w8.setCell ⟨g8, 0, none⟩ (.int .u64 n)).setCell ⟨g8, 1, none⟩ (.int .i64 0)).setCell ⟨g8, 2, none⟩ (.slice none 0 0)) from below_set (below_set (below_set HB8.out HG8.out) HG8.out) HG8.out)
  have BK1q := Aside0.mk (show (((w8.setCell ⟨g8, 0, none⟩ (.int .u64 n)).setCell ⟨g8, 1, none⟩ (.int .i64 0)).setCell ⟨g8, 2, none⟩ (.slice none 0 0)).heap[g1]? = some (.cells #[.int .i64 k, .int .i64 j] 23 (0, 0)) from (blk_far (blk_far (blk_far BK1f.out hn18 _) hn18 _) hn18 _))
  have BK2q := Aside0.mk (show (((w8.setCell ⟨g8, 0, none⟩ (.int .u64 n)).setCell ⟨g8, 1, none⟩ (.int .i64 0)).setCell ⟨g8, 2, none⟩ (.slice none 0 0)).heap[g2]? = some (.cells #[.int .u64 n1, .int .i64 v1, .slice A1 l1.length c1] 33 (0, 0)) from (blk_far (blk_far (blk_far BK2f.out hn28 _) hn28 _) hn28 _))
  have BK3q := Aside0.mk (show (((w8.setCell ⟨g8, 0, none⟩ (.int .u64 n)).setCell ⟨g8, 1, none⟩ (.int .i64 0)).setCell ⟨g8, 2, none⟩ (.slice none 0 0)).heap[g3]? = some (.cells #[.int .i64 tm, .slice A2 l2.length c2, .slice A3 l3.length c3] 42 (0, 0)) from (blk_far (blk_far (blk_far BK3f.out hn38 _) hn38 _) hn38 _))
  have BK4q := Aside0.mk (show (((w8.setCell ⟨g8, 0, none⟩ (.int .u64 n)).setCell ⟨g8, 1, none⟩ (.int .i64 0)).setCell ⟨g8, 2, none⟩ (.slice none 0 0)).heap[g4]? = some (.cells #[.int .u64 0, .int .i64 0, .slice none 0 0] 33 (0, 0)) from (blk_far (blk_far (blk_far BK4f.out hn48 _) hn48 _) hn48 _))
  have BK6q := Aside0.mk (show (((w8.setCell ⟨g8, 0, none⟩ (.int .u64 n)).setCell ⟨g8, 1, none⟩ (.int .i64 0)).setCell ⟨g8, 2, none⟩ (.slice none 0 0)).heap[g6]? = some (.cells #[.bool false, .func (.func m) #[] #[], kc, kd] 61 (0, 0)) from (blk_far (blk_far (blk_far BK6f.out hn68 _) hn68 _) hn68 _))
  have BK8q := Aside0.mk (show (((w8.setCell ⟨g8, 0, none⟩ (.int .u64 n)).setCell ⟨g8, 1, none⟩ (.int .i64 0)).setCell ⟨g8, 2, none⟩ (.slice none 0 0)).heap[g8]? = some (.cells #[.int .u64 n, .int .i64 0, .slice none 0 0] 33 (0, 0)) from (blk_set (blk_set (blk_set BK8.out 0 _) 1 _) 2 _))
  clear hg6_0 hfg6_0 hg6_1 hfg6_1 hg6_2 hfg6_2 hg6_3 hfg6_3 hg1_0 hfg1_0 hg1_1 hfg1_1 hg2_0 hfg2_0 hg2_1 hfg2_1 hg2_2 hfg2_2 hg3_0 hfg3_0 hg3_1 hfg3_1 hg3_2 hfg3_2 hg8_0 hfg8_0 hg8_1 hfg8_1 hg8_2 hfg8_2
  generalize (((w8.setCell ⟨g8, 0, none⟩ (.int .u64 n)).setCell ⟨g8, 1, none⟩ (.int .i64 0)).setCell ⟨g8, 2, none⟩ (.slice none 0 0)) = wq at *
  obtain rfl := HA3.out
  have p6 : wq.cell? ⟨g6, 1, none⟩ = some (.func (.func m) #[] #[]) := (blk_cell BK6q.out 1).trans rfl
  have p3 : wq.cell? ⟨g3, 2, none⟩ = some (.slice (some ad) l3.length c3) := (blk_cell BK3q.out 2).trans rfl
  have p1 : wq.cell? ⟨g1, 1, none⟩ = some (.int .i64 j) := (blk_cell BK1q.out 1).trans rfl
  have pe := pw_cell_below HBq.out HE.out
  have q0 : (0 ≤ j) = True := eq_true hj0
  have q1 : (j < (l3.length : Int)) = True := eq_true hj
  refine start_ (n := 12) (S := fun w' => w'.cell? ⟨g6, 1, none⟩ = some (.func (.func m) #[] #[]) ∧ w'.cell? ⟨g3, 2, none⟩ = some (.slice (some ad) l3.length c3) ∧ w'.cell? ⟨g1, 1, none⟩ = some (.int .i64 j) ∧ w'.cell? (ad.add j.toNat) = some (.int .i64 (rd l3 j))) (ds := [11]) #[false, false, false, false, false, false, false, false, false, false, false, false] (by kernel_rfl) rfl rfl ⟨p6, p3, p1, pe⟩ (fun hHeld => ?_)
  refine pure_ (i := 0) (N := some 70) (v := ?_) (a' := ?_) #[true, false, false, false, false, false, false, false, false, false, false, false] rfl rfl (by kernel_rfl) (fun _ _ _ h => h) (Or.inl ⟨by rfl, ?_⟩) ?_ ?_
  rotate_left
  · intro w'
    go_simp
    with_reducible rfl
  rotate_left
  · simp only [Act.put, List.setIfInBounds_toArray, List.set_cons_zero, List.set_cons_succ, i64_w, i32_w]
    rfl
  refine pure_ (i := 2) (N := some 72) (v := ?_) (a' := ?_) #[true, false, true, false, false, false, false, false, false, false, false, false] rfl rfl (by kernel_rfl) (fun _ _ _ h => h) (Or.inl ⟨by rfl, ?_⟩) ?_ ?_
  rotate_left
  · intro w'
    go_simp
    with_reducible rfl
  rotate_left
  · simp only [Act.put, List.setIfInBounds_toArray, List.set_cons_zero, List.set_cons_succ, i64_w, i32_w]
    rfl
  refine pure_ (i := 4) (N := some 74) (v := ?_) (a' := ?_) #[true, false, true, false, true, false, false, false, false, false, false, false] rfl rfl (by kernel_rfl) (fun _ _ _ h => h) (Or.inl ⟨by rfl, ?_⟩) ?_ ?_
  rotate_left
  · intro w'
    go_simp
    with_reducible rfl
  rotate_left
  · simp only [Act.put, List.setIfInBounds_toArray, List.set_cons_zero, List.set_cons_succ, i64_w, i32_w]
    rfl
  refine pure_ (i := 8) (N := some 78) (v := ?_) (a' := ?_) #[true, false, true, false, true, false, false, false, true, false, false, false] rfl rfl (by kernel_rfl) (fun _ _ _ h => h) (Or.inl ⟨by rfl, ?_⟩) ?_ ?_
  rotate_left
  · intro w'
    go_simp
    with_reducible rfl
  rotate_left
  · simp only [Act.put, List.setIfInBounds_toArray, List.set_cons_zero, List.set_cons_succ, i64_w, i32_w]
    rfl
  refine take_ (i := 1) (N := some 71) (v := ?_) (a' := ?_) #[true, true, true, false, true, false, false, false, true, false, false, false] rfl rfl (by kernel_rfl) (fun _ _ _ h => h) (Or.inl ⟨by rfl, ?_⟩) hHeld ?_ ?_
  rotate_left
  · rintro w' ⟨s0, s1, s2, s3⟩
    go_simp
    with_reducible rfl
  rotate_left
  · simp only [Act.put, List.setIfInBounds_toArray, List.set_cons_zero, List.set_cons_succ, i64_w, i32_w]
    rfl
  refine take_ (i := 3) (N := some 73) (v := ?_) (a' := ?_) #[true, true, true, true, true, false, false, false, true, false, false, false] rfl rfl (by kernel_rfl) (fun _ _ _ h => h) (Or.inl ⟨by rfl, ?_⟩) hHeld ?_ ?_
  rotate_left
  · rintro w' ⟨s0, s1, s2, s3⟩
    go_simp
    with_reducible rfl
  rotate_left
  · simp only [Act.put, List.setIfInBounds_toArray, List.set_cons_zero, List.set_cons_succ, i64_w, i32_w]
    rfl
  refine take_ (i := 5) (N := some 75) (v := ?_) (a' := ?_) #[true, true, true, true, true, true, false, false, true, false, false, false] rfl rfl (by kernel_rfl) (fun _ _ _ h => h) (Or.inl ⟨by rfl, ?_⟩) hHeld ?_ ?_
  rotate_left
  · rintro w' ⟨s0, s1, s2, s3⟩
    go_simp
    with_reducible rfl
  rotate_left
  · simp only [Act.put, List.setIfInBounds_toArray, List.set_cons_zero, List.set_cons_succ, i64_w, i32_w]
    rfl
  refine pure_ (i := 6) (N := some 76) (v := ?_) (a' := ?_) #[true, true, true, true, true, true, true, false, true, false, false, false] rfl rfl (by kernel_rfl) (fun _ _ _ h => h) (Or.inl ⟨by rfl, ?_⟩) ?_ ?_
  rotate_left
  · intro w'
    go_simp
    with_reducible rfl
  rotate_left
  · simp only [Act.put, List.setIfInBounds_toArray, List.set_cons_zero, List.set_cons_succ, i64_w, i32_w]
    rfl
  refine take_ (i := 7) (N := some 77) (v := ?_) (a' := ?_) #[true, true, true, true, true, true, true, true, true, false, false, false] rfl rfl (by kernel_rfl) (fun _ _ _ h => h) (Or.inl ⟨by rfl, ?_⟩) hHeld ?_ ?_
  rotate_left
  · rintro w' ⟨s0, s1, s2, s3⟩
    go_simp
    with_reducible rfl
  rotate_left
  · simp only [Act.put, List.setIfInBounds_toArray, List.set_cons_zero, List.set_cons_succ, i64_w, i32_w]
    rfl
  refine one_ (i := 9) (N := some 79) #[true, true, true, true, true, true, true, true, true, true, false, false] rfl rfl (by kernel_rfl) (by decide) (fun K hK => ?_)
  refine goesv_ HF.out HNm.out HBd.out (#[.int .i64 (rd l3 j), .int .u64 n]) (by rfl) rfl rfl rfl (by simp only [List.map_toArray, List.map_cons, List.map_nil]; rfl) ?_
  with_reducible refine (HV2.out _).mono ?_
  rintro e w9 ⟨rfl, hb9⟩
  refine ⟨_, rfl, ?_⟩
  have hbx : Below wq.heap.size wq w9 := below_then (below_drew (Below.refl _ _)) (Nat.le_refl _) hb9
  have HB9q := Aside0.mk (below_then HBq.out HBq.out.size hbx)
  have BK1r := Aside0.mk (blk_below BK1q.out hbx)
  have BK2r := Aside0.mk (blk_below BK2q.out hbx)
  have BK3r := Aside0.mk (blk_below BK3q.out hbx)
  have BK4r := Aside0.mk (blk_below BK4q.out hbx)
  have BK6r := Aside0.mk (blk_below BK6q.out hbx)
  have BK8r := Aside0.mk (blk_below BK8q.out hbx)
  have r6 : w9.cell? ⟨g6, 1, none⟩ = some (.func (.func m) #[] #[]) := (blk_cell BK6r.out 1).trans rfl
  have r3' : w9.cell? ⟨g3, 2, none⟩ = some (.slice (some ad) l3.length c3) := (blk_cell BK3r.out 2).trans rfl
  have r1' : w9.cell? ⟨g1, 1, none⟩ = some (.int .i64 j) := (blk_cell BK1r.out 1).trans rfl
  have re := pw_cell_below hbx pe
  have hg8_1 : w9.cell? ⟨g8, 1, none⟩ = some (.int .i64 0) := (blk_cell BK8r.out 1).trans rfl
  have hfg8_1 := blk_frozen BK8r.out 1
  clear hb9 hbx
  refine hK.out _ _ ⟨r6, r3', r1', re⟩ (fun hHeld => ?_)
  clear hK K
  refine norm_ (a' := ?_) ?_ ?_
  rotate_left
  · show Act.put _ (some 79) _ = _
    simp only [Act.put, List.setIfInBounds_toArray, List.set_cons_zero, List.set_cons_succ, i64_w, i32_w]
    rfl
  refine pure_ (i := 10) (N := some 80) (v := ?_) (a' := ?_) #[true, true, true, true, true, true, true, true, true, true, true, false] rfl rfl (by kernel_rfl) (fun _ _ _ h => h) (Or.inl ⟨by rfl, ?_⟩) ?_ ?_
  rotate_left
  · intro w'
    go_simp
    with_reducible rfl
  rotate_left
  · simp only [Act.put, List.setIfInBounds_toArray, List.set_cons_zero, List.set_cons_succ, i64_w, i32_w]
    rfl
  refine last_ (i := 11) (N := none) #[true, true, true, true, true, true, true, true, true, true, true, true] rfl rfl (by kernel_rfl) (by decide) (fun K hK => ?_)
  refine skip_ (w1 := ?_) (by rfl) rfl ?_ ?_
  rotate_left
  · go_simp
    rfl
  refine hK.out _ _ ?_
  clear hK K
  refine done_ (by kernel_rfl) ?_
  have HBs := Aside0.mk (show Below w.heap.size w (w9.setCell ⟨g8, 1, none⟩ (.int .i64 y)) from below_set HB9q.out HG8.out)
  have BK1s := Aside0.mk (show (w9.setCell ⟨g8, 1, none⟩ (.int .i64 y)).heap[g1]? = some (.cells #[.int .i64 k, .int .i64 j] 23 (0, 0)) from blk_far BK1r.out hn18 _)
  have BK2s := Aside0.mk (show (w9.setCell ⟨g8, 1, none⟩ (.int .i64 y)).heap[g2]? = some (.cells #[.int .u64 n1, .int .i64 v1, .slice A1 l1.length c1] 33 (0, 0)) from blk_far BK2r.out hn28 _)
  have BK4s := Aside0.mk (show (w9.setCell ⟨g8, 1, none⟩ (.int .i64 y)).heap[g4]? = some (.cells #[.int .u64 0, .int .i64 0, .slice none 0 0] 33 (0, 0)) from blk_far BK4r.out hn48 _)
  have BK8s := Aside0.mk (show (w9.setCell ⟨g8, 1, none⟩ (.int .i64 y)).heap[g8]? = some (.cells #[.int .u64 n, .int .i64 y, .slice none 0 0] 33 (0, 0)) from blk_set BK8r.out 1 _)
  clear p6 p3 p1 pe q0 q1 r6 r3' r1' re hg8_1 hfg8_1 hHeld
  generalize w9.setCell ⟨g8, 1, none⟩ (.int .i64 y) = ws at *
  (have hg1_0 : ws.cell? ⟨g1, 0, none⟩ = some (.int .i64 k) := (blk_cell BK1s.out 0).trans rfl; have hfg1_0 := blk_frozen BK1s.out 0; have hg1_1 : ws.cell? ⟨g1, 1, none⟩ = some (.int .i64 j) := (blk_cell BK1s.out 1).trans rfl; have hfg1_1 := blk_frozen BK1s.out 1)
  (have hg2_0 : ws.cell? ⟨g2, 0, none⟩ = some (.int .u64 n1) := (blk_cell BK2s.out 0).trans rfl; have hfg2_0 := blk_frozen BK2s.out 0; have hg2_1 : ws.cell? ⟨g2, 1, none⟩ = some (.int .i64 v1) := (blk_cell BK2s.out 1).trans rfl; have hfg2_1 := blk_frozen BK2s.out 1; have hg2_2 : ws.cell? ⟨g2, 2, none⟩ = some (.slice A1 l1.length c1) := (blk_cell BK2s.out 2).trans rfl; have hfg2_2 := blk_frozen BK2s.out 2)
  (have hg8_0 : ws.cell? ⟨g8, 0, none⟩ = some (.int .u64 n) := (blk_cell BK8s.out 0).trans rfl; have hfg8_0 := blk_frozen BK8s.out 0; have hg8_1 : ws.cell? ⟨g8, 1, none⟩ = some (.int .i64 y) := (blk_cell BK8s.out 1).trans rfl; have hfg8_1 := blk_frozen BK8s.out 1; have hg8_2 : ws.cell? ⟨g8, 2, none⟩ = some (.slice none 0 0) := (blk_cell BK8s.out 2).trans rfl; have hfg8_2 := blk_frozen BK8s.out 2)
  go_wp2_with fail
  clear hg1_0 hfg1_0 hg1_1 hfg1_1
  clear hg2_0 hfg2_0 hg2_1 hfg2_1 hg2_2 hfg2_2
  clear hg8_0 hfg8_0 hg8_1 hfg8_1 hg8_2 hfg8_2
  refine (agg_Merge.calls _ _ _ _ _ _ _ _ _ none 0 [] r1 r2 r3 _ (Kd.C_below HR1.out HBs.out) HC1.out (C_none _ _) (Nat.le_refl _) hM.out).mono ?_
  rintro e w9 ⟨v9, rfl, ho9, hb9⟩
  obtain ⟨A9, c9, rfl, -, -⟩ := Kd.R_reads ho9
  have BK4m := Aside0.mk (blk_below BK4s.out hb9)
  have HB9 := Aside0.mk (below_then HBs.out HBs.out.size hb9)
  have HO9 := Aside0.mk ho9
  have HSb := Aside0.mk HBs.out.size
  clear ho9 hb9
  (have hg4_0 : w9.cell? ⟨g4, 0, none⟩ = some (.int .u64 0) := (blk_cell BK4m.out 0).trans rfl; have hfg4_0 := blk_frozen BK4m.out 0; have hg4_1 : w9.cell? ⟨g4, 1, none⟩ = some (.int .i64 0) := (blk_cell BK4m.out 1).trans rfl; have hfg4_1 := blk_frozen BK4m.out 1; have hg4_2 : w9.cell? ⟨g4, 2, none⟩ = some (.slice none 0 0) := (blk_cell BK4m.out 2).trans rfl; have hfg4_2 := blk_frozen BK4m.out 2)
  go_wp2_with fail
  have HT := Aside0.mk (show ∀ q, q ∈ 9 :: Kd.string.E → q ≠ 33 by decide)
  have b1 := blk_set BK4m.out 0 (.int .u64 r1)
  have b2 := blk_set b1 1 (.int .i64 r2)
  have b3 := blk_set b2 2 (.slice A9 r3.length c9)
  have q1 := Kd.R_set (Kd.R_set (Kd.R_set HO9.out BK4m.out HT.out 0 (.int .u64 r1)) b1 HT.out 1 (.int .i64 r2)) b2 HT.out 2 (.slice A9 r3.length c9)
  exact bodyPost_ret (results_cell_row rfl _ _ g4 33 #[.int .u64 r1, .int .i64 r2, .slice A9 r3.length c9] (0, 0) _ rfl b3 Try.underlying33 rfl (by kernel_rfl)) rfl ⟨_, rfl, Kd.R_lower q1 HSb.out, below_set (below_set (below_set HB9.out HG4.out) HG4.out) HG4.out⟩
theorem C_one {w : World} {g : Nat} {s : ByteArray} {E : Nat} {cs : Array Value} (hb : w.heap[g]? = some (.cells cs E (0, 0))) (h0 : cs[0]? = some (.string s)) : Kd.C Kd.string w (some ⟨g, 0, none⟩) ([s] : List ByteArray).length [s] := by
  refine ⟨rfl, by simp, fun _ => ⟨_, rfl, fun q p hp => ?_⟩⟩
  match q, hp with
  | 0, hp =>
    obtain rfl : s = p := by simpa using hp
    refine ⟨[.string s], rfl, rfl, fun i u hu => ?_⟩
    match i, hu with
    | 0, hu =>
      obtain rfl : Value.string s = u := by simpa using hu
      exact (blk_cell hb 0).trans h0
    | i + 1, hu => simp at hu
  | q + 1, hp => simp at hp
theorem far_cell {w : World} {a : Addr} {v : Value} {g : Nat} (h : w.cell? a = some v) (hne : a.block ≠ g) (i : Nat) (u : Value) : (w.setCell ⟨g, i, none⟩ u).cell? a = some v := by
  rw [World.cell?_setCell_other]
  · exact h
  · first
      | exact fun e => hne (by rw [e])
      | exact fun e => hne (by rw [← e])
theorem far3_cell {w : World} {a : Addr} {v : Value} {g : Nat} (h : w.cell? a = some v) (hne : a.block ≠ g) (x y z : Value) : (((w.setCell ⟨g, 0, none⟩ x).setCell ⟨g, 1, none⟩ y).setCell ⟨g, 2, none⟩ z).cell? a = some v :=
  far_cell (far_cell (far_cell h hne 0 x) hne 1 y) hne 2 z
set_option maxRecDepth 100000 in
set_option maxHeartbeats 3200000 in
theorem add_dim (k j n1 v1 tm n : Int) (A1 A2 A3 : Option Addr) (l1 l2 : List ByteArray) (l3 : List Int) (c1 c2 c3 : Nat) (w : World) (ka kb kc kd : Value) (HC : Knows k j #[ka, kb, kc, kd] true)
    (h1 : ka.oneCell' = true) (h2 : kb.oneCell' = true) (h3 : kc.oneCell' = true) (h4 : kd.oneCell' = true) (hr1 : Kd.C Kd.string w A1 l1.length l1) (hc1 : l1.length ≤ c1) (r1 r2 : Int) (r3 : List ByteArray) (e1 : (n == 0) = false) (hka : ka = .bool true) (hkb : kb = .nilFunc) (hj0 : 0 ≤ j) (hj : j < (l2.length : Int)) (hr2 : Kd.C Kd.string w A2 l2.length l2) (HM : agg_Merge.f k j n1 v1 l1 n 0 [l2.getD j.toNat ⟨#[]⟩] = some (r1, r2, r3)) :
    Calls Try.prog 19 #[.agg #[.int .i64 k, .int .i64 j], .agg #[.int .u64 n1, .int .i64 v1, .slice A1 l1.length c1], .agg #[.int .i64 tm, .slice A2 l2.length c2, .slice A3 l3.length c3], .int .u64 n] w (Merged w r1 r2 r3) := by
  have sa := store_fact h1
  have sb := store_fact h2
  have sc := store_fact h3
  have sd := store_fact h4
  have HR1 := Aside0.mk hr1
  have HC1 := Aside0.mk hc1
  clear h1 h2 h3 h4 hr1 hc1
  subst hka
  subst hkb
  have hM := Aside0.mk HM
  clear HM
  obtain ⟨ad, cc, hA2, hcl, hcK, hcc⟩ := Kd.C_get hr2 (⟨#[]⟩ : ByteArray) j hj0 hj
  have HE := Aside0.mk (show w.cell? (ad.add j.toNat) = some (.string (l2.getD j.toNat ⟨#[]⟩)) from by
    have h1 : cc = [Value.string (l2.getD j.toNat ⟨#[]⟩)] := hcK
    subst h1
    have h2 := hcc 0 _ rfl
    have e : Kd.string.sz = 1 := rfl
    rw [e, Nat.mul_one, Nat.add_zero] at h2
    exact h2)
  have HA2 := Aside0.mk hA2
  clear hcl hcK hcc hr2 hA2
  generalize l2.getD j.toNat ⟨#[]⟩ = s at *
  have d0 : decide (0 ≤ j) = true := decide_eq_true hj0
  have d1 : decide (j < (l2.length : Int)) = true := decide_eq_true hj
  have q0 : (0 ≤ j) = True := eq_true hj0
  have q1 : (j < (l2.length : Int)) = True := eq_true hj
  go_enter Try.func19, Try.ntmps19
  go_upto_region 6 with (first
    | ((with_reducible refine gate_dst (N := 4) rfl ?_); refine box_event ?hg (N := 4) ?hd (cs := #[.int .i64 k, .int .i64 j]) (t := 23) ?hr ?_; (case hd => rfl); (case hg => rfl); (case hr => first | (go_simp; done) | (go_simp; rfl)); intro g1 hg w1 hbox hb; have GE1 := Aside0.mk (Nat.le_of_eq hg.symm); have BK1 := Aside0.mk hbox; have HX1 := Aside0.mk hb; clear hg hbox hb)
    | ((with_reducible refine gate_dst (N := 5) rfl ?_); refine box_event ?hg (N := 5) ?hd (cs := #[.int .u64 n1, .int .i64 v1, .slice A1 l1.length c1]) (t := 33) ?hr ?_; (case hd => rfl); (case hg => rfl); (case hr => first | (go_simp; done) | (go_simp; rfl)); intro g2 hg w2 hbox hb; have GE2 := Aside0.mk (Nat.le_of_eq hg.symm); have BK2 := Aside0.mk hbox; have HX2 := Aside0.mk hb; clear hg hbox hb)
    | (((with_reducible refine gate_dst (N := 6) rfl ?_); refine box_event ?hg (N := 6) ?hd (cs := #[.int .i64 tm, .slice A2 l2.length c2, .slice A3 l3.length c3]) (t := 42) ?hr ?_; (case hd => rfl); (case hg => rfl); (case hr => first | (go_simp; done) | (go_simp; rfl)); intro g3 hg w3 hbox hb; have GE3 := Aside0.mk (Nat.le_of_eq hg.symm); have BK3 := Aside0.mk hbox; have HX3 := Aside0.mk hb; clear hg hbox hb); have BK1b := Aside0.mk (blk_below (blk_below BK1.out HX2.out) HX3.out); have BK2b := Aside0.mk (blk_below BK2.out HX3.out); have HB3 := Aside0.mk (below_then (below_then HX1.out HX1.out.size HX2.out) (Nat.le_trans HX1.out.size HX2.out.size) HX3.out))
    | (((with_reducible refine gate_dst (N := 8) rfl ?_); refine box_event ?hg (N := 8) ?hd (cs := #[.int .u64 0, .int .i64 0, .slice none 0 0]) (t := 33) ?hr ?_; (case hd => rfl); (case hg => rfl); (case hr => first | (go_simp; done) | (go_simp; rfl)); intro g4 hg w4 hbox hb; have GE4 := Aside0.mk (Nat.le_of_eq hg.symm); have BK4 := Aside0.mk hbox; have HX4 := Aside0.mk hb; clear hg hbox hb); have BK1c := Aside0.mk (blk_below BK1b.out HX4.out); have BK2c := Aside0.mk (blk_below BK2b.out HX4.out); have BK3c := Aside0.mk (blk_below BK3.out HX4.out); have HB4 := Aside0.mk (below_then HB3.out HB3.out.size HX4.out); have HG4 := Aside0.mk (Nat.le_trans HB3.out.size GE4.out); (have hg1_0 : w4.cell? ⟨g1, 0, none⟩ = some (.int .i64 k) := (blk_cell BK1c.out 0).trans rfl; have hfg1_0 := blk_frozen BK1c.out 0; have hg1_1 : w4.cell? ⟨g1, 1, none⟩ = some (.int .i64 j) := (blk_cell BK1c.out 1).trans rfl; have hfg1_1 := blk_frozen BK1c.out 1); have hn14 : g1 ≠ g4 := (by have := blk_lt BK1b.out; have := GE4.out; omega); have hn24 : g2 ≠ g4 := (by have := blk_lt BK2b.out; have := GE4.out; omega); have hn34 : g3 ≠ g4 := (by have := blk_lt BK3.out; have := GE4.out; omega))
    | (go_at_call 27; refine (HC _).mono ?_; rintro e w5 ⟨rfl, hb5⟩; have BK4b := Aside0.mk (blk_below BK4.out hb5); have BK1d := Aside0.mk (blk_below BK1c.out hb5); have BK2d := Aside0.mk (blk_below BK2c.out hb5); have BK3d := Aside0.mk (blk_below BK3c.out hb5); have HB5 := Aside0.mk (below_then HB4.out HB4.out.size hb5); clear hb5; clear hg1_0 hfg1_0 hg1_1 hfg1_1)
    | (((with_reducible refine gate_dst (N := 9) rfl ?_); refine box_event ?hg (N := 9) ?hd (cs := #[.bool false, .nilFunc, .nilFunc, .nilFunc]) (t := 61) ?hr ?_; (case hd => rfl); (case hg => rfl); (case hr => first | (go_simp; done) | (go_simp; rfl)); intro g6 hg w6 hbox hb; have GE6 := Aside0.mk (Nat.le_of_eq hg.symm); have BK6 := Aside0.mk hbox; have HX6 := Aside0.mk hb; clear hg hbox hb); have BK4c := Aside0.mk (blk_below BK4b.out HX6.out); have BK1e := Aside0.mk (blk_below BK1d.out HX6.out); have BK2e := Aside0.mk (blk_below BK2d.out HX6.out); have BK3e := Aside0.mk (blk_below BK3d.out HX6.out); have HB6 := Aside0.mk (below_then HB5.out HB5.out.size HX6.out); have HG6 := Aside0.mk (Nat.le_trans HB5.out.size GE6.out); (have hg6_0 : w6.cell? ⟨g6, 0, none⟩ = some (.bool false) := (blk_cell BK6.out 0).trans rfl; have hfg6_0 := blk_frozen BK6.out 0; have hg6_1 : w6.cell? ⟨g6, 1, none⟩ = some (.nilFunc) := (blk_cell BK6.out 1).trans rfl; have hfg6_1 := blk_frozen BK6.out 1; have hg6_2 : w6.cell? ⟨g6, 2, none⟩ = some (.nilFunc) := (blk_cell BK6.out 2).trans rfl; have hfg6_2 := blk_frozen BK6.out 2; have hg6_3 : w6.cell? ⟨g6, 3, none⟩ = some (.nilFunc) := (blk_cell BK6.out 3).trans rfl; have hfg6_3 := blk_frozen BK6.out 3); (have hg1_0 : w6.cell? ⟨g1, 0, none⟩ = some (.int .i64 k) := (blk_cell BK1e.out 0).trans rfl; have hfg1_0 := blk_frozen BK1e.out 0; have hg1_1 : w6.cell? ⟨g1, 1, none⟩ = some (.int .i64 j) := (blk_cell BK1e.out 1).trans rfl; have hfg1_1 := blk_frozen BK1e.out 1); (have hg2_0 : w6.cell? ⟨g2, 0, none⟩ = some (.int .u64 n1) := (blk_cell BK2e.out 0).trans rfl; have hfg2_0 := blk_frozen BK2e.out 0; have hg2_1 : w6.cell? ⟨g2, 1, none⟩ = some (.int .i64 v1) := (blk_cell BK2e.out 1).trans rfl; have hfg2_1 := blk_frozen BK2e.out 1; have hg2_2 : w6.cell? ⟨g2, 2, none⟩ = some (.slice A1 l1.length c1) := (blk_cell BK2e.out 2).trans rfl; have hfg2_2 := blk_frozen BK2e.out 2); (have hg3_0 : w6.cell? ⟨g3, 0, none⟩ = some (.int .i64 tm) := (blk_cell BK3e.out 0).trans rfl; have hfg3_0 := blk_frozen BK3e.out 0; have hg3_1 : w6.cell? ⟨g3, 1, none⟩ = some (.slice A2 l2.length c2) := (blk_cell BK3e.out 1).trans rfl; have hfg3_1 := blk_frozen BK3e.out 1; have hg3_2 : w6.cell? ⟨g3, 2, none⟩ = some (.slice A3 l3.length c3) := (blk_cell BK3e.out 2).trans rfl; have hfg3_2 := blk_frozen BK3e.out 2); have hn16 : g1 ≠ g6 := (by have := blk_lt BK1d.out; have := GE6.out; omega); have hn46 : g4 ≠ g6 := (by have := blk_lt BK4b.out; have := GE6.out; omega); have hn26 : g2 ≠ g6 := (by have := blk_lt BK2d.out; have := GE6.out; omega); have hn36 : g3 ≠ g6 := (by have := blk_lt BK3d.out; have := GE6.out; omega))
    | (((with_reducible refine gate_dst (N := 11) rfl ?_); refine box_event ?hg (N := 11) ?hd (cs := #[.int .u64 0, .int .i64 0, .slice none 0 0]) (t := 33) ?hr ?_; (case hd => rfl); (case hg => rfl); (case hr => first | (go_simp; done) | (go_simp; rfl)); intro g8 hg w8 hbox hb; have GE8 := Aside0.mk (Nat.le_of_eq hg.symm); have BK8 := Aside0.mk hbox; have HX8 := Aside0.mk hb; clear hg hbox hb); have hsz8 : w6.heap.size ≤ g8 := (by have := GE8.out; simpa using this); have HB8 := Aside0.mk (below_then (below_set (below_set (below_set (below_set HB6.out HG6.out) HG6.out) HG6.out) HG6.out) (by simp; exact HB6.out.size) HX8.out); have BK1f := Aside0.mk (blk_below (blk_far (blk_far (blk_far (blk_far BK1e.out hn16 _) hn16 _) hn16 _) hn16 _) HX8.out); have hn18 : g1 ≠ g8 := (by have := blk_lt BK1e.out; omega); have BK2f := Aside0.mk (blk_below (blk_far (blk_far (blk_far (blk_far BK2e.out hn26 _) hn26 _) hn26 _) hn26 _) HX8.out); have hn28 : g2 ≠ g8 := (by have := blk_lt BK2e.out; omega); have BK3f := Aside0.mk (blk_below (blk_far (blk_far (blk_far (blk_far BK3e.out hn36 _) hn36 _) hn36 _) hn36 _) HX8.out); have hn38 : g3 ≠ g8 := (by have := blk_lt BK3e.out; omega); have BK4f := Aside0.mk (blk_below (blk_far (blk_far (blk_far (blk_far BK4c.out hn46 _) hn46 _) hn46 _) hn46 _) HX8.out); have hn48 : g4 ≠ g8 := (by have := blk_lt BK4c.out; omega); have BK6f := Aside0.mk (blk_below (blk_set (blk_set (blk_set (blk_set BK6.out 0 _) 1 _) 2 _) 3 _) HX8.out); have hn68 : g6 ≠ g8 := (by have := blk_lt BK6.out; omega); have HG8 := Aside0.mk (Nat.le_trans HB6.out.size hsz8); clear hsz8 hg6_0 hfg6_0 hg6_1 hfg6_1 hg6_2 hfg6_2 hg6_3 hfg6_3 hg1_0 hfg1_0 hg1_1 hfg1_1 hg2_0 hfg2_0 hg2_1 hfg2_1 hg2_2 hfg2_2 hg3_0 hfg3_0 hg3_1 hfg3_1 hg3_2 hfg3_2; (have hg6_0 : w8.cell? ⟨g6, 0, none⟩ = some (.bool true) := (blk_cell BK6f.out 0).trans rfl; have hfg6_0 := blk_frozen BK6f.out 0; have hg6_1 : w8.cell? ⟨g6, 1, none⟩ = some (.nilFunc) := (blk_cell BK6f.out 1).trans rfl; have hfg6_1 := blk_frozen BK6f.out 1; have hg6_2 : w8.cell? ⟨g6, 2, none⟩ = some (kc) := (blk_cell BK6f.out 2).trans rfl; have hfg6_2 := blk_frozen BK6f.out 2; have hg6_3 : w8.cell? ⟨g6, 3, none⟩ = some (kd) := (blk_cell BK6f.out 3).trans rfl; have hfg6_3 := blk_frozen BK6f.out 3); (have hg1_0 : w8.cell? ⟨g1, 0, none⟩ = some (.int .i64 k) := (blk_cell BK1f.out 0).trans rfl; have hfg1_0 := blk_frozen BK1f.out 0; have hg1_1 : w8.cell? ⟨g1, 1, none⟩ = some (.int .i64 j) := (blk_cell BK1f.out 1).trans rfl; have hfg1_1 := blk_frozen BK1f.out 1); (have hg2_0 : w8.cell? ⟨g2, 0, none⟩ = some (.int .u64 n1) := (blk_cell BK2f.out 0).trans rfl; have hfg2_0 := blk_frozen BK2f.out 0; have hg2_1 : w8.cell? ⟨g2, 1, none⟩ = some (.int .i64 v1) := (blk_cell BK2f.out 1).trans rfl; have hfg2_1 := blk_frozen BK2f.out 1; have hg2_2 : w8.cell? ⟨g2, 2, none⟩ = some (.slice A1 l1.length c1) := (blk_cell BK2f.out 2).trans rfl; have hfg2_2 := blk_frozen BK2f.out 2); (have hg3_0 : w8.cell? ⟨g3, 0, none⟩ = some (.int .i64 tm) := (blk_cell BK3f.out 0).trans rfl; have hfg3_0 := blk_frozen BK3f.out 0; have hg3_1 : w8.cell? ⟨g3, 1, none⟩ = some (.slice A2 l2.length c2) := (blk_cell BK3f.out 1).trans rfl; have hfg3_1 := blk_frozen BK3f.out 1; have hg3_2 : w8.cell? ⟨g3, 2, none⟩ = some (.slice A3 l3.length c3) := (blk_cell BK3f.out 2).trans rfl; have hfg3_2 := blk_frozen BK3f.out 2); (have hg8_0 : w8.cell? ⟨g8, 0, none⟩ = some (.int .u64 0) := (blk_cell BK8.out 0).trans rfl; have hfg8_0 := blk_frozen BK8.out 0; have hg8_1 : w8.cell? ⟨g8, 1, none⟩ = some (.int .i64 0) := (blk_cell BK8.out 1).trans rfl; have hfg8_1 := blk_frozen BK8.out 1; have hg8_2 : w8.cell? ⟨g8, 2, none⟩ = some (.slice none 0 0) := (blk_cell BK8.out 2).trans rfl; have hfg8_2 := blk_frozen BK8.out 2))
    | fail)
  have HBq := Aside0.mk (show Below w.heap.size w (((w8.setCell ⟨g8, 0, none⟩ (.int .u64 n)).setCell ⟨g8, 1, none⟩ (.int .i64 0)).setCell ⟨g8, 2, none⟩ (.slice none 0 0)) from below_set (below_set (below_set HB8.out HG8.out) HG8.out) HG8.out)
  have BK1q := Aside0.mk (show (((w8.setCell ⟨g8, 0, none⟩ (.int .u64 n)).setCell ⟨g8, 1, none⟩ (.int .i64 0)).setCell ⟨g8, 2, none⟩ (.slice none 0 0)).heap[g1]? = some (.cells #[.int .i64 k, .int .i64 j] 23 (0, 0)) from (blk_far (blk_far (blk_far BK1f.out hn18 _) hn18 _) hn18 _))
  have BK2q := Aside0.mk (show (((w8.setCell ⟨g8, 0, none⟩ (.int .u64 n)).setCell ⟨g8, 1, none⟩ (.int .i64 0)).setCell ⟨g8, 2, none⟩ (.slice none 0 0)).heap[g2]? = some (.cells #[.int .u64 n1, .int .i64 v1, .slice A1 l1.length c1] 33 (0, 0)) from (blk_far (blk_far (blk_far BK2f.out hn28 _) hn28 _) hn28 _))
  have BK3q := Aside0.mk (show (((w8.setCell ⟨g8, 0, none⟩ (.int .u64 n)).setCell ⟨g8, 1, none⟩ (.int .i64 0)).setCell ⟨g8, 2, none⟩ (.slice none 0 0)).heap[g3]? = some (.cells #[.int .i64 tm, .slice A2 l2.length c2, .slice A3 l3.length c3] 42 (0, 0)) from (blk_far (blk_far (blk_far BK3f.out hn38 _) hn38 _) hn38 _))
  have BK4q := Aside0.mk (show (((w8.setCell ⟨g8, 0, none⟩ (.int .u64 n)).setCell ⟨g8, 1, none⟩ (.int .i64 0)).setCell ⟨g8, 2, none⟩ (.slice none 0 0)).heap[g4]? = some (.cells #[.int .u64 0, .int .i64 0, .slice none 0 0] 33 (0, 0)) from (blk_far (blk_far (blk_far BK4f.out hn48 _) hn48 _) hn48 _))
  have BK6q := Aside0.mk (show (((w8.setCell ⟨g8, 0, none⟩ (.int .u64 n)).setCell ⟨g8, 1, none⟩ (.int .i64 0)).setCell ⟨g8, 2, none⟩ (.slice none 0 0)).heap[g6]? = some (.cells #[.bool true, .nilFunc, kc, kd] 61 (0, 0)) from (blk_far (blk_far (blk_far BK6f.out hn68 _) hn68 _) hn68 _))
  have BK8q := Aside0.mk (show (((w8.setCell ⟨g8, 0, none⟩ (.int .u64 n)).setCell ⟨g8, 1, none⟩ (.int .i64 0)).setCell ⟨g8, 2, none⟩ (.slice none 0 0)).heap[g8]? = some (.cells #[.int .u64 n, .int .i64 0, .slice none 0 0] 33 (0, 0)) from (blk_set (blk_set (blk_set BK8.out 0 _) 1 _) 2 _))
  clear hg6_0 hfg6_0 hg6_1 hfg6_1 hg6_2 hfg6_2 hg6_3 hfg6_3 hg1_0 hfg1_0 hg1_1 hfg1_1 hg2_0 hfg2_0 hg2_1 hfg2_1 hg2_2 hfg2_2 hg3_0 hfg3_0 hg3_1 hfg3_1 hg3_2 hfg3_2 hg8_0 hfg8_0 hg8_1 hfg8_1 hg8_2 hfg8_2
  generalize (((w8.setCell ⟨g8, 0, none⟩ (.int .u64 n)).setCell ⟨g8, 1, none⟩ (.int .i64 0)).setCell ⟨g8, 2, none⟩ (.slice none 0 0)) = wq at *
  have pe := pw_cell_below HBq.out HE.out
  obtain rfl := HA2.out
  (have hg1_0 : wq.cell? ⟨g1, 0, none⟩ = some (.int .i64 k) := (blk_cell BK1q.out 0).trans rfl; have hfg1_0 := blk_frozen BK1q.out 0; have hg1_1 : wq.cell? ⟨g1, 1, none⟩ = some (.int .i64 j) := (blk_cell BK1q.out 1).trans rfl; have hfg1_1 := blk_frozen BK1q.out 1)
  (have hg2_0 : wq.cell? ⟨g2, 0, none⟩ = some (.int .u64 n1) := (blk_cell BK2q.out 0).trans rfl; have hfg2_0 := blk_frozen BK2q.out 0; have hg2_1 : wq.cell? ⟨g2, 1, none⟩ = some (.int .i64 v1) := (blk_cell BK2q.out 1).trans rfl; have hfg2_1 := blk_frozen BK2q.out 1; have hg2_2 : wq.cell? ⟨g2, 2, none⟩ = some (.slice A1 l1.length c1) := (blk_cell BK2q.out 2).trans rfl; have hfg2_2 := blk_frozen BK2q.out 2)
  (have hg3_0 : wq.cell? ⟨g3, 0, none⟩ = some (.int .i64 tm) := (blk_cell BK3q.out 0).trans rfl; have hfg3_0 := blk_frozen BK3q.out 0; have hg3_1 : wq.cell? ⟨g3, 1, none⟩ = some (.slice (some ad) l2.length c2) := (blk_cell BK3q.out 1).trans rfl; have hfg3_1 := blk_frozen BK3q.out 1; have hg3_2 : wq.cell? ⟨g3, 2, none⟩ = some (.slice A3 l3.length c3) := (blk_cell BK3q.out 2).trans rfl; have hfg3_2 := blk_frozen BK3q.out 2)
  (have hg8_0 : wq.cell? ⟨g8, 0, none⟩ = some (.int .u64 n) := (blk_cell BK8q.out 0).trans rfl; have hfg8_0 := blk_frozen BK8q.out 0; have hg8_1 : wq.cell? ⟨g8, 1, none⟩ = some (.int .i64 0) := (blk_cell BK8q.out 1).trans rfl; have hfg8_1 := blk_frozen BK8q.out 1; have hg8_2 : wq.cell? ⟨g8, 2, none⟩ = some (.slice none 0 0) := (blk_cell BK8q.out 2).trans rfl; have hfg8_2 := blk_frozen BK8q.out 2)
  go_wp2_with (first
    | ((with_reducible refine gate_dst (N := 51) rfl ?_); refine Kd.R_lit Kd.string (w0 := wq) wq.heap.size 9 ?hg (N := 51) ?hd (xs := [s]) (inner := [.string s]) (ok := fun _ => True) (okp := fun _ => True) ?hr ?hp (fun _ hk => hk) trivial (Below.refl _ _) (Nat.le_refl _) (by simp) ?_; (case hd => rfl); (case hg => rfl); (case hr => first | (go_simp; done) | (go_simp; rfl)); (case hp => exact Reps.one (show Kd.M Kd.string _ _ _ s [.string s] from rfl) (Reps.none _ _)); intro v9 w9 ho9 hb9 hg9 ha9; obtain ⟨A9, c9, rfl, hc9, hC9⟩ := Kd.R_reads ho9; have HB9r := Aside0.mk (below_then HBq.out HBq.out.size hb9); have BK1r := Aside0.mk (blk_below BK1q.out hb9); have BK2r := Aside0.mk (blk_below BK2q.out hb9); have BK4r := Aside0.mk (blk_below BK4q.out hb9); have BK8r := Aside0.mk (blk_below BK8q.out hb9); have HO9r := Aside0.mk ho9; have HC9r := Aside0.mk hc9; clear hg1_0 hfg1_0 hg1_1 hfg1_1; clear hg2_0 hfg2_0 hg2_1 hfg2_1 hg2_2 hfg2_2; clear hg3_0 hfg3_0 hg3_1 hfg3_1 hg3_2 hfg3_2; clear hg8_0 hfg8_0 hg8_1 hfg8_1 hg8_2 hfg8_2; clear ho9 hb9 hg9 ha9 hc9 hC9; (have hg1_0 : w9.cell? ⟨g1, 0, none⟩ = some (.int .i64 k) := (blk_cell BK1r.out 0).trans rfl; have hfg1_0 := blk_frozen BK1r.out 0; have hg1_1 : w9.cell? ⟨g1, 1, none⟩ = some (.int .i64 j) := (blk_cell BK1r.out 1).trans rfl; have hfg1_1 := blk_frozen BK1r.out 1); (have hg2_0 : w9.cell? ⟨g2, 0, none⟩ = some (.int .u64 n1) := (blk_cell BK2r.out 0).trans rfl; have hfg2_0 := blk_frozen BK2r.out 0; have hg2_1 : w9.cell? ⟨g2, 1, none⟩ = some (.int .i64 v1) := (blk_cell BK2r.out 1).trans rfl; have hfg2_1 := blk_frozen BK2r.out 1; have hg2_2 : w9.cell? ⟨g2, 2, none⟩ = some (.slice A1 l1.length c1) := (blk_cell BK2r.out 2).trans rfl; have hfg2_2 := blk_frozen BK2r.out 2); (have hg8_0 : w9.cell? ⟨g8, 0, none⟩ = some (.int .u64 n) := (blk_cell BK8r.out 0).trans rfl; have hfg8_0 := blk_frozen BK8r.out 0; have hg8_1 : w9.cell? ⟨g8, 1, none⟩ = some (.int .i64 0) := (blk_cell BK8r.out 1).trans rfl; have hfg8_1 := blk_frozen BK8r.out 1; have hg8_2 : w9.cell? ⟨g8, 2, none⟩ = some (.slice none 0 0) := (blk_cell BK8r.out 2).trans rfl; have hfg8_2 := blk_frozen BK8r.out 2))
    | fail)
  have HT9 := Aside0.mk (show ∀ q, q ∈ 9 :: Kd.string.E → q ≠ 33 by decide)
  have HBs := Aside0.mk (show Below w.heap.size w (w9.setCell ⟨g8, 2, none⟩ (.slice A9 1 c9)) from below_set HB9r.out HG8.out)
  have BK4s := Aside0.mk (show (w9.setCell ⟨g8, 2, none⟩ (.slice A9 1 c9)).heap[g4]? = some (.cells #[.int .u64 0, .int .i64 0, .slice none 0 0] 33 (0, 0)) from blk_far BK4r.out hn48 _)
  have HCs := Aside0.mk (show Kd.C Kd.string (w9.setCell ⟨g8, 2, none⟩ (.slice A9 1 c9)) A9 ([s] : List ByteArray).length [s] from (Kd.R_reads' (Kd.R_set HO9r.out BK8r.out HT9.out 2 (.slice A9 1 c9))).2.2)
  clear hg1_0 hfg1_0 hg1_1 hfg1_1
  clear hg2_0 hfg2_0 hg2_1 hfg2_1 hg2_2 hfg2_2
  clear hg8_0 hfg8_0 hg8_1 hfg8_1 hg8_2 hfg8_2
  generalize w9.setCell ⟨g8, 2, none⟩ (.slice A9 1 c9) = ws at *
  refine (agg_Merge.calls _ _ _ _ _ _ _ _ _ A9 c9 [s] r1 r2 r3 _ (Kd.C_below HR1.out HBs.out) HC1.out HCs.out HC9r.out hM.out).mono ?_
  rintro e w9 ⟨v9, rfl, ho9, hb9⟩
  obtain ⟨A9, c9, rfl, -, -⟩ := Kd.R_reads ho9
  have BK4m := Aside0.mk (blk_below BK4s.out hb9)
  have HB9 := Aside0.mk (below_then HBs.out HBs.out.size hb9)
  have HO9 := Aside0.mk ho9
  have HSb := Aside0.mk HBs.out.size
  clear ho9 hb9
  (have hg4_0 : w9.cell? ⟨g4, 0, none⟩ = some (.int .u64 0) := (blk_cell BK4m.out 0).trans rfl; have hfg4_0 := blk_frozen BK4m.out 0; have hg4_1 : w9.cell? ⟨g4, 1, none⟩ = some (.int .i64 0) := (blk_cell BK4m.out 1).trans rfl; have hfg4_1 := blk_frozen BK4m.out 1; have hg4_2 : w9.cell? ⟨g4, 2, none⟩ = some (.slice none 0 0) := (blk_cell BK4m.out 2).trans rfl; have hfg4_2 := blk_frozen BK4m.out 2)
  go_wp2_with fail
  have HT := Aside0.mk (show ∀ q, q ∈ 9 :: Kd.string.E → q ≠ 33 by decide)
  have b1 := blk_set BK4m.out 0 (.int .u64 r1)
  have b2 := blk_set b1 1 (.int .i64 r2)
  have b3 := blk_set b2 2 (.slice A9 r3.length c9)
  have q1 := Kd.R_set (Kd.R_set (Kd.R_set HO9.out BK4m.out HT.out 0 (.int .u64 r1)) b1 HT.out 1 (.int .i64 r2)) b2 HT.out 2 (.slice A9 r3.length c9)
  exact bodyPost_ret (results_cell_row rfl _ _ g4 33 #[.int .u64 r1, .int .i64 r2, .slice A9 r3.length c9] (0, 0) _ rfl b3 Try.underlying33 rfl (by kernel_rfl)) rfl ⟨_, rfl, Kd.R_lower q1 HSb.out, below_set (below_set (below_set HB9.out HG4.out) HG4.out) HG4.out⟩
end Go.Proofs.Ytmjhgeinhhhodaa.P
