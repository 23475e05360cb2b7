/- Merging: what agg.Merge answers. -/
import Derived.Test.YtmjhgeinhhhodaaStrSort
import Derived.Test.YtmjhgeinhhhodaaExtValue
import Derived.Test.YtmjhgeinhhhodaaP2
namespace Go.Proofs.Ytmjhgeinhhhodaa.P
set_option linter.unusedVariables false
set_option linter.unusedSimpArgs false
open Go.RowKit Go.Proofs.YtmjhgeinhhhodaaW.PrintWords Go.Proofs.YtmjhgeinhhhodaaW.PrintLast Go.Proofs.YtmjhgeinhhhodaaW.PrintMore Go.Proofs.Ytmjhgeinhhhodaa.Lib

/-- what agg.Merge answers with these -/
def Merged (w : World) (n v : Int) (l : List ByteArray) (e : Ending) (w' : World) : Prop := ∃ v2_ : Value, e = .returned (.agg #[.int .u64 n, .int .i64 v, v2_]) ∧ Kd.R Kd.string 9 w' w.heap.size (fun _ => True) v2_ l ∧ Below w.heap.size w w'

set_option maxRecDepth 100000 in
set_option maxHeartbeats 400000 in
theorem merge_out (k j n v n2 v2 : Int) (A A2 : Option Addr) (l c l2 c2 : Nat) (w : World) (HC : Knows k j #[.bool false, .nilFunc, .nilFunc, .nilFunc] false) :
    Calls Try.prog 17 #[.agg #[.int .i64 k, .int .i64 j], .agg #[.int .u64 n, .int .i64 v, .slice A l c], .agg #[.int .u64 n2, .int .i64 v2, .slice A2 l2 c2]] w (Merged w 0 0 []) := by
  go_enter Try.func17, Try.ntmps17
  go_wp2_with (first
    | ((with_reducible refine gate_dst (N := 3) rfl ?_); refine box_event ?hg (N := 3) ?hd (cs := #[.int .i64 k, .int .i64 j]) (t := 23) ?hr ?_; (case hd => rfl); (case hg => rfl); (case hr => first | (go_simp; done) | (go_simp; rfl)); intro g1 hg w1 hbox hb; have GE1 := Aside0.mk (Nat.le_of_eq hg.symm); have BK1 := Aside0.mk hbox; have HX1 := Aside0.mk hb; clear hg hbox hb)
    | ((with_reducible refine gate_dst (N := 4) rfl ?_); refine box_event ?hg (N := 4) ?hd (cs := #[.int .u64 n, .int .i64 v, .slice A l c]) (t := 33) ?hr ?_; (case hd => rfl); (case hg => rfl); (case hr => first | (go_simp; done) | (go_simp; rfl)); intro g2 hg w2 hbox hb; have GE2 := Aside0.mk (Nat.le_of_eq hg.symm); have BK2 := Aside0.mk hbox; have HX2 := Aside0.mk hb; clear hg hbox hb)
    | (((with_reducible refine gate_dst (N := 5) rfl ?_); refine box_event ?hg (N := 5) ?hd (cs := #[.int .u64 n2, .int .i64 v2, .slice A2 l2 c2]) (t := 33) ?hr ?_; (case hd => rfl); (case hg => rfl); (case hr => first | (go_simp; done) | (go_simp; rfl)); intro g3 hg w3 hbox hb; have GE3 := Aside0.mk (Nat.le_of_eq hg.symm); have BK3 := Aside0.mk hbox; have HX3 := Aside0.mk hb; clear hg hbox hb); have BK1b := Aside0.mk (blk_below (blk_below BK1.out HX2.out) HX3.out); have BK2b := Aside0.mk (blk_below BK2.out HX3.out); have HB3 := Aside0.mk (below_then (below_then HX1.out HX1.out.size HX2.out) (Nat.le_trans HX1.out.size HX2.out.size) HX3.out); have HG2 := Aside0.mk (Nat.le_trans HX1.out.size GE2.out))
    | (((with_reducible refine gate_dst (N := 6) rfl ?_); refine box_event ?hg (N := 6) ?hd (cs := #[.int .u64 0, .int .i64 0, .slice none 0 0]) (t := 33) ?hr ?_; (case hd => rfl); (case hg => rfl); (case hr => first | (go_simp; done) | (go_simp; rfl)); intro g4 hg w4 hbox hb; have GE4 := Aside0.mk (Nat.le_of_eq hg.symm); have BK4 := Aside0.mk hbox; have HX4 := Aside0.mk hb; clear hg hbox hb); have BK1c := Aside0.mk (blk_below BK1b.out HX4.out); have BK2c := Aside0.mk (blk_below BK2b.out HX4.out); have BK3c := Aside0.mk (blk_below BK3.out HX4.out); have HB4 := Aside0.mk (below_then HB3.out HB3.out.size HX4.out); have HG4 := Aside0.mk (Nat.le_trans HB3.out.size GE4.out); (have hg1_0 : w4.cell? ⟨g1, 0, none⟩ = some (.int .i64 k) := (blk_cell BK1c.out 0).trans rfl; have hfg1_0 := blk_frozen BK1c.out 0; have hg1_1 : w4.cell? ⟨g1, 1, none⟩ = some (.int .i64 j) := (blk_cell BK1c.out 1).trans rfl; have hfg1_1 := blk_frozen BK1c.out 1); have hn24 : g2 ≠ g4 := (by have := blk_lt BK2b.out; have := GE4.out; omega); have hn34 : g3 ≠ g4 := (by have := blk_lt BK3.out; have := GE4.out; omega); have hn23 : g2 ≠ g3 := (by have := blk_lt BK2.out; have := GE3.out; omega))
    | (go_at_call 27; refine (HC _).mono ?_; rintro e w5 ⟨rfl, hb5⟩; have BK4b := Aside0.mk (blk_below BK4.out hb5); have BK2d := Aside0.mk (blk_below BK2c.out hb5); have BK3d := Aside0.mk (blk_below BK3c.out hb5); have HB5 := Aside0.mk (below_then HB4.out HB4.out.size hb5); clear hb5; clear hg1_0 hfg1_0 hg1_1 hfg1_1)
    | (((with_reducible refine gate_dst (N := 7) rfl ?_); refine box_event ?hg (N := 7) ?hd (cs := #[.bool false, .nilFunc, .nilFunc, .nilFunc]) (t := 61) ?hr ?_; (case hd => rfl); (case hg => rfl); (case hr => first | (go_simp; done) | (go_simp; rfl)); intro g6 hg w6 hbox hb; have GE6 := Aside0.mk (Nat.le_of_eq hg.symm); have BK6 := Aside0.mk hbox; have HX6 := Aside0.mk hb; clear hg hbox hb); have BK4c := Aside0.mk (blk_below BK4b.out HX6.out); have BK2e := Aside0.mk (blk_below BK2d.out HX6.out); have BK3e := Aside0.mk (blk_below BK3d.out HX6.out); have HB6 := Aside0.mk (below_then HB5.out HB5.out.size HX6.out); have HG6 := Aside0.mk (Nat.le_trans HB5.out.size GE6.out); (have hg6_0 : w6.cell? ⟨g6, 0, none⟩ = some (.bool false) := (blk_cell BK6.out 0).trans rfl; have hfg6_0 := blk_frozen BK6.out 0; have hg6_1 : w6.cell? ⟨g6, 1, none⟩ = some (.nilFunc) := (blk_cell BK6.out 1).trans rfl; have hfg6_1 := blk_frozen BK6.out 1; have hg6_2 : w6.cell? ⟨g6, 2, none⟩ = some (.nilFunc) := (blk_cell BK6.out 2).trans rfl; have hfg6_2 := blk_frozen BK6.out 2; have hg6_3 : w6.cell? ⟨g6, 3, none⟩ = some (.nilFunc) := (blk_cell BK6.out 3).trans rfl; have hfg6_3 := blk_frozen BK6.out 3); (have hg4_0 : w6.cell? ⟨g4, 0, none⟩ = some (.int .u64 0) := (blk_cell BK4c.out 0).trans rfl; have hfg4_0 := blk_frozen BK4c.out 0; have hg4_1 : w6.cell? ⟨g4, 1, none⟩ = some (.int .i64 0) := (blk_cell BK4c.out 1).trans rfl; have hfg4_1 := blk_frozen BK4c.out 1; have hg4_2 : w6.cell? ⟨g4, 2, none⟩ = some (.slice none 0 0) := (blk_cell BK4c.out 2).trans rfl; have hfg4_2 := blk_frozen BK4c.out 2); (have hg2_0 : w6.cell? ⟨g2, 0, none⟩ = some (.int .u64 n) := (blk_cell BK2e.out 0).trans rfl; have hfg2_0 := blk_frozen BK2e.out 0; have hg2_1 : w6.cell? ⟨g2, 1, none⟩ = some (.int .i64 v) := (blk_cell BK2e.out 1).trans rfl; have hfg2_1 := blk_frozen BK2e.out 1; have hg2_2 : w6.cell? ⟨g2, 2, none⟩ = some (.slice A l c) := (blk_cell BK2e.out 2).trans rfl; have hfg2_2 := blk_frozen BK2e.out 2); (have hg3_0 : w6.cell? ⟨g3, 0, none⟩ = some (.int .u64 n2) := (blk_cell BK3e.out 0).trans rfl; have hfg3_0 := blk_frozen BK3e.out 0; have hg3_1 : w6.cell? ⟨g3, 1, none⟩ = some (.int .i64 v2) := (blk_cell BK3e.out 1).trans rfl; have hfg3_1 := blk_frozen BK3e.out 1; have hg3_2 : w6.cell? ⟨g3, 2, none⟩ = some (.slice A2 l2 c2) := (blk_cell BK3e.out 2).trans rfl; have hfg3_2 := blk_frozen BK3e.out 2); have hn46 : g4 ≠ g6 := (by have := blk_lt BK4b.out; have := GE6.out; omega); have hn26 : g2 ≠ g6 := (by have := blk_lt BK2d.out; have := GE6.out; omega); have hn36 : g3 ≠ g6 := (by have := blk_lt BK3d.out; have := GE6.out; omega))
    | fail)
  refine bodyPost_ret (results_cell_row rfl _ _ g4 33 #[.int .u64 0, .int .i64 0, .slice none 0 0] (0, 0) _ rfl (blk_set (blk_set (blk_set (blk_far (blk_far (blk_far (blk_far BK4c.out hn46 _) hn46 _) hn46 _) hn46 _) 0 _) 1 _) 2 _) Try.underlying33 rfl (by kernel_rfl)) rfl ⟨_, rfl, Kd.R_nil _ _ _ _ _, (below_set (below_set (below_set (below_set (below_set (below_set (below_set HB6.out HG6.out) HG6.out) HG6.out) HG6.out) HG4.out) HG4.out) HG4.out)⟩
set_option maxRecDepth 100000 in
set_option maxHeartbeats 400000 in
theorem merge_zero (k j v v2 n n2 : Int) (A A2 : Option Addr) (l c l2 c2 : Nat) (w : World) (ka kb kc kd : Value) (e1 : (n == 0) = true) (e2 : (n2 == 0) = true) (HC : Knows k j #[ka, kb, kc, kd] true)
    (h1 : ka.oneCell' = true) (h2 : kb.oneCell' = true) (h3 : kc.oneCell' = true) (h4 : kd.oneCell' = true) :
    Calls Try.prog 17 #[.agg #[.int .i64 k, .int .i64 j], .agg #[.int .u64 n, .int .i64 v, .slice A l c], .agg #[.int .u64 n2, .int .i64 v2, .slice A2 l2 c2]] w (Merged w 0 0 []) := by
  have sa := store_fact h1
  have sb := store_fact h2
  have sc := store_fact h3
  have sd := store_fact h4
  clear h1 h2 h3 h4
  go_enter Try.func17, Try.ntmps17
  go_wp2_with (first
    | ((with_reducible refine gate_dst (N := 3) rfl ?_); refine box_event ?hg (N := 3) ?hd (cs := #[.int .i64 k, .int .i64 j]) (t := 23) ?hr ?_; (case hd => rfl); (case hg => rfl); (case hr => first | (go_simp; done) | (go_simp; rfl)); intro g1 hg w1 hbox hb; have GE1 := Aside0.mk (Nat.le_of_eq hg.symm); have BK1 := Aside0.mk hbox; have HX1 := Aside0.mk hb; clear hg hbox hb)
    | ((with_reducible refine gate_dst (N := 4) rfl ?_); refine box_event ?hg (N := 4) ?hd (cs := #[.int .u64 n, .int .i64 v, .slice A l c]) (t := 33) ?hr ?_; (case hd => rfl); (case hg => rfl); (case hr => first | (go_simp; done) | (go_simp; rfl)); intro g2 hg w2 hbox hb; have GE2 := Aside0.mk (Nat.le_of_eq hg.symm); have BK2 := Aside0.mk hbox; have HX2 := Aside0.mk hb; clear hg hbox hb)
    | (((with_reducible refine gate_dst (N := 5) rfl ?_); refine box_event ?hg (N := 5) ?hd (cs := #[.int .u64 n2, .int .i64 v2, .slice A2 l2 c2]) (t := 33) ?hr ?_; (case hd => rfl); (case hg => rfl); (case hr => first | (go_simp; done) | (go_simp; rfl)); intro g3 hg w3 hbox hb; have GE3 := Aside0.mk (Nat.le_of_eq hg.symm); have BK3 := Aside0.mk hbox; have HX3 := Aside0.mk hb; clear hg hbox hb); have BK1b := Aside0.mk (blk_below (blk_below BK1.out HX2.out) HX3.out); have BK2b := Aside0.mk (blk_below BK2.out HX3.out); have HB3 := Aside0.mk (below_then (below_then HX1.out HX1.out.size HX2.out) (Nat.le_trans HX1.out.size HX2.out.size) HX3.out); have HG2 := Aside0.mk (Nat.le_trans HX1.out.size GE2.out))
    | (((with_reducible refine gate_dst (N := 6) rfl ?_); refine box_event ?hg (N := 6) ?hd (cs := #[.int .u64 0, .int .i64 0, .slice none 0 0]) (t := 33) ?hr ?_; (case hd => rfl); (case hg => rfl); (case hr => first | (go_simp; done) | (go_simp; rfl)); intro g4 hg w4 hbox hb; have GE4 := Aside0.mk (Nat.le_of_eq hg.symm); have BK4 := Aside0.mk hbox; have HX4 := Aside0.mk hb; clear hg hbox hb); have BK1c := Aside0.mk (blk_below BK1b.out HX4.out); have BK2c := Aside0.mk (blk_below BK2b.out HX4.out); have BK3c := Aside0.mk (blk_below BK3.out HX4.out); have HB4 := Aside0.mk (below_then HB3.out HB3.out.size HX4.out); have HG4 := Aside0.mk (Nat.le_trans HB3.out.size GE4.out); (have hg1_0 : w4.cell? ⟨g1, 0, none⟩ = some (.int .i64 k) := (blk_cell BK1c.out 0).trans rfl; have hfg1_0 := blk_frozen BK1c.out 0; have hg1_1 : w4.cell? ⟨g1, 1, none⟩ = some (.int .i64 j) := (blk_cell BK1c.out 1).trans rfl; have hfg1_1 := blk_frozen BK1c.out 1); have hn24 : g2 ≠ g4 := (by have := blk_lt BK2b.out; have := GE4.out; omega); have hn34 : g3 ≠ g4 := (by have := blk_lt BK3.out; have := GE4.out; omega); have hn23 : g2 ≠ g3 := (by have := blk_lt BK2.out; have := GE3.out; omega))
    | (go_at_call 27; refine (HC _).mono ?_; rintro e w5 ⟨rfl, hb5⟩; have BK4b := Aside0.mk (blk_below BK4.out hb5); have BK2d := Aside0.mk (blk_below BK2c.out hb5); have BK3d := Aside0.mk (blk_below BK3c.out hb5); have HB5 := Aside0.mk (below_then HB4.out HB4.out.size hb5); clear hb5; clear hg1_0 hfg1_0 hg1_1 hfg1_1)
    | (((with_reducible refine gate_dst (N := 7) rfl ?_); refine box_event ?hg (N := 7) ?hd (cs := #[.bool false, .nilFunc, .nilFunc, .nilFunc]) (t := 61) ?hr ?_; (case hd => rfl); (case hg => rfl); (case hr => first | (go_simp; done) | (go_simp; rfl)); intro g6 hg w6 hbox hb; have GE6 := Aside0.mk (Nat.le_of_eq hg.symm); have BK6 := Aside0.mk hbox; have HX6 := Aside0.mk hb; clear hg hbox hb); have BK4c := Aside0.mk (blk_below BK4b.out HX6.out); have BK2e := Aside0.mk (blk_below BK2d.out HX6.out); have BK3e := Aside0.mk (blk_below BK3d.out HX6.out); have HB6 := Aside0.mk (below_then HB5.out HB5.out.size HX6.out); have HG6 := Aside0.mk (Nat.le_trans HB5.out.size GE6.out); (have hg6_0 : w6.cell? ⟨g6, 0, none⟩ = some (.bool false) := (blk_cell BK6.out 0).trans rfl; have hfg6_0 := blk_frozen BK6.out 0; have hg6_1 : w6.cell? ⟨g6, 1, none⟩ = some (.nilFunc) := (blk_cell BK6.out 1).trans rfl; have hfg6_1 := blk_frozen BK6.out 1; have hg6_2 : w6.cell? ⟨g6, 2, none⟩ = some (.nilFunc) := (blk_cell BK6.out 2).trans rfl; have hfg6_2 := blk_frozen BK6.out 2; have hg6_3 : w6.cell? ⟨g6, 3, none⟩ = some (.nilFunc) := (blk_cell BK6.out 3).trans rfl; have hfg6_3 := blk_frozen BK6.out 3); (have hg4_0 : w6.cell? ⟨g4, 0, none⟩ = some (.int .u64 0) := (blk_cell BK4c.out 0).trans rfl; have hfg4_0 := blk_frozen BK4c.out 0; have hg4_1 : w6.cell? ⟨g4, 1, none⟩ = some (.int .i64 0) := (blk_cell BK4c.out 1).trans rfl; have hfg4_1 := blk_frozen BK4c.out 1; have hg4_2 : w6.cell? ⟨g4, 2, none⟩ = some (.slice none 0 0) := (blk_cell BK4c.out 2).trans rfl; have hfg4_2 := blk_frozen BK4c.out 2); (have hg2_0 : w6.cell? ⟨g2, 0, none⟩ = some (.int .u64 n) := (blk_cell BK2e.out 0).trans rfl; have hfg2_0 := blk_frozen BK2e.out 0; have hg2_1 : w6.cell? ⟨g2, 1, none⟩ = some (.int .i64 v) := (blk_cell BK2e.out 1).trans rfl; have hfg2_1 := blk_frozen BK2e.out 1; have hg2_2 : w6.cell? ⟨g2, 2, none⟩ = some (.slice A l c) := (blk_cell BK2e.out 2).trans rfl; have hfg2_2 := blk_frozen BK2e.out 2); (have hg3_0 : w6.cell? ⟨g3, 0, none⟩ = some (.int .u64 n2) := (blk_cell BK3e.out 0).trans rfl; have hfg3_0 := blk_frozen BK3e.out 0; have hg3_1 : w6.cell? ⟨g3, 1, none⟩ = some (.int .i64 v2) := (blk_cell BK3e.out 1).trans rfl; have hfg3_1 := blk_frozen BK3e.out 1; have hg3_2 : w6.cell? ⟨g3, 2, none⟩ = some (.slice A2 l2 c2) := (blk_cell BK3e.out 2).trans rfl; have hfg3_2 := blk_frozen BK3e.out 2); have hn46 : g4 ≠ g6 := (by have := blk_lt BK4b.out; have := GE6.out; omega); have hn26 : g2 ≠ g6 := (by have := blk_lt BK2d.out; have := GE6.out; omega); have hn36 : g3 ≠ g6 := (by have := blk_lt BK3d.out; have := GE6.out; omega))
    | fail)
  refine bodyPost_ret (results_cell_row rfl _ _ g4 33 #[.int .u64 0, .int .i64 0, .slice none 0 0] (0, 0) _ rfl (blk_set (blk_set (blk_set (blk_far (blk_far (blk_far (blk_far BK4c.out hn46 _) hn46 _) hn46 _) hn46 _) 0 _) 1 _) 2 _) Try.underlying33 rfl (by kernel_rfl)) rfl ⟨_, rfl, Kd.R_nil _ _ _ _ _, (below_set (below_set (below_set (below_set (below_set (below_set (below_set HB6.out HG6.out) HG6.out) HG6.out) HG6.out) HG4.out) HG4.out) HG4.out)⟩
set_option maxRecDepth 100000 in
set_option maxHeartbeats 400000 in
theorem merge_left (k j v v2 n n2 : Int) (A A2 : Option Addr) (l c l2 c2 : Nat) (w : World) (ka kb kc kd : Value) (e1 : (n == 0) = false) (e2 : (n2 == 0) = true) (xs : List ByteArray) (hx : Kd.C Kd.string w A l xs) (hl : xs.length ≤ 8796093022208) (HC : Knows k j #[ka, kb, kc, kd] true)
    (h1 : ka.oneCell' = true) (h2 : kb.oneCell' = true) (h3 : kc.oneCell' = true) (h4 : kd.oneCell' = true) :
    Calls Try.prog 17 #[.agg #[.int .i64 k, .int .i64 j], .agg #[.int .u64 n, .int .i64 v, .slice A l c], .agg #[.int .u64 n2, .int .i64 v2, .slice A2 l2 c2]] w (Merged w n v (builtB xs)) := by
  have sa := store_fact h1
  have sb := store_fact h2
  have sc := store_fact h3
  have sd := store_fact h4
  clear h1 h2 h3 h4
  have e3 : (n2 != 0) = false := by rw [bne, e2]; rfl
  have HX := Aside0.mk hx
  have HL := Aside0.mk hl
  clear hx hl
  go_enter Try.func17, Try.ntmps17
  go_wp2_with (first
    | ((with_reducible refine gate_dst (N := 3) rfl ?_); refine box_event ?hg (N := 3) ?hd (cs := #[.int .i64 k, .int .i64 j]) (t := 23) ?hr ?_; (case hd => rfl); (case hg => rfl); (case hr => first | (go_simp; done) | (go_simp; rfl)); intro g1 hg w1 hbox hb; have GE1 := Aside0.mk (Nat.le_of_eq hg.symm); have BK1 := Aside0.mk hbox; have HX1 := Aside0.mk hb; clear hg hbox hb)
    | ((with_reducible refine gate_dst (N := 4) rfl ?_); refine box_event ?hg (N := 4) ?hd (cs := #[.int .u64 n, .int .i64 v, .slice A l c]) (t := 33) ?hr ?_; (case hd => rfl); (case hg => rfl); (case hr => first | (go_simp; done) | (go_simp; rfl)); intro g2 hg w2 hbox hb; have GE2 := Aside0.mk (Nat.le_of_eq hg.symm); have BK2 := Aside0.mk hbox; have HX2 := Aside0.mk hb; clear hg hbox hb)
    | (((with_reducible refine gate_dst (N := 5) rfl ?_); refine box_event ?hg (N := 5) ?hd (cs := #[.int .u64 n2, .int .i64 v2, .slice A2 l2 c2]) (t := 33) ?hr ?_; (case hd => rfl); (case hg => rfl); (case hr => first | (go_simp; done) | (go_simp; rfl)); intro g3 hg w3 hbox hb; have GE3 := Aside0.mk (Nat.le_of_eq hg.symm); have BK3 := Aside0.mk hbox; have HX3 := Aside0.mk hb; clear hg hbox hb); have BK1b := Aside0.mk (blk_below (blk_below BK1.out HX2.out) HX3.out); have BK2b := Aside0.mk (blk_below BK2.out HX3.out); have HB3 := Aside0.mk (below_then (below_then HX1.out HX1.out.size HX2.out) (Nat.le_trans HX1.out.size HX2.out.size) HX3.out); have HG2 := Aside0.mk (Nat.le_trans HX1.out.size GE2.out))
    | (((with_reducible refine gate_dst (N := 6) rfl ?_); refine box_event ?hg (N := 6) ?hd (cs := #[.int .u64 0, .int .i64 0, .slice none 0 0]) (t := 33) ?hr ?_; (case hd => rfl); (case hg => rfl); (case hr => first | (go_simp; done) | (go_simp; rfl)); intro g4 hg w4 hbox hb; have GE4 := Aside0.mk (Nat.le_of_eq hg.symm); have BK4 := Aside0.mk hbox; have HX4 := Aside0.mk hb; clear hg hbox hb); have BK1c := Aside0.mk (blk_below BK1b.out HX4.out); have BK2c := Aside0.mk (blk_below BK2b.out HX4.out); have BK3c := Aside0.mk (blk_below BK3.out HX4.out); have HB4 := Aside0.mk (below_then HB3.out HB3.out.size HX4.out); have HG4 := Aside0.mk (Nat.le_trans HB3.out.size GE4.out); (have hg1_0 : w4.cell? ⟨g1, 0, none⟩ = some (.int .i64 k) := (blk_cell BK1c.out 0).trans rfl; have hfg1_0 := blk_frozen BK1c.out 0; have hg1_1 : w4.cell? ⟨g1, 1, none⟩ = some (.int .i64 j) := (blk_cell BK1c.out 1).trans rfl; have hfg1_1 := blk_frozen BK1c.out 1); have hn24 : g2 ≠ g4 := (by have := blk_lt BK2b.out; have := GE4.out; omega); have hn34 : g3 ≠ g4 := (by have := blk_lt BK3.out; have := GE4.out; omega); have hn23 : g2 ≠ g3 := (by have := blk_lt BK2.out; have := GE3.out; omega))
    | (go_at_call 27; refine (HC _).mono ?_; rintro e w5 ⟨rfl, hb5⟩; have BK4b := Aside0.mk (blk_below BK4.out hb5); have BK2d := Aside0.mk (blk_below BK2c.out hb5); have BK3d := Aside0.mk (blk_below BK3c.out hb5); have HB5 := Aside0.mk (below_then HB4.out HB4.out.size hb5); clear hb5; clear hg1_0 hfg1_0 hg1_1 hfg1_1)
    | (((with_reducible refine gate_dst (N := 7) rfl ?_); refine box_event ?hg (N := 7) ?hd (cs := #[.bool false, .nilFunc, .nilFunc, .nilFunc]) (t := 61) ?hr ?_; (case hd => rfl); (case hg => rfl); (case hr => first | (go_simp; done) | (go_simp; rfl)); intro g6 hg w6 hbox hb; have GE6 := Aside0.mk (Nat.le_of_eq hg.symm); have BK6 := Aside0.mk hbox; have HX6 := Aside0.mk hb; clear hg hbox hb); have BK4c := Aside0.mk (blk_below BK4b.out HX6.out); have BK2e := Aside0.mk (blk_below BK2d.out HX6.out); have BK3e := Aside0.mk (blk_below BK3d.out HX6.out); have HB6 := Aside0.mk (below_then HB5.out HB5.out.size HX6.out); have HG6 := Aside0.mk (Nat.le_trans HB5.out.size GE6.out); (have hg6_0 : w6.cell? ⟨g6, 0, none⟩ = some (.bool false) := (blk_cell BK6.out 0).trans rfl; have hfg6_0 := blk_frozen BK6.out 0; have hg6_1 : w6.cell? ⟨g6, 1, none⟩ = some (.nilFunc) := (blk_cell BK6.out 1).trans rfl; have hfg6_1 := blk_frozen BK6.out 1; have hg6_2 : w6.cell? ⟨g6, 2, none⟩ = some (.nilFunc) := (blk_cell BK6.out 2).trans rfl; have hfg6_2 := blk_frozen BK6.out 2; have hg6_3 : w6.cell? ⟨g6, 3, none⟩ = some (.nilFunc) := (blk_cell BK6.out 3).trans rfl; have hfg6_3 := blk_frozen BK6.out 3); (have hg4_0 : w6.cell? ⟨g4, 0, none⟩ = some (.int .u64 0) := (blk_cell BK4c.out 0).trans rfl; have hfg4_0 := blk_frozen BK4c.out 0; have hg4_1 : w6.cell? ⟨g4, 1, none⟩ = some (.int .i64 0) := (blk_cell BK4c.out 1).trans rfl; have hfg4_1 := blk_frozen BK4c.out 1; have hg4_2 : w6.cell? ⟨g4, 2, none⟩ = some (.slice none 0 0) := (blk_cell BK4c.out 2).trans rfl; have hfg4_2 := blk_frozen BK4c.out 2); (have hg2_0 : w6.cell? ⟨g2, 0, none⟩ = some (.int .u64 n) := (blk_cell BK2e.out 0).trans rfl; have hfg2_0 := blk_frozen BK2e.out 0; have hg2_1 : w6.cell? ⟨g2, 1, none⟩ = some (.int .i64 v) := (blk_cell BK2e.out 1).trans rfl; have hfg2_1 := blk_frozen BK2e.out 1; have hg2_2 : w6.cell? ⟨g2, 2, none⟩ = some (.slice A l c) := (blk_cell BK2e.out 2).trans rfl; have hfg2_2 := blk_frozen BK2e.out 2); (have hg3_0 : w6.cell? ⟨g3, 0, none⟩ = some (.int .u64 n2) := (blk_cell BK3e.out 0).trans rfl; have hfg3_0 := blk_frozen BK3e.out 0; have hg3_1 : w6.cell? ⟨g3, 1, none⟩ = some (.int .i64 v2) := (blk_cell BK3e.out 1).trans rfl; have hfg3_1 := blk_frozen BK3e.out 1; have hg3_2 : w6.cell? ⟨g3, 2, none⟩ = some (.slice A2 l2 c2) := (blk_cell BK3e.out 2).trans rfl; have hfg3_2 := blk_frozen BK3e.out 2); have hn46 : g4 ≠ g6 := (by have := blk_lt BK4b.out; have := GE6.out; omega); have hn26 : g2 ≠ g6 := (by have := blk_lt BK2d.out; have := GE6.out; omega); have hn36 : g3 ≠ g6 := (by have := blk_lt BK3d.out; have := GE6.out; omega))
    | fail)
  have HBW := Aside0.mk (show Below w.heap.size w (((((w6.setCell ⟨g6, 0, none⟩ ka).setCell ⟨g6, 1, none⟩ kb).setCell ⟨g6, 2, none⟩ (kc)).setCell ⟨g6, 3, none⟩ kd)) from (below_set (below_set (below_set (below_set HB6.out HG6.out) HG6.out) HG6.out) HG6.out))
  have BK2W := Aside0.mk (show (((((w6.setCell ⟨g6, 0, none⟩ ka).setCell ⟨g6, 1, none⟩ kb).setCell ⟨g6, 2, none⟩ (kc)).setCell ⟨g6, 3, none⟩ kd)).heap[g2]? = some (.cells #[.int .u64 (n), .int .i64 (v), .slice (A) (l) (c)] 33 (0, 0)) from (blk_far (blk_far (blk_far (blk_far BK2e.out hn26 _) hn26 _) hn26 _) hn26 _))
  have BK3W := Aside0.mk (show (((((w6.setCell ⟨g6, 0, none⟩ ka).setCell ⟨g6, 1, none⟩ kb).setCell ⟨g6, 2, none⟩ (kc)).setCell ⟨g6, 3, none⟩ kd)).heap[g3]? = some (.cells #[.int .u64 n2, .int .i64 v2, .slice A2 (l2) c2] 33 (0, 0)) from (blk_far (blk_far (blk_far (blk_far BK3e.out hn36 _) hn36 _) hn36 _) hn36 _))
  have BK4W := Aside0.mk (show (((((w6.setCell ⟨g6, 0, none⟩ ka).setCell ⟨g6, 1, none⟩ kb).setCell ⟨g6, 2, none⟩ (kc)).setCell ⟨g6, 3, none⟩ kd)).heap[g4]? = some (.cells #[.int .u64 0, .int .i64 0, .slice none 0 0] 33 (0, 0)) from (blk_far (blk_far (blk_far (blk_far BK4c.out hn46 _) hn46 _) hn46 _) hn46 _))
  have HSz := Aside0.mk (show (((((w6.setCell ⟨g6, 0, none⟩ ka).setCell ⟨g6, 1, none⟩ kb).setCell ⟨g6, 2, none⟩ (kc)).setCell ⟨g6, 3, none⟩ kd)).heap.size = w6.heap.size by simp)
  clear hg6_0 hfg6_0 hg6_1 hfg6_1 hg6_2 hfg6_2 hg6_3 hfg6_3 hg4_0 hfg4_0 hg4_1 hfg4_1 hg4_2 hfg4_2 hg2_0 hfg2_0 hg2_1 hfg2_1 hg2_2 hfg2_2 hg3_0 hfg3_0 hg3_1 hfg3_1 hg3_2 hfg3_2
  generalize ((((w6.setCell ⟨g6, 0, none⟩ ka).setCell ⟨g6, 1, none⟩ kb).setCell ⟨g6, 2, none⟩ (kc)).setCell ⟨g6, 3, none⟩ kd) = wW at *
  (try rw [← HSz.out])
  have HLn := Aside0.mk (show xs.length = l from HX.out.1)
  obtain rfl := HLn.out
  refine (clone_strings xs xs.length A c _ (Kd.C_below HX.out HBW.out) (by have := HL.out; omega)).mono ?_
  rintro e w7 ⟨v7, rfl, ho7, hb7⟩
  obtain ⟨A7, c7, rfl, -, -⟩ := Kd.R_reads ho7
  have HO7 := Aside0.mk ho7
  have HB7 := Aside0.mk (below_then HBW.out HBW.out.size hb7)
  have HN2 := Aside0.mk (show some g2 ≠ (Value.slice A7 xs.length c7).ownBlock from fun e => by have h1 := blk_lt BK2W.out; have h2 := Kd.R_base ho7 _ e.symm; omega)
  have HN4 := Aside0.mk (show some g4 ≠ (Value.slice A7 xs.length c7).ownBlock from fun e => by have h1 := blk_lt BK4W.out; have h2 := Kd.R_base ho7 _ e.symm; omega)
  have HBs := Aside0.mk (show ∀ k, (Value.slice A7 xs.length c7).ownBlock = some k → w.heap.size ≤ k from fun k e => Nat.le_trans HBW.out.size (Kd.R_base ho7 _ e))
  have BK2y := Aside0.mk (blk_below BK2W.out hb7)
  have BK4y := Aside0.mk (blk_below BK4W.out hb7)
  clear ho7 hb7
  go_wp2_with fail
  refine (sort_strings xs w7 _ (fun _ => True) A7 _ c7 HO7.out (by have := HL.out; omega)).mono ?_
  rintro e w8 ⟨rfl, ho8, hg8⟩
  have HO8 := Aside0.mk ho8
  have HB8 := Aside0.mk (pw_below_grown HB7.out _ HB7.out.size hg8 (fun k hk => HBs.out k hk))
  have BK2z := Aside0.mk (blk_grown BK2y.out hg8 HN2.out)
  have BK4z := Aside0.mk (blk_grown BK4y.out hg8 HN4.out)
  have p0 : w8.cell? ⟨g2, 0, none⟩ = some (.int .u64 n) := (blk_cell BK2z.out 0).trans rfl
  have p1 : w8.cell? ⟨g2, 1, none⟩ = some (.int .i64 v) := (blk_cell BK2z.out 1).trans rfl
  clear ho8 hg8 HO7
  go_wp2_with fail
  refine start_ (n := 8) (S := fun w' => w'.cell? ⟨g2, 0, none⟩ = some (.int .u64 n) ∧ w'.cell? ⟨g2, 1, none⟩ = some (.int .i64 v)) (ds := [7]) #[false, false, false, false, false, false, false, false] (by kernel_rfl) rfl rfl ⟨p0, p1⟩ (fun hHeld => ?_)
  refine pure_ (i := 0) (N := some 67) (v := ?_) (a' := ?_) #[true, false, false, false, false, false, false, false] rfl rfl (by kernel_rfl) (fun _ _ _ h => h) (Or.inl ⟨by rfl, ?_⟩) ?_ ?_
  rotate_left
  · intro w'
    go_simp
    with_reducible rfl
  rotate_left
  · simp only [Act.put, List.setIfInBounds_toArray, List.set_cons_zero, List.set_cons_succ, i64_w, i32_w]
    rfl
  refine pure_ (i := 2) (N := some 69) (v := ?_) (a' := ?_) #[true, false, true, false, false, false, false, false] rfl rfl (by kernel_rfl) (fun _ _ _ h => h) (Or.inl ⟨by rfl, ?_⟩) ?_ ?_
  rotate_left
  · intro w'
    go_simp
    with_reducible rfl
  rotate_left
  · simp only [Act.put, List.setIfInBounds_toArray, List.set_cons_zero, List.set_cons_succ, i64_w, i32_w]
    rfl
  refine pure_ (i := 4) (N := some 71) (v := ?_) (a' := ?_) #[true, false, true, false, true, false, false, false] rfl rfl (by kernel_rfl) (fun _ _ _ h => h) (Or.inl ⟨by rfl, ?_⟩) ?_ ?_
  rotate_left
  · intro w'
    go_simp
    with_reducible rfl
  rotate_left
  · simp only [Act.put, List.setIfInBounds_toArray, List.set_cons_zero, List.set_cons_succ, i64_w, i32_w]
    rfl
  refine take_ (i := 1) (N := some 68) (v := ?_) (a' := ?_) #[true, true, true, false, true, false, false, false] rfl rfl (by kernel_rfl) (fun _ _ _ h => h) (Or.inl ⟨by rfl, ?_⟩) hHeld ?_ ?_
  rotate_left
  · rintro w' ⟨s0, s1⟩
    go_simp
    with_reducible rfl
  rotate_left
  · simp only [Act.put, List.setIfInBounds_toArray, List.set_cons_zero, List.set_cons_succ, i64_w, i32_w]
    rfl
  refine take_ (i := 3) (N := some 70) (v := ?_) (a' := ?_) #[true, true, true, true, true, false, false, false] rfl rfl (by kernel_rfl) (fun _ _ _ h => h) (Or.inl ⟨by rfl, ?_⟩) hHeld ?_ ?_
  rotate_left
  · rintro w' ⟨s0, s1⟩
    go_simp
    with_reducible rfl
  rotate_left
  · simp only [Act.put, List.setIfInBounds_toArray, List.set_cons_zero, List.set_cons_succ, i64_w, i32_w]
    rfl
  refine one_ (i := 5) (N := some 72) #[true, true, true, true, true, true, false, false] rfl rfl (by kernel_rfl) (by decide) (fun K hK => ?_)
  refine goes_ Try.func31 (by kernel_rfl) rfl #[.slice A7 xs.length c7] (by rfl) rfl rfl (by simp only [List.map_toArray, List.map_cons, List.map_nil]; rfl) ?_
  with_reducible refine (compact_strings (sortB xs) _ _ (fun _ => True) A7 _ c7 (Kd.R_drew HO8.out) (by rw [sortB_length]; have := HL.out; omega)).mono ?_
  rintro e w9 ⟨v9, rfl, ho9, hv9, hg9⟩
  refine ⟨_, rfl, ?_⟩
  have BK2q := Aside0.mk (blk_grown (blk_drew BK2z.out) hg9 HN2.out)
  have BK4q := Aside0.mk (blk_grown (blk_drew BK4z.out) hg9 HN4.out)
  have HB9 := Aside0.mk (pw_below_grown (below_drew HB8.out) _ (below_drew HB8.out).size hg9 (fun k hk => HBs.out k hk))
  have hbd : ∀ u : World, (Instr.build 33 #[(0, .int .u64 n), (1, .int .i64 v), (2, .slice A7 (compactB (sortB xs)).length c7)]).run Try.prog u = .ok (.agg #[.int .u64 n, .int .i64 v, .slice A7 (compactB (sortB xs)).length c7]) u := fun u => run_build u _ _ _ (by kernel_rfl)
  subst hv9
  rw [built_is] at ho9 hbd ⊢
  have HO9 := Aside0.mk ho9
  have q0 : w9.cell? ⟨g2, 0, none⟩ = some (.int .u64 n) := (blk_cell BK2q.out 0).trans rfl
  have q1 : w9.cell? ⟨g2, 1, none⟩ = some (.int .i64 v) := (blk_cell BK2q.out 1).trans rfl
  (have hg4_0 : w9.cell? ⟨g4, 0, none⟩ = some (.int .u64 0) := (blk_cell BK4q.out 0).trans rfl; have hfg4_0 := blk_frozen BK4q.out 0; have hg4_1 : w9.cell? ⟨g4, 1, none⟩ = some (.int .i64 0) := (blk_cell BK4q.out 1).trans rfl; have hfg4_1 := blk_frozen BK4q.out 1; have hg4_2 : w9.cell? ⟨g4, 2, none⟩ = some (.slice none 0 0) := (blk_cell BK4q.out 2).trans rfl; have hfg4_2 := blk_frozen BK4q.out 2)
  clear ho9 hg9
  refine hK.out _ _ ⟨q0, q1⟩ (fun hHeld => ?_)
  clear hK K
  refine norm_ (a' := ?_) ?_ ?_
  rotate_left
  · show Act.put _ (some 72) _ = _
    simp only [Act.put, List.setIfInBounds_toArray, List.set_cons_zero, List.set_cons_succ, i64_w, i32_w]
    rfl
  refine pure_ (i := 6) (N := some 73) (v := ?_) (a' := ?_) #[true, true, true, true, true, true, true, false] rfl rfl (by kernel_rfl) (fun _ _ _ h => h) (Or.inl ⟨by rfl, ?_⟩) ?_ ?_
  rotate_left
  · intro w'
    go_simp
    with_reducible rfl
  rotate_left
  · simp only [Act.put, List.setIfInBounds_toArray, List.set_cons_zero, List.set_cons_succ, i64_w, i32_w]
    rfl
  refine last_ (i := 7) (N := none) #[true, true, true, true, true, true, true, true] rfl rfl (by kernel_rfl) (by decide) (fun K hK => ?_)
  refine skip_ (w1 := ?_) (by rfl) rfl ?_ ?_
  rotate_left
  · go_simp
    rfl
  refine hK.out _ _ ?_
  clear hK K
  refine done_ (by kernel_rfl) ?_
  go_wp2_with fail
  have HT := Aside0.mk (show ∀ q, q ∈ 9 :: Kd.string.E → q ≠ 33 by decide)
  have b1 := blk_set BK4q.out 0 (.int .u64 (n))
  have b2 := blk_set b1 1 (.int .i64 (v))
  have b3 := blk_set b2 2 (.slice A7 (builtB xs).length c7)
  have r1 := Kd.R_set (Kd.R_set (Kd.R_set HO9.out BK4q.out HT.out 0 (.int .u64 (n))) b1 HT.out 1 (.int .i64 (v))) b2 HT.out 2 (.slice A7 (builtB xs).length c7)
  exact bodyPost_ret (results_cell_row rfl _ _ g4 33 #[.int .u64 (n), .int .i64 (v), .slice A7 (builtB xs).length c7] (0, 0) _ rfl b3 Try.underlying33 rfl (by kernel_rfl)) rfl ⟨_, rfl, Kd.R_lower r1 HBW.out.size, below_set (below_set (below_set HB9.out HG4.out) HG4.out) HG4.out⟩
set_option maxRecDepth 100000 in
set_option maxHeartbeats 400000 in
theorem merge_right (k j v v2 n n2 : Int) (A A2 : Option Addr) (l c l2 c2 : Nat) (w : World) (ka kb kc kd : Value) (e1 : (n == 0) = true) (e2 : (n2 == 0) = false) (xs : List ByteArray) (hx : Kd.C Kd.string w A2 l2 xs) (hl : xs.length ≤ 8796093022208) (HC : Knows k j #[ka, kb, kc, kd] true)
    (h1 : ka.oneCell' = true) (h2 : kb.oneCell' = true) (h3 : kc.oneCell' = true) (h4 : kd.oneCell' = true) :
    Calls Try.prog 17 #[.agg #[.int .i64 k, .int .i64 j], .agg #[.int .u64 n, .int .i64 v, .slice A l c], .agg #[.int .u64 n2, .int .i64 v2, .slice A2 l2 c2]] w (Merged w n2 v2 (builtB xs)) := by
  have sa := store_fact h1
  have sb := store_fact h2
  have sc := store_fact h3
  have sd := store_fact h4
  clear h1 h2 h3 h4
  have HX := Aside0.mk hx
  have HL := Aside0.mk hl
  clear hx hl
  go_enter Try.func17, Try.ntmps17
  go_wp2_with (first
    | ((with_reducible refine gate_dst (N := 3) rfl ?_); refine box_event ?hg (N := 3) ?hd (cs := #[.int .i64 k, .int .i64 j]) (t := 23) ?hr ?_; (case hd => rfl); (case hg => rfl); (case hr => first | (go_simp; done) | (go_simp; rfl)); intro g1 hg w1 hbox hb; have GE1 := Aside0.mk (Nat.le_of_eq hg.symm); have BK1 := Aside0.mk hbox; have HX1 := Aside0.mk hb; clear hg hbox hb)
    | ((with_reducible refine gate_dst (N := 4) rfl ?_); refine box_event ?hg (N := 4) ?hd (cs := #[.int .u64 n, .int .i64 v, .slice A l c]) (t := 33) ?hr ?_; (case hd => rfl); (case hg => rfl); (case hr => first | (go_simp; done) | (go_simp; rfl)); intro g2 hg w2 hbox hb; have GE2 := Aside0.mk (Nat.le_of_eq hg.symm); have BK2 := Aside0.mk hbox; have HX2 := Aside0.mk hb; clear hg hbox hb)
    | (((with_reducible refine gate_dst (N := 5) rfl ?_); refine box_event ?hg (N := 5) ?hd (cs := #[.int .u64 n2, .int .i64 v2, .slice A2 l2 c2]) (t := 33) ?hr ?_; (case hd => rfl); (case hg => rfl); (case hr => first | (go_simp; done) | (go_simp; rfl)); intro g3 hg w3 hbox hb; have GE3 := Aside0.mk (Nat.le_of_eq hg.symm); have BK3 := Aside0.mk hbox; have HX3 := Aside0.mk hb; clear hg hbox hb); have BK1b := Aside0.mk (blk_below (blk_below BK1.out HX2.out) HX3.out); have BK2b := Aside0.mk (blk_below BK2.out HX3.out); have HB3 := Aside0.mk (below_then (below_then HX1.out HX1.out.size HX2.out) (Nat.le_trans HX1.out.size HX2.out.size) HX3.out); have HG2 := Aside0.mk (Nat.le_trans HX1.out.size GE2.out))
    | (((with_reducible refine gate_dst (N := 6) rfl ?_); refine box_event ?hg (N := 6) ?hd (cs := #[.int .u64 0, .int .i64 0, .slice none 0 0]) (t := 33) ?hr ?_; (case hd => rfl); (case hg => rfl); (case hr => first | (go_simp; done) | (go_simp; rfl)); intro g4 hg w4 hbox hb; have GE4 := Aside0.mk (Nat.le_of_eq hg.symm); have BK4 := Aside0.mk hbox; have HX4 := Aside0.mk hb; clear hg hbox hb); have BK1c := Aside0.mk (blk_below BK1b.out HX4.out); have BK2c := Aside0.mk (blk_below BK2b.out HX4.out); have BK3c := Aside0.mk (blk_below BK3.out HX4.out); have HB4 := Aside0.mk (below_then HB3.out HB3.out.size HX4.out); have HG4 := Aside0.mk (Nat.le_trans HB3.out.size GE4.out); (have hg1_0 : w4.cell? ⟨g1, 0, none⟩ = some (.int .i64 k) := (blk_cell BK1c.out 0).trans rfl; have hfg1_0 := blk_frozen BK1c.out 0; have hg1_1 : w4.cell? ⟨g1, 1, none⟩ = some (.int .i64 j) := (blk_cell BK1c.out 1).trans rfl; have hfg1_1 := blk_frozen BK1c.out 1); have hn24 : g2 ≠ g4 := (by have := blk_lt BK2b.out; have := GE4.out; omega); have hn34 : g3 ≠ g4 := (by have := blk_lt BK3.out; have := GE4.out; omega); have hn23 : g2 ≠ g3 := (by have := blk_lt BK2.out; have := GE3.out; omega))
    | (go_at_call 27; refine (HC _).mono ?_; rintro e w5 ⟨rfl, hb5⟩; have BK4b := Aside0.mk (blk_below BK4.out hb5); have BK2d := Aside0.mk (blk_below BK2c.out hb5); have BK3d := Aside0.mk (blk_below BK3c.out hb5); have HB5 := Aside0.mk (below_then HB4.out HB4.out.size hb5); clear hb5; clear hg1_0 hfg1_0 hg1_1 hfg1_1)
    | (((with_reducible refine gate_dst (N := 7) rfl ?_); refine box_event ?hg (N := 7) ?hd (cs := #[.bool false, .nilFunc, .nilFunc, .nilFunc]) (t := 61) ?hr ?_; (case hd => rfl); (case hg => rfl); (case hr => first | (go_simp; done) | (go_simp; rfl)); intro g6 hg w6 hbox hb; have GE6 := Aside0.mk (Nat.le_of_eq hg.symm); have BK6 := Aside0.mk hbox; have HX6 := Aside0.mk hb; clear hg hbox hb); have BK4c := Aside0.mk (blk_below BK4b.out HX6.out); have BK2e := Aside0.mk (blk_below BK2d.out HX6.out); have BK3e := Aside0.mk (blk_below BK3d.out HX6.out); have HB6 := Aside0.mk (below_then HB5.out HB5.out.size HX6.out); have HG6 := Aside0.mk (Nat.le_trans HB5.out.size GE6.out); (have hg6_0 : w6.cell? ⟨g6, 0, none⟩ = some (.bool false) := (blk_cell BK6.out 0).trans rfl; have hfg6_0 := blk_frozen BK6.out 0; have hg6_1 : w6.cell? ⟨g6, 1, none⟩ = some (.nilFunc) := (blk_cell BK6.out 1).trans rfl; have hfg6_1 := blk_frozen BK6.out 1; have hg6_2 : w6.cell? ⟨g6, 2, none⟩ = some (.nilFunc) := (blk_cell BK6.out 2).trans rfl; have hfg6_2 := blk_frozen BK6.out 2; have hg6_3 : w6.cell? ⟨g6, 3, none⟩ = some (.nilFunc) := (blk_cell BK6.out 3).trans rfl; have hfg6_3 := blk_frozen BK6.out 3); (have hg4_0 : w6.cell? ⟨g4, 0, none⟩ = some (.int .u64 0) := (blk_cell BK4c.out 0).trans rfl; have hfg4_0 := blk_frozen BK4c.out 0; have hg4_1 : w6.cell? ⟨g4, 1, none⟩ = some (.int .i64 0) := (blk_cell BK4c.out 1).trans rfl; have hfg4_1 := blk_frozen BK4c.out 1; have hg4_2 : w6.cell? ⟨g4, 2, none⟩ = some (.slice none 0 0) := (blk_cell BK4c.out 2).trans rfl; have hfg4_2 := blk_frozen BK4c.out 2); (have hg2_0 : w6.cell? ⟨g2, 0, none⟩ = some (.int .u64 n) := (blk_cell BK2e.out 0).trans rfl; have hfg2_0 := blk_frozen BK2e.out 0; have hg2_1 : w6.cell? ⟨g2, 1, none⟩ = some (.int .i64 v) := (blk_cell BK2e.out 1).trans rfl; have hfg2_1 := blk_frozen BK2e.out 1; have hg2_2 : w6.cell? ⟨g2, 2, none⟩ = some (.slice A l c) := (blk_cell BK2e.out 2).trans rfl; have hfg2_2 := blk_frozen BK2e.out 2); (have hg3_0 : w6.cell? ⟨g3, 0, none⟩ = some (.int .u64 n2) := (blk_cell BK3e.out 0).trans rfl; have hfg3_0 := blk_frozen BK3e.out 0; have hg3_1 : w6.cell? ⟨g3, 1, none⟩ = some (.int .i64 v2) := (blk_cell BK3e.out 1).trans rfl; have hfg3_1 := blk_frozen BK3e.out 1; have hg3_2 : w6.cell? ⟨g3, 2, none⟩ = some (.slice A2 l2 c2) := (blk_cell BK3e.out 2).trans rfl; have hfg3_2 := blk_frozen BK3e.out 2); have hn46 : g4 ≠ g6 := (by have := blk_lt BK4b.out; have := GE6.out; omega); have hn26 : g2 ≠ g6 := (by have := blk_lt BK2d.out; have := GE6.out; omega); have hn36 : g3 ≠ g6 := (by have := blk_lt BK3d.out; have := GE6.out; omega))
    | fail)
  have HBW := Aside0.mk (show Below w.heap.size w ((((((((w6.setCell ⟨g6, 0, none⟩ ka).setCell ⟨g6, 1, none⟩ kb).setCell ⟨g6, 2, none⟩ (kc)).setCell ⟨g6, 3, none⟩ kd).setCell ⟨g2, 0, none⟩ (.int .u64 n2)).setCell ⟨g2, 1, none⟩ (.int .i64 v2)).setCell ⟨g2, 2, none⟩ (.slice A2 l2 c2))) from (below_set (below_set (below_set (below_set (below_set (below_set (below_set HB6.out HG6.out) HG6.out) HG6.out) HG6.out) HG2.out) HG2.out) HG2.out))
  have BK2W := Aside0.mk (show ((((((((w6.setCell ⟨g6, 0, none⟩ ka).setCell ⟨g6, 1, none⟩ kb).setCell ⟨g6, 2, none⟩ (kc)).setCell ⟨g6, 3, none⟩ kd).setCell ⟨g2, 0, none⟩ (.int .u64 n2)).setCell ⟨g2, 1, none⟩ (.int .i64 v2)).setCell ⟨g2, 2, none⟩ (.slice A2 l2 c2))).heap[g2]? = some (.cells #[.int .u64 (n2), .int .i64 (v2), .slice (A2) (l2) (c2)] 33 (0, 0)) from (blk_set (blk_set (blk_set (blk_far (blk_far (blk_far (blk_far BK2e.out hn26 _) hn26 _) hn26 _) hn26 _) 0 _) 1 _) 2 _))
  have BK3W := Aside0.mk (show ((((((((w6.setCell ⟨g6, 0, none⟩ ka).setCell ⟨g6, 1, none⟩ kb).setCell ⟨g6, 2, none⟩ (kc)).setCell ⟨g6, 3, none⟩ kd).setCell ⟨g2, 0, none⟩ (.int .u64 n2)).setCell ⟨g2, 1, none⟩ (.int .i64 v2)).setCell ⟨g2, 2, none⟩ (.slice A2 l2 c2))).heap[g3]? = some (.cells #[.int .u64 n2, .int .i64 v2, .slice A2 (l2) c2] 33 (0, 0)) from (blk_far (blk_far (blk_far (blk_far (blk_far (blk_far (blk_far BK3e.out hn36 _) hn36 _) hn36 _) hn36 _) hn23.symm _) hn23.symm _) hn23.symm _))
  have BK4W := Aside0.mk (show ((((((((w6.setCell ⟨g6, 0, none⟩ ka).setCell ⟨g6, 1, none⟩ kb).setCell ⟨g6, 2, none⟩ (kc)).setCell ⟨g6, 3, none⟩ kd).setCell ⟨g2, 0, none⟩ (.int .u64 n2)).setCell ⟨g2, 1, none⟩ (.int .i64 v2)).setCell ⟨g2, 2, none⟩ (.slice A2 l2 c2))).heap[g4]? = some (.cells #[.int .u64 0, .int .i64 0, .slice none 0 0] 33 (0, 0)) from (blk_far (blk_far (blk_far (blk_far (blk_far (blk_far (blk_far BK4c.out hn46 _) hn46 _) hn46 _) hn46 _) hn24.symm _) hn24.symm _) hn24.symm _))
  have HSz := Aside0.mk (show ((((((((w6.setCell ⟨g6, 0, none⟩ ka).setCell ⟨g6, 1, none⟩ kb).setCell ⟨g6, 2, none⟩ (kc)).setCell ⟨g6, 3, none⟩ kd).setCell ⟨g2, 0, none⟩ (.int .u64 n2)).setCell ⟨g2, 1, none⟩ (.int .i64 v2)).setCell ⟨g2, 2, none⟩ (.slice A2 l2 c2))).heap.size = w6.heap.size by simp)
  clear hg6_0 hfg6_0 hg6_1 hfg6_1 hg6_2 hfg6_2 hg6_3 hfg6_3 hg4_0 hfg4_0 hg4_1 hfg4_1 hg4_2 hfg4_2 hg2_0 hfg2_0 hg2_1 hfg2_1 hg2_2 hfg2_2 hg3_0 hfg3_0 hg3_1 hfg3_1 hg3_2 hfg3_2
  generalize (((((((w6.setCell ⟨g6, 0, none⟩ ka).setCell ⟨g6, 1, none⟩ kb).setCell ⟨g6, 2, none⟩ (kc)).setCell ⟨g6, 3, none⟩ kd).setCell ⟨g2, 0, none⟩ (.int .u64 n2)).setCell ⟨g2, 1, none⟩ (.int .i64 v2)).setCell ⟨g2, 2, none⟩ (.slice A2 l2 c2)) = wW at *
  (try rw [← HSz.out])
  have HLn := Aside0.mk (show xs.length = l2 from HX.out.1)
  obtain rfl := HLn.out
  refine (clone_strings xs xs.length A2 c2 _ (Kd.C_below HX.out HBW.out) (by have := HL.out; omega)).mono ?_
  rintro e w7 ⟨v7, rfl, ho7, hb7⟩
  obtain ⟨A7, c7, rfl, -, -⟩ := Kd.R_reads ho7
  have HO7 := Aside0.mk ho7
  have HB7 := Aside0.mk (below_then HBW.out HBW.out.size hb7)
  have HN2 := Aside0.mk (show some g2 ≠ (Value.slice A7 xs.length c7).ownBlock from fun e => by have h1 := blk_lt BK2W.out; have h2 := Kd.R_base ho7 _ e.symm; omega)
  have HN4 := Aside0.mk (show some g4 ≠ (Value.slice A7 xs.length c7).ownBlock from fun e => by have h1 := blk_lt BK4W.out; have h2 := Kd.R_base ho7 _ e.symm; omega)
  have HBs := Aside0.mk (show ∀ k, (Value.slice A7 xs.length c7).ownBlock = some k → w.heap.size ≤ k from fun k e => Nat.le_trans HBW.out.size (Kd.R_base ho7 _ e))
  have BK2y := Aside0.mk (blk_below BK2W.out hb7)
  have BK4y := Aside0.mk (blk_below BK4W.out hb7)
  clear ho7 hb7
  go_wp2_with fail
  refine (sort_strings xs w7 _ (fun _ => True) A7 _ c7 HO7.out (by have := HL.out; omega)).mono ?_
  rintro e w8 ⟨rfl, ho8, hg8⟩
  have HO8 := Aside0.mk ho8
  have HB8 := Aside0.mk (pw_below_grown HB7.out _ HB7.out.size hg8 (fun k hk => HBs.out k hk))
  have BK2z := Aside0.mk (blk_grown BK2y.out hg8 HN2.out)
  have BK4z := Aside0.mk (blk_grown BK4y.out hg8 HN4.out)
  have p0 : w8.cell? ⟨g2, 0, none⟩ = some (.int .u64 n2) := (blk_cell BK2z.out 0).trans rfl
  have p1 : w8.cell? ⟨g2, 1, none⟩ = some (.int .i64 v2) := (blk_cell BK2z.out 1).trans rfl
  clear ho8 hg8 HO7
  go_wp2_with fail
  refine start_ (n := 8) (S := fun w' => w'.cell? ⟨g2, 0, none⟩ = some (.int .u64 n2) ∧ w'.cell? ⟨g2, 1, none⟩ = some (.int .i64 v2)) (ds := [7]) #[false, false, false, false, false, false, false, false] (by kernel_rfl) rfl rfl ⟨p0, p1⟩ (fun hHeld => ?_)
  refine pure_ (i := 0) (N := some 67) (v := ?_) (a' := ?_) #[true, false, false, false, false, false, false, false] rfl rfl (by kernel_rfl) (fun _ _ _ h => h) (Or.inl ⟨by rfl, ?_⟩) ?_ ?_
  rotate_left
  · intro w'
    go_simp
    with_reducible rfl
  rotate_left
  · simp only [Act.put, List.setIfInBounds_toArray, List.set_cons_zero, List.set_cons_succ, i64_w, i32_w]
    rfl
  refine pure_ (i := 2) (N := some 69) (v := ?_) (a' := ?_) #[true, false, true, false, false, false, false, false] rfl rfl (by kernel_rfl) (fun _ _ _ h => h) (Or.inl ⟨by rfl, ?_⟩) ?_ ?_
  rotate_left
  · intro w'
    go_simp
    with_reducible rfl
  rotate_left
  · simp only [Act.put, List.setIfInBounds_toArray, List.set_cons_zero, List.set_cons_succ, i64_w, i32_w]
    rfl
  refine pure_ (i := 4) (N := some 71) (v := ?_) (a' := ?_) #[true, false, true, false, true, false, false, false] rfl rfl (by kernel_rfl) (fun _ _ _ h => h) (Or.inl ⟨by rfl, ?_⟩) ?_ ?_
  rotate_left
  · intro w'
    go_simp
    with_reducible rfl
  rotate_left
  · simp only [Act.put, List.setIfInBounds_toArray, List.set_cons_zero, List.set_cons_succ, i64_w, i32_w]
    rfl
  refine take_ (i := 1) (N := some 68) (v := ?_) (a' := ?_) #[true, true, true, false, true, false, false, false] rfl rfl (by kernel_rfl) (fun _ _ _ h => h) (Or.inl ⟨by rfl, ?_⟩) hHeld ?_ ?_
  rotate_left
  · rintro w' ⟨s0, s1⟩
    go_simp
    with_reducible rfl
  rotate_left
  · simp only [Act.put, List.setIfInBounds_toArray, List.set_cons_zero, List.set_cons_succ, i64_w, i32_w]
    rfl
  refine take_ (i := 3) (N := some 70) (v := ?_) (a' := ?_) #[true, true, true, true, true, false, false, false] rfl rfl (by kernel_rfl) (fun _ _ _ h => h) (Or.inl ⟨by rfl, ?_⟩) hHeld ?_ ?_
  rotate_left
  · rintro w' ⟨s0, s1⟩
    go_simp
    with_reducible rfl
  rotate_left
  · simp only [Act.put, List.setIfInBounds_toArray, List.set_cons_zero, List.set_cons_succ, i64_w, i32_w]
    rfl
  refine one_ (i := 5) (N := some 72) #[true, true, true, true, true, true, false, false] rfl rfl (by kernel_rfl) (by decide) (fun K hK => ?_)
  refine goes_ Try.func31 (by kernel_rfl) rfl #[.slice A7 xs.length c7] (by rfl) rfl rfl (by simp only [List.map_toArray, List.map_cons, List.map_nil]; rfl) ?_
  with_reducible refine (compact_strings (sortB xs) _ _ (fun _ => True) A7 _ c7 (Kd.R_drew HO8.out) (by rw [sortB_length]; have := HL.out; omega)).mono ?_
  rintro e w9 ⟨v9, rfl, ho9, hv9, hg9⟩
  refine ⟨_, rfl, ?_⟩
  have BK2q := Aside0.mk (blk_grown (blk_drew BK2z.out) hg9 HN2.out)
  have BK4q := Aside0.mk (blk_grown (blk_drew BK4z.out) hg9 HN4.out)
  have HB9 := Aside0.mk (pw_below_grown (below_drew HB8.out) _ (below_drew HB8.out).size hg9 (fun k hk => HBs.out k hk))
  have hbd : ∀ u : World, (Instr.build 33 #[(0, .int .u64 n2), (1, .int .i64 v2), (2, .slice A7 (compactB (sortB xs)).length c7)]).run Try.prog u = .ok (.agg #[.int .u64 n2, .int .i64 v2, .slice A7 (compactB (sortB xs)).length c7]) u := fun u => run_build u _ _ _ (by kernel_rfl)
  subst hv9
  rw [built_is] at ho9 hbd ⊢
  have HO9 := Aside0.mk ho9
  have q0 : w9.cell? ⟨g2, 0, none⟩ = some (.int .u64 n2) := (blk_cell BK2q.out 0).trans rfl
  have q1 : w9.cell? ⟨g2, 1, none⟩ = some (.int .i64 v2) := (blk_cell BK2q.out 1).trans rfl
  (have hg4_0 : w9.cell? ⟨g4, 0, none⟩ = some (.int .u64 0) := (blk_cell BK4q.out 0).trans rfl; have hfg4_0 := blk_frozen BK4q.out 0; have hg4_1 : w9.cell? ⟨g4, 1, none⟩ = some (.int .i64 0) := (blk_cell BK4q.out 1).trans rfl; have hfg4_1 := blk_frozen BK4q.out 1; have hg4_2 : w9.cell? ⟨g4, 2, none⟩ = some (.slice none 0 0) := (blk_cell BK4q.out 2).trans rfl; have hfg4_2 := blk_frozen BK4q.out 2)
  clear ho9 hg9
  refine hK.out _ _ ⟨q0, q1⟩ (fun hHeld => ?_)
  clear hK K
  refine norm_ (a' := ?_) ?_ ?_
  rotate_left
  · show Act.put _ (some 72) _ = _
    simp only [Act.put, List.setIfInBounds_toArray, List.set_cons_zero, List.set_cons_succ, i64_w, i32_w]
    rfl
  refine pure_ (i := 6) (N := some 73) (v := ?_) (a' := ?_) #[true, true, true, true, true, true, true, false] rfl rfl (by kernel_rfl) (fun _ _ _ h => h) (Or.inl ⟨by rfl, ?_⟩) ?_ ?_
  rotate_left
  · intro w'
    go_simp
    with_reducible rfl
  rotate_left
  · simp only [Act.put, List.setIfInBounds_toArray, List.set_cons_zero, List.set_cons_succ, i64_w, i32_w]
    rfl
  refine last_ (i := 7) (N := none) #[true, true, true, true, true, true, true, true] rfl rfl (by kernel_rfl) (by decide) (fun K hK => ?_)
  refine skip_ (w1 := ?_) (by rfl) rfl ?_ ?_
  rotate_left
  · go_simp
    rfl
  refine hK.out _ _ ?_
  clear hK K
  refine done_ (by kernel_rfl) ?_
  go_wp2_with fail
  have HT := Aside0.mk (show ∀ q, q ∈ 9 :: Kd.string.E → q ≠ 33 by decide)
  have b1 := blk_set BK4q.out 0 (.int .u64 (n2))
  have b2 := blk_set b1 1 (.int .i64 (v2))
  have b3 := blk_set b2 2 (.slice A7 (builtB xs).length c7)
  have r1 := Kd.R_set (Kd.R_set (Kd.R_set HO9.out BK4q.out HT.out 0 (.int .u64 (n2))) b1 HT.out 1 (.int .i64 (v2))) b2 HT.out 2 (.slice A7 (builtB xs).length c7)
  exact bodyPost_ret (results_cell_row rfl _ _ g4 33 #[.int .u64 (n2), .int .i64 (v2), .slice A7 (builtB xs).length c7] (0, 0) _ rfl b3 Try.underlying33 rfl (by kernel_rfl)) rfl ⟨_, rfl, Kd.R_lower r1 HBW.out.size, below_set (below_set (below_set HB9.out HG4.out) HG4.out) HG4.out⟩
theorem C_two {w : World} {g e E : Nat} {A A2 : Option Addr} {c c2 : Nat} {xs ys : List ByteArray} (hb : w.heap[g]? = some (.cells #[.slice A xs.length c, .slice A2 ys.length c2] E (0, 0))) (h1 : Kd.C Kd.string w A xs.length xs) (h2 : Kd.C Kd.string w A2 ys.length ys) (hc : xs.length ≤ c) (hc2 : ys.length ≤ c2) :
    Kd.C (Kd.slice e Kd.string) w (some ⟨g, 0, none⟩) 2 [xs, ys] := by
  have e0 := (blk_cell hb 0).trans (rfl : (#[Value.slice A xs.length c, .slice A2 ys.length c2] : Array Value)[0]? = some (.slice A xs.length c))
  have e1 := (blk_cell hb 1).trans (rfl : (#[Value.slice A xs.length c, .slice A2 ys.length c2] : Array Value)[1]? = some (.slice A2 ys.length c2))
  refine ⟨rfl, by omega, fun _ => ⟨_, rfl, fun q p hp => ?_⟩⟩
  match q, hp with
  | 0, hp =>
    obtain rfl : xs = p := by simpa using hp
    refine ⟨[.slice A xs.length c], rfl, ⟨A, c, rfl, hc, h1⟩, fun i u hu => ?_⟩
    match i, hu with
    | 0, hu =>
      obtain rfl : Value.slice A xs.length c = u := by simpa using hu
      exact e0
    | i + 1, hu => simp at hu
  | 1, hp =>
    obtain rfl : ys = p := by simpa using hp
    refine ⟨[.slice A2 ys.length c2], rfl, ⟨A2, c2, rfl, hc2, h2⟩, fun i u hu => ?_⟩
    match i, hu with
    | 0, hu =>
      obtain rfl : Value.slice A2 ys.length c2 = u := by simpa using hu
      exact e1
    | i + 1, hu => simp at hu
  | q + 2, hp => simp at hp
theorem nil_neq (u : World) : (binOp .neq 58 .nilFunc .nilFunc).run Try.prog u = .ok (.bool false) u := by kernel_rfl
theorem fn_neq (m : Nat) (u : World) : (binOp .neq 58 (.func (.func m) #[] #[]) .nilFunc).run Try.prog u = .ok (.bool true) u := by kernel_rfl
theorem below_alloc' {w W : World} (h : Below w.heap.size w W) (o : Obj) : Below w.heap.size w (W.alloc o) := below_alloc h o
theorem concat_two (xs ys : List ByteArray) (h : xs.length + ys.length < 8796093022208) : ∃ k, slices_Concat_string_string.f k [xs, ys] = some (xs ++ ys) := by
  refine ⟨6, ?_⟩
  have hx : wrap64 ((0 : Int) + (xs.length : Int)) = xs.length := by unfold wrap64; omega
  have hy : wrap64 ((xs.length : Int) + (ys.length : Int)) = ((xs.length + ys.length : Nat) : Int) := by unfold wrap64; omega
  have h1 : wrap64 ((0 : Int) + 1) = 1 := by unfold wrap64; omega
  have h2 : wrap64 ((1 : Int) + 1) = 2 := by unfold wrap64; omega
  have g0 : rd_L2 [xs, ys] 0 = xs := rfl
  have g1 : rd_L2 [xs, ys] 1 = ys := rfl
  have hl : (([xs, ys] : List (List ByteArray)).length : Int) = 2 := rfl
  have hs : ((xs.length + ys.length : Nat) : Int) ≤ 8796093022208 := by omega
  have hg : slices_Grow_string_string_at_nil.f ((xs.length + ys.length : Nat) : Int) = some [] := by unfold slices_Grow_string_string_at_nil.f; rw [if_pos (by omega), if_pos hs]
  unfold slices_Concat_string_string.f
  simp only [slices_Concat_string_string.l0, hl, g0, h1, g1, h2, hx]
  rw [if_pos (by decide), if_pos (by decide), if_pos (by decide), if_neg (by omega), if_pos (by decide), if_pos (by decide), if_pos (by decide), hy, if_neg (by omega), if_neg (by decide), hg]
  simp only [Option.bind_some, slices_Concat_string_string.l1, hl, g0, h1, g1, h2, List.nil_append, List.length_nil]
  rw [if_pos (by decide), if_pos (by decide), if_pos (by decide), if_pos (by omega), if_pos (by decide), if_pos (by decide), if_pos (by decide), if_pos (by omega), if_neg (by decide)]
set_option maxRecDepth 100000 in
set_option maxHeartbeats 400000 in
theorem merge_nil (k j v v2 n n2 : Int) (A A2 : Option Addr) (l c l2 c2 : Nat) (w : World) (ka kb kc kd : Value) (e1 : (n == 0) = false) (e2 : (n2 == 0) = false) (xs ys : List ByteArray) (hx : Kd.C Kd.string w A l xs) (hy : Kd.C Kd.string w A2 l2 ys) (hl : xs.length + ys.length < 8796093022208) (hlc : l ≤ c) (hlc2 : l2 ≤ c2) (hkc : kc = .nilFunc) (HC : Knows k j #[ka, kb, kc, kd] true)
    (h1 : ka.oneCell' = true) (h2 : kb.oneCell' = true) (h3 : kc.oneCell' = true) (h4 : kd.oneCell' = true) :
    Calls Try.prog 17 #[.agg #[.int .i64 k, .int .i64 j], .agg #[.int .u64 n, .int .i64 v, .slice A l c], .agg #[.int .u64 n2, .int .i64 v2, .slice A2 l2 c2]] w (Merged w (IntKind.u64.wrap (n + n2)) v (builtB (xs ++ ys))) := by
  have sa := store_fact h1
  have sb := store_fact h2
  have sc := store_fact h3
  have sd := store_fact h4
  clear h1 h2 h3 h4
  subst hkc


  have hcmp := nil_neq
  have e3 : (n2 != 0) = true := by rw [bne, e2]; rfl
  have HX := Aside0.mk hx
  have HY := Aside0.mk hy
  have HL := Aside0.mk hl
  have HLc := Aside0.mk (And.intro hlc hlc2)
  clear hx hl hy hlc hlc2
  go_enter Try.func17, Try.ntmps17
  go_wp2_with (first
    | ((with_reducible refine gate_dst (N := 3) rfl ?_); refine box_event ?hg (N := 3) ?hd (cs := #[.int .i64 k, .int .i64 j]) (t := 23) ?hr ?_; (case hd => rfl); (case hg => rfl); (case hr => first | (go_simp; done) | (go_simp; rfl)); intro g1 hg w1 hbox hb; have GE1 := Aside0.mk (Nat.le_of_eq hg.symm); have BK1 := Aside0.mk hbox; have HX1 := Aside0.mk hb; clear hg hbox hb)
    | ((with_reducible refine gate_dst (N := 4) rfl ?_); refine box_event ?hg (N := 4) ?hd (cs := #[.int .u64 n, .int .i64 v, .slice A l c]) (t := 33) ?hr ?_; (case hd => rfl); (case hg => rfl); (case hr => first | (go_simp; done) | (go_simp; rfl)); intro g2 hg w2 hbox hb; have GE2 := Aside0.mk (Nat.le_of_eq hg.symm); have BK2 := Aside0.mk hbox; have HX2 := Aside0.mk hb; clear hg hbox hb)
    | (((with_reducible refine gate_dst (N := 5) rfl ?_); refine box_event ?hg (N := 5) ?hd (cs := #[.int .u64 n2, .int .i64 v2, .slice A2 l2 c2]) (t := 33) ?hr ?_; (case hd => rfl); (case hg => rfl); (case hr => first | (go_simp; done) | (go_simp; rfl)); intro g3 hg w3 hbox hb; have GE3 := Aside0.mk (Nat.le_of_eq hg.symm); have BK3 := Aside0.mk hbox; have HX3 := Aside0.mk hb; clear hg hbox hb); have BK1b := Aside0.mk (blk_below (blk_below BK1.out HX2.out) HX3.out); have BK2b := Aside0.mk (blk_below BK2.out HX3.out); have HB3 := Aside0.mk (below_then (below_then HX1.out HX1.out.size HX2.out) (Nat.le_trans HX1.out.size HX2.out.size) HX3.out); have HG2 := Aside0.mk (Nat.le_trans HX1.out.size GE2.out))
    | (((with_reducible refine gate_dst (N := 6) rfl ?_); refine box_event ?hg (N := 6) ?hd (cs := #[.int .u64 0, .int .i64 0, .slice none 0 0]) (t := 33) ?hr ?_; (case hd => rfl); (case hg => rfl); (case hr => first | (go_simp; done) | (go_simp; rfl)); intro g4 hg w4 hbox hb; have GE4 := Aside0.mk (Nat.le_of_eq hg.symm); have BK4 := Aside0.mk hbox; have HX4 := Aside0.mk hb; clear hg hbox hb); have BK1c := Aside0.mk (blk_below BK1b.out HX4.out); have BK2c := Aside0.mk (blk_below BK2b.out HX4.out); have BK3c := Aside0.mk (blk_below BK3.out HX4.out); have HB4 := Aside0.mk (below_then HB3.out HB3.out.size HX4.out); have HG4 := Aside0.mk (Nat.le_trans HB3.out.size GE4.out); (have hg1_0 : w4.cell? ⟨g1, 0, none⟩ = some (.int .i64 k) := (blk_cell BK1c.out 0).trans rfl; have hfg1_0 := blk_frozen BK1c.out 0; have hg1_1 : w4.cell? ⟨g1, 1, none⟩ = some (.int .i64 j) := (blk_cell BK1c.out 1).trans rfl; have hfg1_1 := blk_frozen BK1c.out 1); have hn24 : g2 ≠ g4 := (by have := blk_lt BK2b.out; have := GE4.out; omega); have hn34 : g3 ≠ g4 := (by have := blk_lt BK3.out; have := GE4.out; omega); have hn23 : g2 ≠ g3 := (by have := blk_lt BK2.out; have := GE3.out; omega))
    | (go_at_call 27; refine (HC _).mono ?_; rintro e w5 ⟨rfl, hb5⟩; have BK4b := Aside0.mk (blk_below BK4.out hb5); have BK2d := Aside0.mk (blk_below BK2c.out hb5); have BK3d := Aside0.mk (blk_below BK3c.out hb5); have HB5 := Aside0.mk (below_then HB4.out HB4.out.size hb5); clear hb5; clear hg1_0 hfg1_0 hg1_1 hfg1_1)
    | (((with_reducible refine gate_dst (N := 7) rfl ?_); refine box_event ?hg (N := 7) ?hd (cs := #[.bool false, .nilFunc, .nilFunc, .nilFunc]) (t := 61) ?hr ?_; (case hd => rfl); (case hg => rfl); (case hr => first | (go_simp; done) | (go_simp; rfl)); intro g6 hg w6 hbox hb; have GE6 := Aside0.mk (Nat.le_of_eq hg.symm); have BK6 := Aside0.mk hbox; have HX6 := Aside0.mk hb; clear hg hbox hb); have BK4c := Aside0.mk (blk_below BK4b.out HX6.out); have BK2e := Aside0.mk (blk_below BK2d.out HX6.out); have BK3e := Aside0.mk (blk_below BK3d.out HX6.out); have HB6 := Aside0.mk (below_then HB5.out HB5.out.size HX6.out); have HG6 := Aside0.mk (Nat.le_trans HB5.out.size GE6.out); (have hg6_0 : w6.cell? ⟨g6, 0, none⟩ = some (.bool false) := (blk_cell BK6.out 0).trans rfl; have hfg6_0 := blk_frozen BK6.out 0; have hg6_1 : w6.cell? ⟨g6, 1, none⟩ = some (.nilFunc) := (blk_cell BK6.out 1).trans rfl; have hfg6_1 := blk_frozen BK6.out 1; have hg6_2 : w6.cell? ⟨g6, 2, none⟩ = some (.nilFunc) := (blk_cell BK6.out 2).trans rfl; have hfg6_2 := blk_frozen BK6.out 2; have hg6_3 : w6.cell? ⟨g6, 3, none⟩ = some (.nilFunc) := (blk_cell BK6.out 3).trans rfl; have hfg6_3 := blk_frozen BK6.out 3); (have hg4_0 : w6.cell? ⟨g4, 0, none⟩ = some (.int .u64 0) := (blk_cell BK4c.out 0).trans rfl; have hfg4_0 := blk_frozen BK4c.out 0; have hg4_1 : w6.cell? ⟨g4, 1, none⟩ = some (.int .i64 0) := (blk_cell BK4c.out 1).trans rfl; have hfg4_1 := blk_frozen BK4c.out 1; have hg4_2 : w6.cell? ⟨g4, 2, none⟩ = some (.slice none 0 0) := (blk_cell BK4c.out 2).trans rfl; have hfg4_2 := blk_frozen BK4c.out 2); (have hg2_0 : w6.cell? ⟨g2, 0, none⟩ = some (.int .u64 n) := (blk_cell BK2e.out 0).trans rfl; have hfg2_0 := blk_frozen BK2e.out 0; have hg2_1 : w6.cell? ⟨g2, 1, none⟩ = some (.int .i64 v) := (blk_cell BK2e.out 1).trans rfl; have hfg2_1 := blk_frozen BK2e.out 1; have hg2_2 : w6.cell? ⟨g2, 2, none⟩ = some (.slice A l c) := (blk_cell BK2e.out 2).trans rfl; have hfg2_2 := blk_frozen BK2e.out 2); (have hg3_0 : w6.cell? ⟨g3, 0, none⟩ = some (.int .u64 n2) := (blk_cell BK3e.out 0).trans rfl; have hfg3_0 := blk_frozen BK3e.out 0; have hg3_1 : w6.cell? ⟨g3, 1, none⟩ = some (.int .i64 v2) := (blk_cell BK3e.out 1).trans rfl; have hfg3_1 := blk_frozen BK3e.out 1; have hg3_2 : w6.cell? ⟨g3, 2, none⟩ = some (.slice A2 l2 c2) := (blk_cell BK3e.out 2).trans rfl; have hfg3_2 := blk_frozen BK3e.out 2); have hn46 : g4 ≠ g6 := (by have := blk_lt BK4b.out; have := GE6.out; omega); have hn26 : g2 ≠ g6 := (by have := blk_lt BK2d.out; have := GE6.out; omega); have hn36 : g3 ≠ g6 := (by have := blk_lt BK3d.out; have := GE6.out; omega))
    | fail)
  have HLn := Aside0.mk (show xs.length = l from HX.out.1)
  have HLm := Aside0.mk (show ys.length = l2 from HY.out.1)
  obtain rfl := HLn.out
  obtain rfl := HLm.out
  go_wp2_with fail
  have HBW := Aside0.mk (show Below w.heap.size w (((((w6.setCell ⟨g6, 0, none⟩ ka).setCell ⟨g6, 1, none⟩ kb).setCell ⟨g6, 2, none⟩ (.nilFunc)).setCell ⟨g6, 3, none⟩ kd)) from (below_set (below_set (below_set (below_set HB6.out HG6.out) HG6.out) HG6.out) HG6.out))
  have BK2W := Aside0.mk (show (((((w6.setCell ⟨g6, 0, none⟩ ka).setCell ⟨g6, 1, none⟩ kb).setCell ⟨g6, 2, none⟩ (.nilFunc)).setCell ⟨g6, 3, none⟩ kd)).heap[g2]? = some (.cells #[.int .u64 (n), .int .i64 (v), .slice (A) (xs.length) (c)] 33 (0, 0)) from (blk_far (blk_far (blk_far (blk_far BK2e.out hn26 _) hn26 _) hn26 _) hn26 _))
  have BK3W := Aside0.mk (show (((((w6.setCell ⟨g6, 0, none⟩ ka).setCell ⟨g6, 1, none⟩ kb).setCell ⟨g6, 2, none⟩ (.nilFunc)).setCell ⟨g6, 3, none⟩ kd)).heap[g3]? = some (.cells #[.int .u64 n2, .int .i64 v2, .slice A2 (ys.length) c2] 33 (0, 0)) from (blk_far (blk_far (blk_far (blk_far BK3e.out hn36 _) hn36 _) hn36 _) hn36 _))
  have BK4W := Aside0.mk (show (((((w6.setCell ⟨g6, 0, none⟩ ka).setCell ⟨g6, 1, none⟩ kb).setCell ⟨g6, 2, none⟩ (.nilFunc)).setCell ⟨g6, 3, none⟩ kd)).heap[g4]? = some (.cells #[.int .u64 0, .int .i64 0, .slice none 0 0] 33 (0, 0)) from (blk_far (blk_far (blk_far (blk_far BK4c.out hn46 _) hn46 _) hn46 _) hn46 _))
  have HSz := Aside0.mk (show (((((w6.setCell ⟨g6, 0, none⟩ ka).setCell ⟨g6, 1, none⟩ kb).setCell ⟨g6, 2, none⟩ (.nilFunc)).setCell ⟨g6, 3, none⟩ kd)).heap.size = w6.heap.size by simp)
  clear hg6_0 hfg6_0 hg6_1 hfg6_1 hg6_2 hfg6_2 hg6_3 hfg6_3 hg4_0 hfg4_0 hg4_1 hfg4_1 hg4_2 hfg4_2 hg2_0 hfg2_0 hg2_1 hfg2_1 hg2_2 hfg2_2 hg3_0 hfg3_0 hg3_1 hfg3_1 hg3_2 hfg3_2
  generalize ((((w6.setCell ⟨g6, 0, none⟩ ka).setCell ⟨g6, 1, none⟩ kb).setCell ⟨g6, 2, none⟩ (.nilFunc)).setCell ⟨g6, 3, none⟩ kd) = wW at *
  (try rw [← HSz.out])
  have BK2a := Aside0.mk (blk_below BK2W.out (below_alloc (Below.refl wW.heap.size wW) (.cells #[.slice A xs.length c, .slice A2 ys.length c2] 31)))
  have BK3a := Aside0.mk (blk_below BK3W.out (below_alloc (Below.refl wW.heap.size wW) (.cells #[.slice A xs.length c, .slice A2 ys.length c2] 31)))
  have BK4a := Aside0.mk (blk_below BK4W.out (below_alloc (Below.refl wW.heap.size wW) (.cells #[.slice A xs.length c, .slice A2 ys.length c2] 31)))
  have HBa := Aside0.mk (below_alloc' HBW.out (.cells #[.slice A xs.length c, .slice A2 ys.length c2] 31))
  have HC2 := Aside0.mk (C_two (e := 9) (heap_alloc_new wW (.cells #[.slice A xs.length c, .slice A2 ys.length c2] 31)) (Kd.C_below HX.out HBa.out) (Kd.C_below HY.out HBa.out) HLc.out.1 HLc.out.2)
  obtain ⟨kk, hkk⟩ := concat_two xs ys HL.out
  refine (slices_Concat_string_string.calls kk _ 2 [xs, ys] (xs ++ ys) _ HC2.out (Nat.le_refl _) hkk).mono ?_
  rintro e w9 ⟨v9, rfl, ho9, hb9⟩
  clear hkk
  have HL9 := Aside0.mk (show (xs ++ ys).length ≤ 8796093022208 by rw [List.length_append]; have := HL.out; omega)
  generalize xs ++ ys = zs at *
  obtain ⟨A9, c9, rfl, hc9, -⟩ := Kd.R_reads ho9
  have BK2b9 := Aside0.mk (blk_below BK2a.out hb9)
  have BK3b9 := Aside0.mk (blk_below BK3a.out hb9)
  have BK4b9 := Aside0.mk (blk_below BK4a.out hb9)
  have HB9a := Aside0.mk (below_then HBa.out HBa.out.size hb9)
  have HO9a := Aside0.mk ho9
  have hn24' : g2 ≠ g4 := hn24
  clear ho9 hb9 hc9
  (have hg2_0 : w9.cell? ⟨g2, 0, none⟩ = some (.int .u64 n) := (blk_cell BK2b9.out 0).trans rfl; have hfg2_0 := blk_frozen BK2b9.out 0; have hg2_1 : w9.cell? ⟨g2, 1, none⟩ = some (.int .i64 (v)) := (blk_cell BK2b9.out 1).trans rfl; have hfg2_1 := blk_frozen BK2b9.out 1; have hg2_2 : w9.cell? ⟨g2, 2, none⟩ = some (.slice A xs.length c) := (blk_cell BK2b9.out 2).trans rfl; have hfg2_2 := blk_frozen BK2b9.out 2)
  have h39 : w9.cell? ⟨g3, 0, none⟩ = some (.int .u64 n2) := (blk_cell BK3b9.out 0).trans rfl
  go_wp2_with fail
  have HT9 := Aside0.mk (show ∀ q, q ∈ 9 :: Kd.string.E → q ≠ 33 by decide)
  have b91 := blk_set BK2b9.out 2 (.slice A9 zs.length c9)
  have b92 := blk_set b91 0 (.int .u64 (IntKind.u64.wrap (n + n2)))
  have HX9 := Aside0.mk (Kd.R_set (Kd.R_set HO9a.out BK2b9.out HT9.out 2 (.slice A9 zs.length c9)) b91 HT9.out 0 (.int .u64 (IntKind.u64.wrap (n + n2))))
  have BK2v := Aside0.mk (show ((w9.setCell ⟨g2, 2, none⟩ (.slice A9 zs.length c9)).setCell ⟨g2, 0, none⟩ (.int .u64 (IntKind.u64.wrap (n + n2)))).heap[g2]? = some (.cells #[.int .u64 (IntKind.u64.wrap (n + n2)), .int .i64 (v), .slice A9 zs.length c9] 33 (0, 0)) from b92)
  have BK4v := Aside0.mk (show ((w9.setCell ⟨g2, 2, none⟩ (.slice A9 zs.length c9)).setCell ⟨g2, 0, none⟩ (.int .u64 (IntKind.u64.wrap (n + n2)))).heap[g4]? = some (.cells #[.int .u64 0, .int .i64 0, .slice none 0 0] 33 (0, 0)) from blk_far (blk_far BK4b9.out hn24'.symm _) hn24'.symm _)
  have HBv := Aside0.mk (show Below w.heap.size w ((w9.setCell ⟨g2, 2, none⟩ (.slice A9 zs.length c9)).setCell ⟨g2, 0, none⟩ (.int .u64 (IntKind.u64.wrap (n + n2)))) from below_set (below_set HB9a.out HG2.out) HG2.out)
  clear b91 b92 hg2_0 hfg2_0 hg2_1 hfg2_1 hg2_2 hfg2_2 h39
  generalize (w9.setCell ⟨g2, 2, none⟩ (.slice A9 zs.length c9)).setCell ⟨g2, 0, none⟩ (.int .u64 (IntKind.u64.wrap (n + n2))) = wV at *
  have HXv := Aside0.mk (Kd.R_reads' HX9.out).2.2
  refine (clone_strings zs zs.length A9 c9 _ HXv.out (by have := HL9.out; omega)).mono ?_
  rintro e w7 ⟨v7, rfl, ho7, hb7⟩
  obtain ⟨A7, c7, rfl, -, -⟩ := Kd.R_reads ho7
  have HO7 := Aside0.mk ho7
  have HB7 := Aside0.mk (below_then HBv.out HBv.out.size hb7)
  have HN2 := Aside0.mk (show some g2 ≠ (Value.slice A7 zs.length c7).ownBlock from fun e => by have h1 := blk_lt BK2v.out; have h2 := Kd.R_base ho7 _ e.symm; omega)
  have HN4 := Aside0.mk (show some g4 ≠ (Value.slice A7 zs.length c7).ownBlock from fun e => by have h1 := blk_lt BK4v.out; have h2 := Kd.R_base ho7 _ e.symm; omega)
  have HBs := Aside0.mk (show ∀ k, (Value.slice A7 zs.length c7).ownBlock = some k → w.heap.size ≤ k from fun k e => Nat.le_trans HBv.out.size (Kd.R_base ho7 _ e))
  have BK2y := Aside0.mk (blk_below BK2v.out hb7)
  have BK4y := Aside0.mk (blk_below BK4v.out hb7)
  clear ho7 hb7
  go_wp2_with fail
  refine (sort_strings zs w7 _ (fun _ => True) A7 _ c7 HO7.out (by have := HL9.out; omega)).mono ?_
  rintro e w8 ⟨rfl, ho8, hg8⟩
  have HO8 := Aside0.mk ho8
  have HB8 := Aside0.mk (pw_below_grown HB7.out _ HB7.out.size hg8 (fun k hk => HBs.out k hk))
  have BK2z := Aside0.mk (blk_grown BK2y.out hg8 HN2.out)
  have BK4z := Aside0.mk (blk_grown BK4y.out hg8 HN4.out)
  have p0 : w8.cell? ⟨g2, 0, none⟩ = some (.int .u64 (IntKind.u64.wrap (n + n2))) := (blk_cell BK2z.out 0).trans rfl
  have p1 : w8.cell? ⟨g2, 1, none⟩ = some (.int .i64 v) := (blk_cell BK2z.out 1).trans rfl
  clear ho8 hg8 HO7
  go_wp2_with fail
  refine start_ (n := 8) (S := fun w' => w'.cell? ⟨g2, 0, none⟩ = some (.int .u64 (IntKind.u64.wrap (n + n2))) ∧ w'.cell? ⟨g2, 1, none⟩ = some (.int .i64 v)) (ds := [7]) #[false, false, false, false, false, false, false, false] (by kernel_rfl) rfl rfl ⟨p0, p1⟩ (fun hHeld => ?_)
  refine pure_ (i := 0) (N := some 67) (v := ?_) (a' := ?_) #[true, false, false, false, false, false, false, false] rfl rfl (by kernel_rfl) (fun _ _ _ h => h) (Or.inl ⟨by rfl, ?_⟩) ?_ ?_
  rotate_left
  · intro w'
    go_simp
    with_reducible rfl
  rotate_left
  · simp only [Act.put, List.setIfInBounds_toArray, List.set_cons_zero, List.set_cons_succ, i64_w, i32_w]
    rfl
  refine pure_ (i := 2) (N := some 69) (v := ?_) (a' := ?_) #[true, false, true, false, false, false, false, false] rfl rfl (by kernel_rfl) (fun _ _ _ h => h) (Or.inl ⟨by rfl, ?_⟩) ?_ ?_
  rotate_left
  · intro w'
    go_simp
    with_reducible rfl
  rotate_left
  · simp only [Act.put, List.setIfInBounds_toArray, List.set_cons_zero, List.set_cons_succ, i64_w, i32_w]
    rfl
  refine pure_ (i := 4) (N := some 71) (v := ?_) (a' := ?_) #[true, false, true, false, true, false, false, false] rfl rfl (by kernel_rfl) (fun _ _ _ h => h) (Or.inl ⟨by rfl, ?_⟩) ?_ ?_
  rotate_left
  · intro w'
    go_simp
    with_reducible rfl
  rotate_left
  · simp only [Act.put, List.setIfInBounds_toArray, List.set_cons_zero, List.set_cons_succ, i64_w, i32_w]
    rfl
  refine take_ (i := 1) (N := some 68) (v := ?_) (a' := ?_) #[true, true, true, false, true, false, false, false] rfl rfl (by kernel_rfl) (fun _ _ _ h => h) (Or.inl ⟨by rfl, ?_⟩) hHeld ?_ ?_
  rotate_left
  · rintro w' ⟨s0, s1⟩
    go_simp
    with_reducible rfl
  rotate_left
  · simp only [Act.put, List.setIfInBounds_toArray, List.set_cons_zero, List.set_cons_succ, i64_w, i32_w]
    rfl
  refine take_ (i := 3) (N := some 70) (v := ?_) (a' := ?_) #[true, true, true, true, true, false, false, false] rfl rfl (by kernel_rfl) (fun _ _ _ h => h) (Or.inl ⟨by rfl, ?_⟩) hHeld ?_ ?_
  rotate_left
  · rintro w' ⟨s0, s1⟩
    go_simp
    with_reducible rfl
  rotate_left
  · simp only [Act.put, List.setIfInBounds_toArray, List.set_cons_zero, List.set_cons_succ, i64_w, i32_w]
    rfl
  refine one_ (i := 5) (N := some 72) #[true, true, true, true, true, true, false, false] rfl rfl (by kernel_rfl) (by decide) (fun K hK => ?_)
  refine goes_ Try.func31 (by kernel_rfl) rfl #[.slice A7 zs.length c7] (by rfl) rfl rfl (by simp only [List.map_toArray, List.map_cons, List.map_nil]; rfl) ?_
  with_reducible refine (compact_strings (sortB zs) _ _ (fun _ => True) A7 _ c7 (Kd.R_drew HO8.out) (by rw [sortB_length]; have := HL9.out; omega)).mono ?_
  rintro e w9 ⟨v9, rfl, ho9, hv9, hg9⟩
  refine ⟨_, rfl, ?_⟩
  have BK2q := Aside0.mk (blk_grown (blk_drew BK2z.out) hg9 HN2.out)
  have BK4q := Aside0.mk (blk_grown (blk_drew BK4z.out) hg9 HN4.out)
  have HB9 := Aside0.mk (pw_below_grown (below_drew HB8.out) _ (below_drew HB8.out).size hg9 (fun k hk => HBs.out k hk))
  have hbd : ∀ u : World, (Instr.build 33 #[(0, .int .u64 (IntKind.u64.wrap (n + n2))), (1, .int .i64 v), (2, .slice A7 (compactB (sortB zs)).length c7)]).run Try.prog u = .ok (.agg #[.int .u64 (IntKind.u64.wrap (n + n2)), .int .i64 v, .slice A7 (compactB (sortB zs)).length c7]) u := fun u => run_build u _ _ _ (by kernel_rfl)
  subst hv9
  rw [built_is] at ho9 hbd ⊢
  have HO9 := Aside0.mk ho9
  have q0 : w9.cell? ⟨g2, 0, none⟩ = some (.int .u64 (IntKind.u64.wrap (n + n2))) := (blk_cell BK2q.out 0).trans rfl
  have q1 : w9.cell? ⟨g2, 1, none⟩ = some (.int .i64 v) := (blk_cell BK2q.out 1).trans rfl
  (have hg4_0 : w9.cell? ⟨g4, 0, none⟩ = some (.int .u64 0) := (blk_cell BK4q.out 0).trans rfl; have hfg4_0 := blk_frozen BK4q.out 0; have hg4_1 : w9.cell? ⟨g4, 1, none⟩ = some (.int .i64 0) := (blk_cell BK4q.out 1).trans rfl; have hfg4_1 := blk_frozen BK4q.out 1; have hg4_2 : w9.cell? ⟨g4, 2, none⟩ = some (.slice none 0 0) := (blk_cell BK4q.out 2).trans rfl; have hfg4_2 := blk_frozen BK4q.out 2)
  clear ho9 hg9
  refine hK.out _ _ ⟨q0, q1⟩ (fun hHeld => ?_)
  clear hK K
  refine norm_ (a' := ?_) ?_ ?_
  rotate_left
  · show Act.put _ (some 72) _ = _
    simp only [Act.put, List.setIfInBounds_toArray, List.set_cons_zero, List.set_cons_succ, i64_w, i32_w]
    rfl
  refine pure_ (i := 6) (N := some 73) (v := ?_) (a' := ?_) #[true, true, true, true, true, true, true, false] rfl rfl (by kernel_rfl) (fun _ _ _ h => h) (Or.inl ⟨by rfl, ?_⟩) ?_ ?_
  rotate_left
  · intro w'
    go_simp
    with_reducible rfl
  rotate_left
  · simp only [Act.put, List.setIfInBounds_toArray, List.set_cons_zero, List.set_cons_succ, i64_w, i32_w]
    rfl
  refine last_ (i := 7) (N := none) #[true, true, true, true, true, true, true, true] rfl rfl (by kernel_rfl) (by decide) (fun K hK => ?_)
  refine skip_ (w1 := ?_) (by rfl) rfl ?_ ?_
  rotate_left
  · go_simp
    rfl
  refine hK.out _ _ ?_
  clear hK K
  refine done_ (by kernel_rfl) ?_
  go_wp2_with fail
  have HT := Aside0.mk (show ∀ q, q ∈ 9 :: Kd.string.E → q ≠ 33 by decide)
  have b1 := blk_set BK4q.out 0 (.int .u64 ((IntKind.u64.wrap (n + n2))))
  have b2 := blk_set b1 1 (.int .i64 (v))
  have b3 := blk_set b2 2 (.slice A7 (builtB zs).length c7)
  have r1 := Kd.R_set (Kd.R_set (Kd.R_set HO9.out BK4q.out HT.out 0 (.int .u64 ((IntKind.u64.wrap (n + n2))))) b1 HT.out 1 (.int .i64 (v))) b2 HT.out 2 (.slice A7 (builtB zs).length c7)
  exact bodyPost_ret (results_cell_row rfl _ _ g4 33 #[.int .u64 ((IntKind.u64.wrap (n + n2))), .int .i64 (v), .slice A7 (builtB zs).length c7] (0, 0) _ rfl b3 Try.underlying33 rfl (by kernel_rfl)) rfl ⟨_, rfl, Kd.R_lower r1 HBv.out.size, below_set (below_set (below_set HB9.out HG4.out) HG4.out) HG4.out⟩
set_option maxRecDepth 100000 in
set_option maxHeartbeats 400000 in
theorem merge_fn (k j v v2 n n2 : Int) (A A2 : Option Addr) (l c l2 c2 : Nat) (w : World) (ka kb kc kd : Value) (e1 : (n == 0) = false) (e2 : (n2 == 0) = false) (xs ys : List ByteArray) (hx : Kd.C Kd.string w A l xs) (hy : Kd.C Kd.string w A2 l2 ys) (hl : xs.length + ys.length < 8796093022208) (hlc : l ≤ c) (hlc2 : l2 ≤ c2) (m : Nat) (hkc : kc = fn m) (f : Func) (hf : Try.prog.funcs[m]? = some f) (hname : (f.name == "runtime.NumGoroutine") = false) (hbody : f.body.isSome = true) (r : Int) (HV : Aside0 (∀ u, Calls Try.prog m #[.int .i64 v, .int .i64 v2] u fun e w' => e = .returned (.int .i64 r) ∧ Below u.heap.size u w')) (HC : Knows k j #[ka, kb, kc, kd] true)
    (h1 : ka.oneCell' = true) (h2 : kb.oneCell' = true) (h3 : kc.oneCell' = true) (h4 : kd.oneCell' = true) :
    Calls Try.prog 17 #[.agg #[.int .i64 k, .int .i64 j], .agg #[.int .u64 n, .int .i64 v, .slice A l c], .agg #[.int .u64 n2, .int .i64 v2, .slice A2 l2 c2]] w (Merged w (IntKind.u64.wrap (n + n2)) r (builtB (xs ++ ys))) := by
  have sa := store_fact h1
  have sb := store_fact h2
  have sc := store_fact h3
  have sd := store_fact h4
  clear h1 h2 h3 h4
  subst hkc
  have hcmp := fn_neq m
  have he := enters_ hf hname hbody
  clear hf hname hbody
  have e3 : (n2 != 0) = true := by rw [bne, e2]; rfl
  have HX := Aside0.mk hx
  have HY := Aside0.mk hy
  have HL := Aside0.mk hl
  have HLc := Aside0.mk (And.intro hlc hlc2)
  clear hx hl hy hlc hlc2
  go_enter Try.func17, Try.ntmps17
  go_wp2_with (first
    | ((with_reducible refine gate_dst (N := 3) rfl ?_); refine box_event ?hg (N := 3) ?hd (cs := #[.int .i64 k, .int .i64 j]) (t := 23) ?hr ?_; (case hd => rfl); (case hg => rfl); (case hr => first | (go_simp; done) | (go_simp; rfl)); intro g1 hg w1 hbox hb; have GE1 := Aside0.mk (Nat.le_of_eq hg.symm); have BK1 := Aside0.mk hbox; have HX1 := Aside0.mk hb; clear hg hbox hb)
    | ((with_reducible refine gate_dst (N := 4) rfl ?_); refine box_event ?hg (N := 4) ?hd (cs := #[.int .u64 n, .int .i64 v, .slice A l c]) (t := 33) ?hr ?_; (case hd => rfl); (case hg => rfl); (case hr => first | (go_simp; done) | (go_simp; rfl)); intro g2 hg w2 hbox hb; have GE2 := Aside0.mk (Nat.le_of_eq hg.symm); have BK2 := Aside0.mk hbox; have HX2 := Aside0.mk hb; clear hg hbox hb)
    | (((with_reducible refine gate_dst (N := 5) rfl ?_); refine box_event ?hg (N := 5) ?hd (cs := #[.int .u64 n2, .int .i64 v2, .slice A2 l2 c2]) (t := 33) ?hr ?_; (case hd => rfl); (case hg => rfl); (case hr => first | (go_simp; done) | (go_simp; rfl)); intro g3 hg w3 hbox hb; have GE3 := Aside0.mk (Nat.le_of_eq hg.symm); have BK3 := Aside0.mk hbox; have HX3 := Aside0.mk hb; clear hg hbox hb); have BK1b := Aside0.mk (blk_below (blk_below BK1.out HX2.out) HX3.out); have BK2b := Aside0.mk (blk_below BK2.out HX3.out); have HB3 := Aside0.mk (below_then (below_then HX1.out HX1.out.size HX2.out) (Nat.le_trans HX1.out.size HX2.out.size) HX3.out); have HG2 := Aside0.mk (Nat.le_trans HX1.out.size GE2.out))
    | (((with_reducible refine gate_dst (N := 6) rfl ?_); refine box_event ?hg (N := 6) ?hd (cs := #[.int .u64 0, .int .i64 0, .slice none 0 0]) (t := 33) ?hr ?_; (case hd => rfl); (case hg => rfl); (case hr => first | (go_simp; done) | (go_simp; rfl)); intro g4 hg w4 hbox hb; have GE4 := Aside0.mk (Nat.le_of_eq hg.symm); have BK4 := Aside0.mk hbox; have HX4 := Aside0.mk hb; clear hg hbox hb); have BK1c := Aside0.mk (blk_below BK1b.out HX4.out); have BK2c := Aside0.mk (blk_below BK2b.out HX4.out); have BK3c := Aside0.mk (blk_below BK3.out HX4.out); have HB4 := Aside0.mk (below_then HB3.out HB3.out.size HX4.out); have HG4 := Aside0.mk (Nat.le_trans HB3.out.size GE4.out); (have hg1_0 : w4.cell? ⟨g1, 0, none⟩ = some (.int .i64 k) := (blk_cell BK1c.out 0).trans rfl; have hfg1_0 := blk_frozen BK1c.out 0; have hg1_1 : w4.cell? ⟨g1, 1, none⟩ = some (.int .i64 j) := (blk_cell BK1c.out 1).trans rfl; have hfg1_1 := blk_frozen BK1c.out 1); have hn24 : g2 ≠ g4 := (by have := blk_lt BK2b.out; have := GE4.out; omega); have hn34 : g3 ≠ g4 := (by have := blk_lt BK3.out; have := GE4.out; omega); have hn23 : g2 ≠ g3 := (by have := blk_lt BK2.out; have := GE3.out; omega))
    | (go_at_call 27; refine (HC _).mono ?_; rintro e w5 ⟨rfl, hb5⟩; have BK4b := Aside0.mk (blk_below BK4.out hb5); have BK2d := Aside0.mk (blk_below BK2c.out hb5); have BK3d := Aside0.mk (blk_below BK3c.out hb5); have HB5 := Aside0.mk (below_then HB4.out HB4.out.size hb5); clear hb5; clear hg1_0 hfg1_0 hg1_1 hfg1_1)
    | (((with_reducible refine gate_dst (N := 7) rfl ?_); refine box_event ?hg (N := 7) ?hd (cs := #[.bool false, .nilFunc, .nilFunc, .nilFunc]) (t := 61) ?hr ?_; (case hd => rfl); (case hg => rfl); (case hr => first | (go_simp; done) | (go_simp; rfl)); intro g6 hg w6 hbox hb; have GE6 := Aside0.mk (Nat.le_of_eq hg.symm); have BK6 := Aside0.mk hbox; have HX6 := Aside0.mk hb; clear hg hbox hb); have BK4c := Aside0.mk (blk_below BK4b.out HX6.out); have BK2e := Aside0.mk (blk_below BK2d.out HX6.out); have BK3e := Aside0.mk (blk_below BK3d.out HX6.out); have HB6 := Aside0.mk (below_then HB5.out HB5.out.size HX6.out); have HG6 := Aside0.mk (Nat.le_trans HB5.out.size GE6.out); (have hg6_0 : w6.cell? ⟨g6, 0, none⟩ = some (.bool false) := (blk_cell BK6.out 0).trans rfl; have hfg6_0 := blk_frozen BK6.out 0; have hg6_1 : w6.cell? ⟨g6, 1, none⟩ = some (.nilFunc) := (blk_cell BK6.out 1).trans rfl; have hfg6_1 := blk_frozen BK6.out 1; have hg6_2 : w6.cell? ⟨g6, 2, none⟩ = some (.nilFunc) := (blk_cell BK6.out 2).trans rfl; have hfg6_2 := blk_frozen BK6.out 2; have hg6_3 : w6.cell? ⟨g6, 3, none⟩ = some (.nilFunc) := (blk_cell BK6.out 3).trans rfl; have hfg6_3 := blk_frozen BK6.out 3); (have hg4_0 : w6.cell? ⟨g4, 0, none⟩ = some (.int .u64 0) := (blk_cell BK4c.out 0).trans rfl; have hfg4_0 := blk_frozen BK4c.out 0; have hg4_1 : w6.cell? ⟨g4, 1, none⟩ = some (.int .i64 0) := (blk_cell BK4c.out 1).trans rfl; have hfg4_1 := blk_frozen BK4c.out 1; have hg4_2 : w6.cell? ⟨g4, 2, none⟩ = some (.slice none 0 0) := (blk_cell BK4c.out 2).trans rfl; have hfg4_2 := blk_frozen BK4c.out 2); (have hg2_0 : w6.cell? ⟨g2, 0, none⟩ = some (.int .u64 n) := (blk_cell BK2e.out 0).trans rfl; have hfg2_0 := blk_frozen BK2e.out 0; have hg2_1 : w6.cell? ⟨g2, 1, none⟩ = some (.int .i64 v) := (blk_cell BK2e.out 1).trans rfl; have hfg2_1 := blk_frozen BK2e.out 1; have hg2_2 : w6.cell? ⟨g2, 2, none⟩ = some (.slice A l c) := (blk_cell BK2e.out 2).trans rfl; have hfg2_2 := blk_frozen BK2e.out 2); (have hg3_0 : w6.cell? ⟨g3, 0, none⟩ = some (.int .u64 n2) := (blk_cell BK3e.out 0).trans rfl; have hfg3_0 := blk_frozen BK3e.out 0; have hg3_1 : w6.cell? ⟨g3, 1, none⟩ = some (.int .i64 v2) := (blk_cell BK3e.out 1).trans rfl; have hfg3_1 := blk_frozen BK3e.out 1; have hg3_2 : w6.cell? ⟨g3, 2, none⟩ = some (.slice A2 l2 c2) := (blk_cell BK3e.out 2).trans rfl; have hfg3_2 := blk_frozen BK3e.out 2); have hn46 : g4 ≠ g6 := (by have := blk_lt BK4b.out; have := GE6.out; omega); have hn26 : g2 ≠ g6 := (by have := blk_lt BK2d.out; have := GE6.out; omega); have hn36 : g3 ≠ g6 := (by have := blk_lt BK3d.out; have := GE6.out; omega))
    | fail)
  have HLn := Aside0.mk (show xs.length = l from HX.out.1)
  have HLm := Aside0.mk (show ys.length = l2 from HY.out.1)
  obtain rfl := HLn.out
  obtain rfl := HLm.out
  have HBW := Aside0.mk (show Below w.heap.size w (((((w6.setCell ⟨g6, 0, none⟩ ka).setCell ⟨g6, 1, none⟩ kb).setCell ⟨g6, 2, none⟩ (.func (.func m) #[] #[])).setCell ⟨g6, 3, none⟩ kd)) from (below_set (below_set (below_set (below_set HB6.out HG6.out) HG6.out) HG6.out) HG6.out))
  have BK2W := Aside0.mk (show (((((w6.setCell ⟨g6, 0, none⟩ ka).setCell ⟨g6, 1, none⟩ kb).setCell ⟨g6, 2, none⟩ (.func (.func m) #[] #[])).setCell ⟨g6, 3, none⟩ kd)).heap[g2]? = some (.cells #[.int .u64 (n), .int .i64 (v), .slice (A) (xs.length) (c)] 33 (0, 0)) from (blk_far (blk_far (blk_far (blk_far BK2e.out hn26 _) hn26 _) hn26 _) hn26 _))
  have BK3W := Aside0.mk (show (((((w6.setCell ⟨g6, 0, none⟩ ka).setCell ⟨g6, 1, none⟩ kb).setCell ⟨g6, 2, none⟩ (.func (.func m) #[] #[])).setCell ⟨g6, 3, none⟩ kd)).heap[g3]? = some (.cells #[.int .u64 n2, .int .i64 v2, .slice A2 (ys.length) c2] 33 (0, 0)) from (blk_far (blk_far (blk_far (blk_far BK3e.out hn36 _) hn36 _) hn36 _) hn36 _))
  have BK4W := Aside0.mk (show (((((w6.setCell ⟨g6, 0, none⟩ ka).setCell ⟨g6, 1, none⟩ kb).setCell ⟨g6, 2, none⟩ (.func (.func m) #[] #[])).setCell ⟨g6, 3, none⟩ kd)).heap[g4]? = some (.cells #[.int .u64 0, .int .i64 0, .slice none 0 0] 33 (0, 0)) from (blk_far (blk_far (blk_far (blk_far BK4c.out hn46 _) hn46 _) hn46 _) hn46 _))
  have HSz := Aside0.mk (show (((((w6.setCell ⟨g6, 0, none⟩ ka).setCell ⟨g6, 1, none⟩ kb).setCell ⟨g6, 2, none⟩ (.func (.func m) #[] #[])).setCell ⟨g6, 3, none⟩ kd)).heap.size = w6.heap.size by simp)
  clear hg6_0 hfg6_0 hg6_1 hfg6_1 hg6_2 hfg6_2 hg6_3 hfg6_3 hg4_0 hfg4_0 hg4_1 hfg4_1 hg4_2 hfg4_2 hg2_0 hfg2_0 hg2_1 hfg2_1 hg2_2 hfg2_2 hg3_0 hfg3_0 hg3_1 hfg3_1 hg3_2 hfg3_2
  generalize ((((w6.setCell ⟨g6, 0, none⟩ ka).setCell ⟨g6, 1, none⟩ kb).setCell ⟨g6, 2, none⟩ (.func (.func m) #[] #[])).setCell ⟨g6, 3, none⟩ kd) = wW at *
  (try rw [← HSz.out])
  refine (HV.out _).mono ?_
  rintro e w7 ⟨rfl, hb7⟩
  have HB7a := Aside0.mk (below_then HBW.out HBW.out.size hb7)
  have BK2x := Aside0.mk (blk_below BK2W.out hb7)
  have BK3x := Aside0.mk (blk_below BK3W.out hb7)
  have BK4x := Aside0.mk (blk_below BK4W.out hb7)
  clear hb7
  (have hg2_0 : w7.cell? ⟨g2, 0, none⟩ = some (.int .u64 n) := (blk_cell BK2x.out 0).trans rfl; have hfg2_0 := blk_frozen BK2x.out 0; have hg2_1 : w7.cell? ⟨g2, 1, none⟩ = some (.int .i64 v) := (blk_cell BK2x.out 1).trans rfl; have hfg2_1 := blk_frozen BK2x.out 1; have hg2_2 : w7.cell? ⟨g2, 2, none⟩ = some (.slice A xs.length c) := (blk_cell BK2x.out 2).trans rfl; have hfg2_2 := blk_frozen BK2x.out 2)
  (have hg3_0 : w7.cell? ⟨g3, 0, none⟩ = some (.int .u64 n2) := (blk_cell BK3x.out 0).trans rfl; have hfg3_0 := blk_frozen BK3x.out 0; have hg3_1 : w7.cell? ⟨g3, 1, none⟩ = some (.int .i64 v2) := (blk_cell BK3x.out 1).trans rfl; have hfg3_1 := blk_frozen BK3x.out 1; have hg3_2 : w7.cell? ⟨g3, 2, none⟩ = some (.slice A2 ys.length c2) := (blk_cell BK3x.out 2).trans rfl; have hfg3_2 := blk_frozen BK3x.out 2)
  go_wp2_with fail
  have HBy := Aside0.mk (show Below w.heap.size w (w7.setCell ⟨g2, 1, none⟩ (.int .i64 r)) from below_set HB7a.out HG2.out)
  have BK2y := Aside0.mk (show (w7.setCell ⟨g2, 1, none⟩ (.int .i64 r)).heap[g2]? = some (.cells #[.int .u64 n, .int .i64 r, .slice A xs.length c] 33 (0, 0)) from blk_set BK2x.out 1 _)
  have BK3y := Aside0.mk (show (w7.setCell ⟨g2, 1, none⟩ (.int .i64 r)).heap[g3]? = some (.cells #[.int .u64 n2, .int .i64 v2, .slice A2 ys.length c2] 33 (0, 0)) from blk_far BK3x.out hn23.symm _)
  have BK4y := Aside0.mk (show (w7.setCell ⟨g2, 1, none⟩ (.int .i64 r)).heap[g4]? = some (.cells #[.int .u64 0, .int .i64 0, .slice none 0 0] 33 (0, 0)) from blk_far BK4x.out hn24.symm _)
  have HSy := Aside0.mk (show (w7.setCell ⟨g2, 1, none⟩ (.int .i64 r)).heap.size = w7.heap.size by simp)
  clear hg2_0 hfg2_0 hg2_1 hfg2_1 hg2_2 hfg2_2
  clear hg3_0 hfg3_0 hg3_1 hfg3_1 hg3_2 hfg3_2
  generalize w7.setCell ⟨g2, 1, none⟩ (.int .i64 r) = wy at *
  rw [← HSy.out]
  have BK2a := Aside0.mk (blk_below BK2y.out (below_alloc (Below.refl wy.heap.size wy) (.cells #[.slice A xs.length c, .slice A2 ys.length c2] 31)))
  have BK3a := Aside0.mk (blk_below BK3y.out (below_alloc (Below.refl wy.heap.size wy) (.cells #[.slice A xs.length c, .slice A2 ys.length c2] 31)))
  have BK4a := Aside0.mk (blk_below BK4y.out (below_alloc (Below.refl wy.heap.size wy) (.cells #[.slice A xs.length c, .slice A2 ys.length c2] 31)))
  have HBa := Aside0.mk (below_alloc' HBy.out (.cells #[.slice A xs.length c, .slice A2 ys.length c2] 31))
  have HC2 := Aside0.mk (C_two (e := 9) (heap_alloc_new wy (.cells #[.slice A xs.length c, .slice A2 ys.length c2] 31)) (Kd.C_below HX.out HBa.out) (Kd.C_below HY.out HBa.out) HLc.out.1 HLc.out.2)
  obtain ⟨kk, hkk⟩ := concat_two xs ys HL.out
  refine (slices_Concat_string_string.calls kk _ 2 [xs, ys] (xs ++ ys) _ HC2.out (Nat.le_refl _) hkk).mono ?_
  rintro e w9 ⟨v9, rfl, ho9, hb9⟩
  clear hkk
  have HL9 := Aside0.mk (show (xs ++ ys).length ≤ 8796093022208 by rw [List.length_append]; have := HL.out; omega)
  generalize xs ++ ys = zs at *
  obtain ⟨A9, c9, rfl, hc9, -⟩ := Kd.R_reads ho9
  have BK2b9 := Aside0.mk (blk_below BK2a.out hb9)
  have BK3b9 := Aside0.mk (blk_below BK3a.out hb9)
  have BK4b9 := Aside0.mk (blk_below BK4a.out hb9)
  have HB9a := Aside0.mk (below_then HBa.out HBa.out.size hb9)
  have HO9a := Aside0.mk ho9
  have hn24' : g2 ≠ g4 := hn24
  clear ho9 hb9 hc9
  (have hg2_0 : w9.cell? ⟨g2, 0, none⟩ = some (.int .u64 n) := (blk_cell BK2b9.out 0).trans rfl; have hfg2_0 := blk_frozen BK2b9.out 0; have hg2_1 : w9.cell? ⟨g2, 1, none⟩ = some (.int .i64 (r)) := (blk_cell BK2b9.out 1).trans rfl; have hfg2_1 := blk_frozen BK2b9.out 1; have hg2_2 : w9.cell? ⟨g2, 2, none⟩ = some (.slice A xs.length c) := (blk_cell BK2b9.out 2).trans rfl; have hfg2_2 := blk_frozen BK2b9.out 2)
  have h39 : w9.cell? ⟨g3, 0, none⟩ = some (.int .u64 n2) := (blk_cell BK3b9.out 0).trans rfl
  go_wp2_with fail
  have HT9 := Aside0.mk (show ∀ q, q ∈ 9 :: Kd.string.E → q ≠ 33 by decide)
  have b91 := blk_set BK2b9.out 2 (.slice A9 zs.length c9)
  have b92 := blk_set b91 0 (.int .u64 (IntKind.u64.wrap (n + n2)))
  have HX9 := Aside0.mk (Kd.R_set (Kd.R_set HO9a.out BK2b9.out HT9.out 2 (.slice A9 zs.length c9)) b91 HT9.out 0 (.int .u64 (IntKind.u64.wrap (n + n2))))
  have BK2v := Aside0.mk (show ((w9.setCell ⟨g2, 2, none⟩ (.slice A9 zs.length c9)).setCell ⟨g2, 0, none⟩ (.int .u64 (IntKind.u64.wrap (n + n2)))).heap[g2]? = some (.cells #[.int .u64 (IntKind.u64.wrap (n + n2)), .int .i64 (r), .slice A9 zs.length c9] 33 (0, 0)) from b92)
  have BK4v := Aside0.mk (show ((w9.setCell ⟨g2, 2, none⟩ (.slice A9 zs.length c9)).setCell ⟨g2, 0, none⟩ (.int .u64 (IntKind.u64.wrap (n + n2)))).heap[g4]? = some (.cells #[.int .u64 0, .int .i64 0, .slice none 0 0] 33 (0, 0)) from blk_far (blk_far BK4b9.out hn24'.symm _) hn24'.symm _)
  have HBv := Aside0.mk (show Below w.heap.size w ((w9.setCell ⟨g2, 2, none⟩ (.slice A9 zs.length c9)).setCell ⟨g2, 0, none⟩ (.int .u64 (IntKind.u64.wrap (n + n2)))) from below_set (below_set HB9a.out HG2.out) HG2.out)
  clear b91 b92 hg2_0 hfg2_0 hg2_1 hfg2_1 hg2_2 hfg2_2 h39
  generalize (w9.setCell ⟨g2, 2, none⟩ (.slice A9 zs.length c9)).setCell ⟨g2, 0, none⟩ (.int .u64 (IntKind.u64.wrap (n + n2))) = wV at *
  have HXv := Aside0.mk (Kd.R_reads' HX9.out).2.2
  refine (clone_strings zs zs.length A9 c9 _ HXv.out (by have := HL9.out; omega)).mono ?_
  rintro e w7 ⟨v7, rfl, ho7, hb7⟩
  obtain ⟨A7, c7, rfl, -, -⟩ := Kd.R_reads ho7
  have HO7 := Aside0.mk ho7
  have HB7 := Aside0.mk (below_then HBv.out HBv.out.size hb7)
  have HN2 := Aside0.mk (show some g2 ≠ (Value.slice A7 zs.length c7).ownBlock from fun e => by have h1 := blk_lt BK2v.out; have h2 := Kd.R_base ho7 _ e.symm; omega)
  have HN4 := Aside0.mk (show some g4 ≠ (Value.slice A7 zs.length c7).ownBlock from fun e => by have h1 := blk_lt BK4v.out; have h2 := Kd.R_base ho7 _ e.symm; omega)
  have HBs := Aside0.mk (show ∀ k, (Value.slice A7 zs.length c7).ownBlock = some k → w.heap.size ≤ k from fun k e => Nat.le_trans HBv.out.size (Kd.R_base ho7 _ e))
  have BK2y := Aside0.mk (blk_below BK2v.out hb7)
  have BK4y := Aside0.mk (blk_below BK4v.out hb7)
  clear ho7 hb7
  go_wp2_with fail
  refine (sort_strings zs w7 _ (fun _ => True) A7 _ c7 HO7.out (by have := HL9.out; omega)).mono ?_
  rintro e w8 ⟨rfl, ho8, hg8⟩
  have HO8 := Aside0.mk ho8
  have HB8 := Aside0.mk (pw_below_grown HB7.out _ HB7.out.size hg8 (fun k hk => HBs.out k hk))
  have BK2z := Aside0.mk (blk_grown BK2y.out hg8 HN2.out)
  have BK4z := Aside0.mk (blk_grown BK4y.out hg8 HN4.out)
  have p0 : w8.cell? ⟨g2, 0, none⟩ = some (.int .u64 (IntKind.u64.wrap (n + n2))) := (blk_cell BK2z.out 0).trans rfl
  have p1 : w8.cell? ⟨g2, 1, none⟩ = some (.int .i64 r) := (blk_cell BK2z.out 1).trans rfl
  clear ho8 hg8 HO7
  go_wp2_with fail
  refine start_ (n := 8) (S := fun w' => w'.cell? ⟨g2, 0, none⟩ = some (.int .u64 (IntKind.u64.wrap (n + n2))) ∧ w'.cell? ⟨g2, 1, none⟩ = some (.int .i64 r)) (ds := [7]) #[false, false, false, false, false, false, false, false] (by kernel_rfl) rfl rfl ⟨p0, p1⟩ (fun hHeld => ?_)
  refine pure_ (i := 0) (N := some 67) (v := ?_) (a' := ?_) #[true, false, false, false, false, false, false, false] rfl rfl (by kernel_rfl) (fun _ _ _ h => h) (Or.inl ⟨by rfl, ?_⟩) ?_ ?_
  rotate_left
  · intro w'
    go_simp
    with_reducible rfl
  rotate_left
  · simp only [Act.put, List.setIfInBounds_toArray, List.set_cons_zero, List.set_cons_succ, i64_w, i32_w]
    rfl
  refine pure_ (i := 2) (N := some 69) (v := ?_) (a' := ?_) #[true, false, true, false, false, false, false, false] rfl rfl (by kernel_rfl) (fun _ _ _ h => h) (Or.inl ⟨by rfl, ?_⟩) ?_ ?_
  rotate_left
  · intro w'
    go_simp
    with_reducible rfl
  rotate_left
  · simp only [Act.put, List.setIfInBounds_toArray, List.set_cons_zero, List.set_cons_succ, i64_w, i32_w]
    rfl
  refine pure_ (i := 4) (N := some 71) (v := ?_) (a' := ?_) #[true, false, true, false, true, false, false, false] rfl rfl (by kernel_rfl) (fun _ _ _ h => h) (Or.inl ⟨by rfl, ?_⟩) ?_ ?_
  rotate_left
  · intro w'
    go_simp
    with_reducible rfl
  rotate_left
  · simp only [Act.put, List.setIfInBounds_toArray, List.set_cons_zero, List.set_cons_succ, i64_w, i32_w]
    rfl
  refine take_ (i := 1) (N := some 68) (v := ?_) (a' := ?_) #[true, true, true, false, true, false, false, false] rfl rfl (by kernel_rfl) (fun _ _ _ h => h) (Or.inl ⟨by rfl, ?_⟩) hHeld ?_ ?_
  rotate_left
  · rintro w' ⟨s0, s1⟩
    go_simp
    with_reducible rfl
  rotate_left
  · simp only [Act.put, List.setIfInBounds_toArray, List.set_cons_zero, List.set_cons_succ, i64_w, i32_w]
    rfl
  refine take_ (i := 3) (N := some 70) (v := ?_) (a' := ?_) #[true, true, true, true, true, false, false, false] rfl rfl (by kernel_rfl) (fun _ _ _ h => h) (Or.inl ⟨by rfl, ?_⟩) hHeld ?_ ?_
  rotate_left
  · rintro w' ⟨s0, s1⟩
    go_simp
    with_reducible rfl
  rotate_left
  · simp only [Act.put, List.setIfInBounds_toArray, List.set_cons_zero, List.set_cons_succ, i64_w, i32_w]
    rfl
  refine one_ (i := 5) (N := some 72) #[true, true, true, true, true, true, false, false] rfl rfl (by kernel_rfl) (by decide) (fun K hK => ?_)
  refine goes_ Try.func31 (by kernel_rfl) rfl #[.slice A7 zs.length c7] (by rfl) rfl rfl (by simp only [List.map_toArray, List.map_cons, List.map_nil]; rfl) ?_
  with_reducible refine (compact_strings (sortB zs) _ _ (fun _ => True) A7 _ c7 (Kd.R_drew HO8.out) (by rw [sortB_length]; have := HL9.out; omega)).mono ?_
  rintro e w9 ⟨v9, rfl, ho9, hv9, hg9⟩
  refine ⟨_, rfl, ?_⟩
  have BK2q := Aside0.mk (blk_grown (blk_drew BK2z.out) hg9 HN2.out)
  have BK4q := Aside0.mk (blk_grown (blk_drew BK4z.out) hg9 HN4.out)
  have HB9 := Aside0.mk (pw_below_grown (below_drew HB8.out) _ (below_drew HB8.out).size hg9 (fun k hk => HBs.out k hk))
  have hbd : ∀ u : World, (Instr.build 33 #[(0, .int .u64 (IntKind.u64.wrap (n + n2))), (1, .int .i64 r), (2, .slice A7 (compactB (sortB zs)).length c7)]).run Try.prog u = .ok (.agg #[.int .u64 (IntKind.u64.wrap (n + n2)), .int .i64 r, .slice A7 (compactB (sortB zs)).length c7]) u := fun u => run_build u _ _ _ (by kernel_rfl)
  subst hv9
  rw [built_is] at ho9 hbd ⊢
  have HO9 := Aside0.mk ho9
  have q0 : w9.cell? ⟨g2, 0, none⟩ = some (.int .u64 (IntKind.u64.wrap (n + n2))) := (blk_cell BK2q.out 0).trans rfl
  have q1 : w9.cell? ⟨g2, 1, none⟩ = some (.int .i64 r) := (blk_cell BK2q.out 1).trans rfl
  (have hg4_0 : w9.cell? ⟨g4, 0, none⟩ = some (.int .u64 0) := (blk_cell BK4q.out 0).trans rfl; have hfg4_0 := blk_frozen BK4q.out 0; have hg4_1 : w9.cell? ⟨g4, 1, none⟩ = some (.int .i64 0) := (blk_cell BK4q.out 1).trans rfl; have hfg4_1 := blk_frozen BK4q.out 1; have hg4_2 : w9.cell? ⟨g4, 2, none⟩ = some (.slice none 0 0) := (blk_cell BK4q.out 2).trans rfl; have hfg4_2 := blk_frozen BK4q.out 2)
  clear ho9 hg9
  refine hK.out _ _ ⟨q0, q1⟩ (fun hHeld => ?_)
  clear hK K
  refine norm_ (a' := ?_) ?_ ?_
  rotate_left
  · show Act.put _ (some 72) _ = _
    simp only [Act.put, List.setIfInBounds_toArray, List.set_cons_zero, List.set_cons_succ, i64_w, i32_w]
    rfl
  refine pure_ (i := 6) (N := some 73) (v := ?_) (a' := ?_) #[true, true, true, true, true, true, true, false] rfl rfl (by kernel_rfl) (fun _ _ _ h => h) (Or.inl ⟨by rfl, ?_⟩) ?_ ?_
  rotate_left
  · intro w'
    go_simp
    with_reducible rfl
  rotate_left
  · simp only [Act.put, List.setIfInBounds_toArray, List.set_cons_zero, List.set_cons_succ, i64_w, i32_w]
    rfl
  refine last_ (i := 7) (N := none) #[true, true, true, true, true, true, true, true] rfl rfl (by kernel_rfl) (by decide) (fun K hK => ?_)
  refine skip_ (w1 := ?_) (by rfl) rfl ?_ ?_
  rotate_left
  · go_simp
    rfl
  refine hK.out _ _ ?_
  clear hK K
  refine done_ (by kernel_rfl) ?_
  go_wp2_with fail
  have HT := Aside0.mk (show ∀ q, q ∈ 9 :: Kd.string.E → q ≠ 33 by decide)
  have b1 := blk_set BK4q.out 0 (.int .u64 ((IntKind.u64.wrap (n + n2))))
  have b2 := blk_set b1 1 (.int .i64 (r))
  have b3 := blk_set b2 2 (.slice A7 (builtB zs).length c7)
  have r1 := Kd.R_set (Kd.R_set (Kd.R_set HO9.out BK4q.out HT.out 0 (.int .u64 ((IntKind.u64.wrap (n + n2))))) b1 HT.out 1 (.int .i64 (r))) b2 HT.out 2 (.slice A7 (builtB zs).length c7)
  exact bodyPost_ret (results_cell_row rfl _ _ g4 33 #[.int .u64 ((IntKind.u64.wrap (n + n2))), .int .i64 (r), .slice A7 (builtB zs).length c7] (0, 0) _ rfl b3 Try.underlying33 rfl (by kernel_rfl)) rfl ⟨_, rfl, Kd.R_lower r1 HBv.out.size, below_set (below_set (below_set HB9.out HG4.out) HG4.out) HG4.out⟩
end Go.Proofs.Ytmjhgeinhhhodaa.P
